/- That the law VersionFinds is true, as a contract. -/
import Derived.Test.YtkfjchmmhabocaaDoorVer5
set_option linter.unusedVariables false
namespace Go.AL
open Go Go.Proofs Go.RowKit

theorem rtext_size (v : Vr) : v.text.size ≤ 17 := by
  by_cases h : v.valid = true
  · rw [text_size h]; omega
  · rw [show v.text = ⟨#[]⟩ from if_neg h]; decide
def mn24 (s : ByteArray) (n : Int) : Int := if n < (s.size : Int) then n else (s.size : Int)
theorem mn24_le (s : ByteArray) (n : Int) (hn : 0 ≤ n) : 0 ≤ mn24 s n ∧ mn24 s n ≤ (s.size : Int) ∧ mn24 s n ≤ n := by unfold mn24; split <;> omega
set_option maxHeartbeats 16000000 in
theorem VersionFinds_spec {oS oR oD : Obj} (G : GOk oS oR oD) (l : List Int) (u w : ByteArray) : Spec Tryd.prog 5 [.t (.sl 1 (l.map (T.int .i64))), .t (.str u), .t (.str w)] [(.par 100, .dat (.fix 1 oS)), (.par 101, .dat (.fix 2 oR)), (.par 102, .dat (.fix 5 oD))] (.t (.bool true)) [(.par 100, .dat (.fix 1 oS)), (.par 101, .dat (.fix 2 oR)), (.par 102, .dat (.fix 5 oD))] := by
  have hA := awake9_spec G
  have hL := Light_spec l
  by_cases h5 : l.length ≤ 500
  · rw [show decide ((l.length : Int) ≤ 500) = true from decide_eq_true (by omega)] at hL
    by_cases hr : u.size ≤ 60 ∧ w.size ≤ 100
    · have hR := Roll_spec l
      have hS := some_spec ⟨l, 0⟩ (by show l.length ≤ 1000; omega)
      have hp := someV_p ⟨l, 0⟩
      have hl2 := someV_l ⟨l, 0⟩
      generalize someV ⟨l, 0⟩ = q at *
      obtain ⟨v, d1⟩ := q
      simp only at *
      have hS2 := some_spec d1 (by rw [hl2]; omega)
      have hp2 := someV_p d1
      generalize someV d1 = q at *
      obtain ⟨v2, d2⟩ := q
      simp only at *
      have hT := RText_spec v (by omega)
      have hT2 := RText_spec v2 (by omega)
      have z1 := rtext_size v
      have z2 := rtext_size v2
      generalize v.text = g1 at *
      generalize v2.text = g2 at *
      generalize v.err = e1 at *
      generalize v2.err = e2 at *
      unfold Vr.toT at *
      obtain ⟨p, mj, mn, fm, sz⟩ := v
      obtain ⟨p2, mj2, mn2, fm2, sz2⟩ := v2
      simp only at *
      have hone : (⟨#[120]⟩ : ByteArray).size = 1 := rfl
      have m1 := mn24_le u 24 (by omega)
      have m2 := mn24_le g1 16 (by omega)
      obtain ⟨S, hSd⟩ : ∃ S, S = [u ++ g1 ++ w, g1 ++ g2, u, u.extract 0 (mn24 u 24).toNat ++ g1, (⟨#[120]⟩ : ByteArray) ++ g1.extract 0 (mn24 g1 16).toNat ++ g2] := ⟨_, rfl⟩
      have hSr : S.map T.str = [.str (u ++ g1 ++ w), .str (g1 ++ g2), .str u, .str (u.extract 0 (mn24 u 24).toNat ++ g1), .str ((⟨#[120]⟩ : ByteArray) ++ g1.extract 0 (mn24 g1 16).toNat ++ g2)] := by rw [hSd]; rfl
      have hSl : S.length = 5 := by rw [hSd]; rfl
      have hSz : ∀ k, k < 5 → (S.getD k default).size ≤ 1000 := fun k hk => by
        obtain rfl | rfl | rfl | rfl | rfl : k = 0 ∨ k = 1 ∨ k = 2 ∨ k = 3 ∨ k = 4 := by omega
        · rw [hSd]; show (u ++ g1 ++ w).size ≤ _; simp only [ByteArray.size_append]; omega
        · rw [hSd]; show (g1 ++ g2).size ≤ _; simp only [ByteArray.size_append]; omega
        · rw [hSd]; show u.size ≤ _; omega
        · rw [hSd]; show (u.extract 0 (mn24 u 24).toNat ++ g1).size ≤ _; simp only [ByteArray.size_append, ByteArray.size_extract]; omega
        · rw [hSd]; show ((⟨#[120]⟩ : ByteArray) ++ g1.extract 0 (mn24 g1 16).toNat ++ g2).size ≤ _; simp only [ByteArray.size_append, ByteArray.size_extract, hone]; omega
      clear hSd
      refine spec_intro (env0 := [(0, _), (1, _), (2, _)]) (st0 := [(_, some _), (_, some _), (_, some _)]) Tryd.func5 rfl rfl rfl rfl ?_
      repeat' (first | (with_reducible refine codeT_seq ?_) | (with_reducible refine codeT_block ?_) | (with_reducible refine codeT_skip ?_) | (with_reducible refine codeT_regionL ?_) | ((with_reducible refine codeT_region_drawL ?_ ?_); · rfl) | (with_reducible refine lx_nil ?_) | (with_reducible refine q_then ?_) | ((with_reducible refine q_region_draw ?_ ?_); · rfl) | (exfalso; omega) | ((with_reducible refine g_move ?_); first | refine lx_move (r := (.t _)) rfl rfl rfl rfl rfl ?_ | refine lx_move (r := (.ref _ _ _ _)) rfl rfl rfl rfl rfl ?_ | refine lx_move (r := (.tup _)) rfl rfl rfl rfl rfl ?_) | ((with_reducible refine g_binOp ?_); first | refine lx_arith rfl rfl rfl rfl rfl rfl rfl ?_ | refine lx_concat rfl rfl rfl rfl rfl rfl ?_ ?_) | ((with_reducible refine g_assign ?_); first | refine lx_assign (r := (.t _)) rfl rfl rfl rfl rfl ?_ | refine lx_assign (r := (.ref _ _ _ _)) rfl rfl rfl rfl rfl ?_) | ((with_reducible refine g_pick ?_); first | refine lx_pickF (r := (.t _)) rfl rfl rfl rfl rfl rfl ?_) | ((with_reducible refine g_unOp ?_); first | refine lx_not rfl rfl rfl rfl rfl ?_) | ((with_reducible refine g_extract ?_); first | refine lx_extract rfl rfl rfl rfl rfl rfl ?_) | ((with_reducible refine g_slice ?_); first | refine lx_slice_str rfl rfl rfl ⟨_, rfl⟩ rfl rfl rfl ?_ ?_ ?_ ?_) | ((with_reducible refine g_buildSlice ?_); first | refine lx_buildSlice rfl rfl rfl rfl rfl rfl rfl ?_) | ((with_reducible refine g_len ?_); first | refine lx_len_str rfl rfl rfl rfl rfl ?_ | refine lx_len_row rfl rfl rfl rfl rfl rfl ?_) | ((with_reducible refine g_min ?_); first | refine lx_min rfl rfl rfl rfl rfl rfl ?_) | ((with_reducible refine g_call ?_); first | refine lx_callT rfl rfl hL rfl rfl (ArgsLE.refl _) rfl rfl rfl rfl rfl ?_ | refine lx_call (r' := .ref (.loc 901) 0 0 0) [(.res 0, .loc 901)] rfl rfl hR (ArgsLE.refl _) rfl trivial rfl rfl rfl rfl rfl rfl rfl rfl rfl rfl ?_ | refine lx_call (r' := .t (.agg [.str p, .int .i64 mj, .int .i64 mn, .int .i64 fm, .int .i64 sz])) [(.par 0, .loc 901)] rfl rfl hS (ArgsLE.refl _) rfl ⟨rfl, trivial⟩ rfl rfl rfl rfl rfl rfl rfl rfl rfl rfl ?_ | refine lx_call (r' := .t (.agg [.str p2, .int .i64 mj2, .int .i64 mn2, .int .i64 fm2, .int .i64 sz2])) [(.par 0, .loc 901)] rfl rfl hS2 (ArgsLE.refl _) rfl ⟨rfl, trivial⟩ rfl rfl rfl rfl rfl rfl rfl rfl rfl rfl ?_ | refine lx_callT rfl rfl hT rfl rfl (ArgsLE.refl _) rfl rfl rfl rfl rfl ?_ | refine lx_callT rfl rfl hT2 rfl rfl (ArgsLE.refl _) rfl rfl rfl rfl rfl ?_) | refine c_condP rfl (fun hc => ?_) (fun hc => ?_) | refine lx_splitP rfl (fun hc => ?_) (fun hc => ?_))
      all_goals try first | exact m1.1 | exact m1.2.1 | exact m2.1 | exact m2.2.1 | omega | (simp only [ByteArray.size_append, ByteArray.size_extract, hone]; omega)
      refine codeT_ghost (ghost_keep2 [72, 73, 74] [.loc 72, .par 100, .par 101, .par 102] rfl rfl) ?_
      refine codeT_loop (fun q env st => ∃ (k : Nat), k ≤ 5 ∧ q = 5 - k ∧
          env = EnvL.get [(72, .row (.loc 72)), (73, .t (.int .i64 5)), (74, .t (.int .i64 (k : Int)))] ∧
          st = StO.get [(.loc 72, some (.slt 9 1 (S.map .str))), (.par 100, some (.dat (.fix 1 oS))), (.par 101, some (.dat (.fix 2 oR))), (.par 102, some (.dat (.fix 5 oD)))])
        ?_ (n := 5) ⟨0, by omega, rfl, rfl, by rw [hSr]; rfl⟩
      rintro q env st ⟨k, hk, rfl, rfl, rfl⟩
      have wk : IntKind.i64.wrap ((k : Int) + 1) = ((k + 1 : Nat) : Int) := by rw [wrap64 (by omega) (by omega)]; omega
      by_cases hlt : k < 5
      · have hx := hSz k hlt
        rw [show S.getD k default = S.getD (k : Int).toNat default from rfl] at hx
        have x1 := VFind_spec G (S.getD (k : Int).toNat default) (by omega)
        have x2 := RFind_spec (S.getD (k : Int).toNat default) (by omega)
        rw [← find_eq] at x2
        generalize findV parseV (S.getD (k : Int).toNat default) 26 0 = Y at *
        obtain ⟨⟨yp, ya, yb, yc, yd⟩, yn, ye⟩ := Y
        unfold Vr.toT at x1 x2
        simp only at x1 x2
        repeat' (first | (with_reducible refine codeT_seq ?_) | (with_reducible refine codeT_block ?_) | (with_reducible refine codeT_skip ?_) | (with_reducible refine codeT_exit ?_) | (with_reducible refine codeT_regionL ?_) | (with_reducible refine lx_nil ?_) | (with_reducible refine q_then ?_) | (with_reducible refine q_then_exit ?_) | (with_reducible refine q_block ?_) | ((with_reducible refine q_block_same ?_ ?_); · rfl) | (with_reducible refine q_loop_exit ?_) | refine lx_neagg (flat24 _ _ _ _ _ _ _ _ _ _) eq24 (vs_eq _ _ _ _ _) rfl rfl rfl rfl rfl rfl ?_ | (exfalso; omega) | ((with_reducible refine g_move ?_); first | refine lx_move (r := (.t _)) rfl rfl rfl rfl rfl ?_ | refine lx_move (r := (.tup _)) rfl rfl rfl rfl rfl ?_) | ((with_reducible refine g_load ?_); first | refine lx_load_varA (r := (.t (.agg _))) rfl rfl rfl rfl rfl rfl rfl rfl rfl ?_ | refine lx_load_elsM rfl rfl rfl rfl rfl rfl rfl rfl ?_ ?_) | ((with_reducible refine g_binOp ?_); first | refine lx_arith rfl rfl rfl rfl rfl rfl rfl ?_) | ((with_reducible refine g_assign ?_); first | refine lx_assign (r := (.t _)) rfl rfl rfl rfl rfl ?_) | ((with_reducible refine g_pick ?_); first | refine lx_pickF (r := (.t _)) rfl rfl rfl rfl rfl rfl ?_) | ((with_reducible refine g_alloc ?_); first | refine lx_alloc rfl rfl rfl rfl rfl rfl rfl ?_) | ((with_reducible refine g_store ?_); first | refine lx_store_var (r := (.t (.agg _))) rfl rfl rfl rfl rfl rfl rfl rfl rfl rfl ?_) | ((with_reducible refine g_indexAddr ?_); first | refine lx_indexAddr_row rfl rfl rfl rfl rfl rfl rfl ?_ ?_ ?_) | ((with_reducible refine g_extract ?_); first | refine lx_extract rfl rfl rfl rfl rfl rfl ?_) | ((with_reducible refine g_call ?_); first | refine lx_callR (r' := (.tup [.t (.agg [.str yp, .int .i64 ya, .int .i64 yb, .int .i64 yc, .int .i64 yd]), .t (.int .i64 yn), .t (.int .i64 ye)])) [] rfl rfl x1 (ArgsLE.refl _) rfl ⟨rfl, rfl, rfl, trivial⟩ rfl rfl rfl rfl rfl rfl rfl rfl ?_ | refine lx_callT rfl rfl x2 rfl rfl (ArgsLE.refl _) rfl rfl rfl rfl rfl ?_) | refine c_condP rfl (fun hc => ?_) (fun hc => ?_) | refine c_condN rfl (fun hc => ?_) (fun hc => ?_) | refine lx_splitN rfl (fun hc => ?_) (fun hc => ?_))
        all_goals try (simp only [List.length_map, hSl]; omega)
        all_goals try omega
        exact q_loop (n' := 5 - (k + 1)) (by omega) (ghost_keep2 [72, 73, 74] [.loc 72, .par 100, .par 101, .par 102] rfl rfl) ⟨k + 1, by omega, rfl, by rw [wk]; rfl, rfl⟩
      · obtain rfl : k = 5 := by omega
        repeat' (first | (with_reducible refine codeT_seq ?_) | (with_reducible refine codeT_ret ?_) | (with_reducible refine codeT_exit ?_) | (with_reducible refine codeT_regionL ?_) | (with_reducible refine lx_nil ?_) | (with_reducible refine q_then ?_) | (with_reducible refine q_then_exit ?_) | ((with_reducible refine q_block_same ?_ ?_); · rfl) | (with_reducible refine q_loop_exit ?_) | refine c_condF rfl ?_ | ((with_reducible refine g_binOp ?_); first | refine lx_arith rfl rfl rfl rfl rfl rfl rfl ?_) | ((with_reducible refine g_assign ?_); first | refine lx_assign (r := (.t _)) rfl rfl rfl rfl rfl ?_) | ((with_reducible refine g_call ?_); first | refine lx_callR (r' := (.t (.bool true))) [] rfl rfl hA (ArgsLE.refl _) rfl ⟨rfl, rfl, rfl, trivial⟩ rfl rfl rfl rfl rfl rfl rfl rfl ?_))
        exact q_ret (resT_oneE rfl rfl rfl) (stHas_spec ⟨rfl, rfl, rfl, trivial⟩)
    · refine spec_intro (env0 := [(0, _), (1, _), (2, _)]) (st0 := [(_, some _), (_, some _), (_, some _)]) Tryd.func5 rfl rfl rfl rfl ?_
      repeat' (first | (with_reducible refine codeT_seq ?_) | (with_reducible refine codeT_skip ?_) | (with_reducible refine codeT_ret ?_) | (with_reducible refine codeT_regionL ?_) | (with_reducible refine lx_nil ?_) | (with_reducible refine q_then ?_) | (with_reducible refine q_then_ret ?_) | refine c_condT rfl ?_ | (exfalso; omega) | ((with_reducible refine g_guard ?_); first | refine lx_skip rfl rfl rfl ?_) | ((with_reducible refine g_move ?_); first | refine lx_move (r := (.t _)) rfl rfl rfl rfl rfl ?_) | ((with_reducible refine g_binOp ?_); first | refine lx_arith rfl rfl rfl rfl rfl rfl rfl ?_) | ((with_reducible refine g_assign ?_); first | refine lx_assign (r := (.t _)) rfl rfl rfl rfl rfl ?_) | ((with_reducible refine g_pick ?_); first | refine lx_pickT (r := (.t _)) rfl rfl rfl rfl rfl rfl ?_ | refine lx_pickF (r := (.t _)) rfl rfl rfl rfl rfl rfl ?_) | ((with_reducible refine g_unOp ?_); first | refine lx_not rfl rfl rfl rfl rfl ?_) | ((with_reducible refine g_len ?_); first | refine lx_len_str rfl rfl rfl rfl rfl ?_) | ((with_reducible refine g_call ?_); first | refine lx_callT rfl rfl hL rfl rfl (ArgsLE.refl _) rfl rfl rfl rfl rfl ?_ | refine lx_callR (r' := (.t (.bool true))) [] rfl rfl hA (ArgsLE.refl _) rfl ⟨rfl, rfl, rfl, trivial⟩ rfl rfl rfl rfl rfl rfl rfl rfl ?_) | refine c_condP rfl (fun hc => ?_) (fun hc => ?_) | refine lx_splitP rfl (fun hc => ?_) (fun hc => ?_))
      all_goals exact q_ret (resT_oneE rfl rfl rfl) (stHas_spec ⟨rfl, rfl, rfl, trivial⟩)
  · rw [show decide ((l.length : Int) ≤ 500) = false from decide_eq_false (by omega)] at hL
    refine spec_intro (env0 := [(0, _), (1, _), (2, _)]) (st0 := [(_, some _), (_, some _), (_, some _)]) Tryd.func5 rfl rfl rfl rfl ?_
    repeat' (first | (with_reducible refine codeT_seq ?_) | (with_reducible refine codeT_ret ?_) | (with_reducible refine codeT_regionL ?_) | (with_reducible refine lx_nil ?_) | (with_reducible refine q_then ?_) | (with_reducible refine q_then_ret ?_) | refine c_condT rfl ?_ | ((with_reducible refine g_guard ?_); first | refine lx_skip rfl rfl rfl ?_) | ((with_reducible refine g_move ?_); first | refine lx_move (r := (.t _)) rfl rfl rfl rfl rfl ?_) | ((with_reducible refine g_assign ?_); first | refine lx_assign (r := (.t _)) rfl rfl rfl rfl rfl ?_) | ((with_reducible refine g_pick ?_); first | refine lx_pickT (r := (.t _)) rfl rfl rfl rfl rfl rfl ?_) | ((with_reducible refine g_unOp ?_); first | refine lx_not rfl rfl rfl rfl rfl ?_) | ((with_reducible refine g_call ?_); first | refine lx_callT rfl rfl hL rfl rfl (ArgsLE.refl _) rfl rfl rfl rfl rfl ?_ | refine lx_callR (r' := (.t (.bool true))) [] rfl rfl hA (ArgsLE.refl _) rfl ⟨rfl, rfl, rfl, trivial⟩ rfl rfl rfl rfl rfl rfl rfl rfl ?_))
    exact q_ret (resT_oneE rfl rfl rfl) (stHas_spec ⟨rfl, rfl, rfl, trivial⟩)
end Go.AL
