/- That the law VersionPlaces is true, as a contract. -/
import Derived.Test.YtkfjchmmhabocaaDoorVer4
import Derived.Test.YtkfjchmmhabocaaDoorNod1
set_option linter.unusedVariables false
namespace Go.AL
open Go Go.Proofs Go.RowKit

end Go.AL
/- That the law VersionTexts is true, as a contract. -/
set_option linter.unusedVariables false
namespace Go.AL
open Go Go.Proofs Go.RowKit

set_option maxHeartbeats 16000000 in
theorem VersionTexts_spec {oS oR oD : Obj} (G : GOk oS oR oD) (l : List Int) (raw : Vr) (s : ByteArray) (a b : Int) : Spec Tryd.prog 3 [.t (.sl 1 (l.map (T.int .i64))), .t raw.toT, .t (.str s), .t (.int .i64 a), .t (.int .i64 b)] [(.par 100, .dat (.fix 1 oS)), (.par 101, .dat (.fix 2 oR)), (.par 102, .dat (.fix 5 oD))] (.t (.bool true)) [(.par 100, .dat (.fix 1 oS)), (.par 101, .dat (.fix 2 oR)), (.par 102, .dat (.fix 5 oD))] := by
  have hA := awake9_spec G
  have hL := Light_spec l
  by_cases h5 : l.length ≤ 500
  · rw [show decide ((l.length : Int) ≤ 500) = true from decide_eq_true (by omega)] at hL
    by_cases hr : raw.p.size ≤ 100 ∧ s.size ≤ 200
    · have hR := Roll_spec l
      have hS := some_spec ⟨l, 0⟩ (by show l.length ≤ 1000; omega)
      have hp := someV_p ⟨l, 0⟩
      generalize someV ⟨l, 0⟩ = q at *
      obtain ⟨v, d1⟩ := q
      simp only at *
      have hT := RText_spec v (by omega)
      have htx : v.text.size ≤ 17 := by
        by_cases h : v.valid = true
        · rw [text_size h]; omega
        · rw [show v.text = ⟨#[]⟩ from if_neg h]; decide
      have hSp := Spoil_spec v.text a b (by omega)
      have hspz := spoil_size v.text a b
      obtain ⟨L, hLd⟩ : ∃ L, L = [v, raw] := ⟨_, rfl⟩
      have hLp : ∀ k, k < 2 → (L.getD k default).p.size ≤ 1000 := fun k hk => by
        obtain rfl | rfl : k = 0 ∨ k = 1 := by omega
        · rw [hLd]; show v.p.size ≤ _; omega
        · rw [hLd]; show raw.p.size ≤ _; omega
      obtain ⟨S, hSd⟩ : ∃ S, S = [v.text, s, spoil v.text a b, v.text ++ ⟨#[95]⟩] := ⟨_, rfl⟩
      have hone : (⟨#[95]⟩ : ByteArray).size = 1 := rfl
      have hSz : ∀ k, k < 4 → (S.getD k default).size ≤ 1000 := fun k hk => by
        obtain rfl | rfl | rfl | rfl : k = 0 ∨ k = 1 ∨ k = 2 ∨ k = 3 := by omega
        · rw [hSd]; show v.text.size ≤ _; omega
        · rw [hSd]; show s.size ≤ _; omega
        · rw [hSd]; show (spoil v.text a b).size ≤ _; omega
        · rw [hSd]; show (v.text ++ ⟨#[95]⟩).size ≤ _; rw [ByteArray.size_append]; omega
      generalize spoil v.text a b = s2 at *
      obtain ⟨W, hW⟩ : ∃ W, W = v.toT := ⟨_, rfl⟩
      have hLr : L.map Vr.toT = [v.toT, raw.toT] := by rw [hLd]; rfl
      have hSr : S.map T.str = [.str v.text, .str s, .str s2, .str (v.text ++ ⟨#[95]⟩)] := by rw [hSd]; rfl
      have hLl : L.length = 2 := by rw [hLd]; rfl
      have hSl : S.length = 4 := by rw [hSd]; rfl
      clear hLd hSd
      generalize v.text = tv at *
      generalize v.err = ev at *
      unfold Vr.toT at hS hT ⊢
      obtain ⟨p, mj, mn, fm, sz⟩ := v
      obtain ⟨rp, rmj, rmn, rfm, rsz⟩ := raw
      simp only at *
      refine spec_intro (env0 := [(0, _), (1, _), (2, _), (3, _), (4, _)]) (st0 := [(_, some _), (_, some _), (_, some _)]) Tryd.func3 rfl rfl rfl rfl ?_
      repeat' (first | (with_reducible refine codeT_seq ?_) | (with_reducible refine codeT_block ?_) | (with_reducible refine codeT_skip ?_) | (with_reducible refine codeT_regionL ?_) | (with_reducible refine lx_nil ?_) | (with_reducible refine q_then ?_) | (exfalso; omega) | ((with_reducible refine g_move ?_); first | refine lx_move (r := (.t _)) rfl rfl rfl rfl rfl ?_) | ((with_reducible refine g_load ?_); first | refine lx_load_var rfl rfl rfl rfl rfl rfl rfl rfl ?_ | refine lx_load_varA (r := (.t (.agg _))) rfl rfl rfl rfl rfl rfl rfl rfl rfl ?_) | ((with_reducible refine g_fieldAddr ?_); first | refine lx_fieldAddr rfl rfl rfl rfl rfl rfl rfl ?_) | ((with_reducible refine g_binOp ?_); first | refine lx_arith rfl rfl rfl rfl rfl rfl rfl ?_) | ((with_reducible refine g_assign ?_); first | refine lx_assign (r := (.t _)) rfl rfl rfl rfl rfl ?_) | ((with_reducible refine g_pick ?_); first | refine lx_pickF (r := (.t _)) rfl rfl rfl rfl rfl rfl ?_) | ((with_reducible refine g_box ?_); first | refine lx_box (r := (.t (.agg _))) (cs := (List.map .t _)) rfl rfl rfl rfl rfl rfl rfl rfl rfl ?_) | ((with_reducible refine g_alloc ?_); first | refine lx_alloc rfl rfl rfl rfl rfl rfl rfl ?_) | ((with_reducible refine g_store ?_); first | refine lx_store_var (r := (.t (.agg _))) rfl rfl rfl rfl rfl rfl rfl rfl rfl rfl ?_) | ((with_reducible refine g_unOp ?_); first | refine lx_not rfl rfl rfl rfl rfl ?_) | ((with_reducible refine g_buildSlice ?_); first | refine lx_buildSlice rfl rfl rfl rfl rfl rfl rfl ?_) | ((with_reducible refine g_len ?_); first | refine lx_len_str rfl rfl rfl rfl rfl ?_ | refine lx_len_row rfl rfl rfl rfl rfl rfl ?_) | ((with_reducible refine g_call ?_); first | refine lx_callT rfl rfl hL rfl rfl (ArgsLE.refl _) rfl rfl rfl rfl rfl ?_ | refine lx_call (r' := .ref (.loc 901) 0 0 0) [(.res 0, .loc 901)] rfl rfl hR (ArgsLE.refl _) rfl trivial rfl rfl rfl rfl rfl rfl rfl rfl rfl rfl ?_ | refine lx_call (r' := .t (.agg [.str p, .int .i64 mj, .int .i64 mn, .int .i64 fm, .int .i64 sz])) [(.par 0, .loc 901)] rfl rfl hS (ArgsLE.refl _) rfl ⟨rfl, trivial⟩ rfl rfl rfl rfl rfl rfl rfl rfl rfl rfl ?_) | refine c_condP rfl (fun hc => ?_) (fun hc => ?_) | refine lx_splitP rfl (fun hc => ?_) (fun hc => ?_))
      refine codeT_ghost (ghost_keep2 [2, 3, 4, 11, 46, 47, 48] [.loc 11, .loc 46, .par 100, .par 101, .par 102] rfl rfl) ?_
      refine codeT_loop (fun q env st => ∃ (k : Nat), k ≤ 2 ∧ q = 2 - k ∧
          env = EnvL.get [(2, .t (.str s)), (3, .t (.int .i64 a)), (4, .t (.int .i64 b)), (11, .ref (.loc 11) 0 0 0), (46, .row (.loc 46)), (47, .t (.int .i64 2)), (48, .t (.int .i64 (k : Int)))] ∧
          st = StO.get [(.loc 11, some (.var 24 [.t (.str p), .t (.int .i64 mj), .t (.int .i64 mn), .t (.int .i64 fm), .t (.int .i64 sz)])), (.loc 46, some (.slt 24 5 (L.map Vr.toT))), (.par 100, some (.dat (.fix 1 oS))), (.par 101, some (.dat (.fix 2 oR))), (.par 102, some (.dat (.fix 5 oD)))])
        ?_ (n := 2) ⟨0, by omega, rfl, rfl, by rw [hLr]; rfl⟩
      rintro q env st ⟨k, hk, rfl, rfl, rfl⟩
      have wk : IntKind.i64.wrap ((k : Int) + 1) = ((k + 1 : Nat) : Int) := by rw [wrap64 (by omega) (by omega)]; omega
      by_cases hlt : k < 2
      · have hx := hLp k hlt
        rw [show L.getD k default = L.getD (k : Int).toNat default from rfl] at hx
        have x1 := VText_spec G (L.getD (k : Int).toNat default) (by omega)
        have x2 := RText_spec (L.getD (k : Int).toNat default) (by omega)
        have x3 := VValid_spec (L.getD (k : Int).toNat default) (by omega)
        have x4 := RValid_spec (L.getD (k : Int).toNat default) (by omega)
        generalize (L.getD (k : Int).toNat default).text = xt at *
        generalize (L.getD (k : Int).toNat default).err = xe at *
        generalize (L.getD (k : Int).toNat default).valid = xv at *
        repeat' (first | (with_reducible refine codeT_seq ?_) | (with_reducible refine codeT_block ?_) | (with_reducible refine codeT_skip ?_) | (with_reducible refine codeT_exit ?_) | (with_reducible refine codeT_regionL ?_) | ((with_reducible refine codeT_region_drawL ?_ ?_); · rfl) | (with_reducible refine lx_nil ?_) | (with_reducible refine q_then ?_) | (with_reducible refine q_then_exit ?_) | (with_reducible refine q_block ?_) | ((with_reducible refine q_block_same ?_ ?_); · rfl) | (with_reducible refine q_loop_exit ?_) | ((with_reducible refine q_region_draw ?_ ?_); · rfl) | (exfalso; omega) | exact absurd rfl ‹_› | ((with_reducible refine g_move ?_); first | refine lx_move (r := (.t _)) rfl rfl rfl rfl rfl ?_ | refine lx_move (r := (.tup _)) rfl rfl rfl rfl rfl ?_) | ((with_reducible refine g_load ?_); first | refine lx_load_varA (r := (.t (.agg _))) rfl rfl rfl rfl rfl rfl rfl rfl rfl ?_ | refine lx_load_elsAM rfl rfl rfl rfl rfl rfl rfl ?_ ?_ ?_) | ((with_reducible refine g_binOp ?_); first | refine lx_arith rfl rfl rfl rfl rfl rfl rfl ?_ | refine lx_str_ne rfl rfl rfl rfl rfl rfl ?_ | refine lx_bool_ne rfl rfl rfl rfl rfl rfl ?_) | ((with_reducible refine g_assign ?_); first | refine lx_assign (r := (.t _)) rfl rfl rfl rfl rfl ?_) | ((with_reducible refine g_pick ?_); first | refine lx_pickF (r := (.t _)) rfl rfl rfl rfl rfl rfl ?_) | ((with_reducible refine g_alloc ?_); first | refine lx_alloc rfl rfl rfl rfl rfl rfl rfl ?_) | ((with_reducible refine g_store ?_); first | refine lx_store_var (r := (.t (.agg _))) rfl rfl rfl rfl rfl rfl rfl rfl rfl rfl ?_) | ((with_reducible refine g_indexAddr ?_); first | refine lx_indexAddr_row rfl rfl rfl rfl rfl rfl rfl ?_ ?_ ?_) | ((with_reducible refine g_extract ?_); first | refine lx_extract rfl rfl rfl rfl rfl rfl ?_) | ((with_reducible refine g_call ?_); first | refine lx_callR (r' := (.tup [.t (.str xt), .t (.int .i64 xe)])) [] rfl rfl x1 (ArgsLE.refl _) rfl ⟨rfl, rfl, rfl, trivial⟩ rfl rfl rfl rfl rfl rfl rfl rfl ?_ | refine lx_callT rfl rfl x2 rfl rfl (ArgsLE.refl _) rfl rfl rfl rfl rfl ?_ | refine lx_callT rfl rfl x3 rfl rfl (ArgsLE.refl _) rfl rfl rfl rfl rfl ?_ | refine lx_callT rfl rfl x4 rfl rfl (ArgsLE.refl _) rfl rfl rfl rfl rfl ?_) | refine c_condP rfl (fun hc => ?_) (fun hc => ?_) | refine c_condN rfl (fun hc => ?_) (fun hc => ?_) | refine lx_splitN rfl (fun hc => ?_) (fun hc => ?_))
        all_goals try (simp only [List.length_map, hLl]; omega)
        all_goals try omega
        · rfl
        exact q_loop (n' := 2 - (k + 1)) (by omega) (ghost_keep2 [2, 3, 4, 11, 46, 47, 48] [.loc 11, .loc 46, .par 100, .par 101, .par 102] rfl rfl) ⟨k + 1, by omega, rfl, by rw [wk]; rfl, rfl⟩
      · obtain rfl : k = 2 := by omega
        repeat' (first | (with_reducible refine codeT_seq ?_) | (with_reducible refine codeT_block ?_) | (with_reducible refine codeT_exit ?_) | (with_reducible refine codeT_regionL ?_) | (with_reducible refine lx_nil ?_) | (with_reducible refine q_then ?_) | (with_reducible refine q_then_exit ?_) | ((with_reducible refine q_block_same ?_ ?_); · rfl) | (with_reducible refine q_loop_exit ?_) | refine c_condF rfl ?_ | ((with_reducible refine g_move ?_); first | refine lx_move (r := (.t _)) rfl rfl rfl rfl rfl ?_ | refine lx_move (r := (.tup _)) rfl rfl rfl rfl rfl ?_) | ((with_reducible refine g_load ?_); first | refine lx_load_varA (r := (.t (.agg _))) rfl rfl rfl rfl rfl rfl rfl rfl rfl ?_) | ((with_reducible refine g_binOp ?_); first | refine lx_arith rfl rfl rfl rfl rfl rfl rfl ?_ | refine lx_concat rfl rfl rfl rfl rfl rfl ?_ ?_) | ((with_reducible refine g_assign ?_); first | refine lx_assign (r := (.t _)) rfl rfl rfl rfl rfl ?_) | ((with_reducible refine g_extract ?_); first | refine lx_extract rfl rfl rfl rfl rfl rfl ?_) | ((with_reducible refine g_buildSlice ?_); first | refine lx_buildSlice rfl rfl rfl rfl rfl rfl rfl ?_) | ((with_reducible refine g_len ?_); first | refine lx_len_row rfl rfl rfl rfl rfl rfl ?_) | ((with_reducible refine g_call ?_); first | refine lx_callT rfl rfl hT rfl rfl (ArgsLE.refl _) rfl rfl rfl rfl rfl ?_ | refine lx_callT rfl rfl hSp rfl rfl (ArgsLE.refl _) rfl rfl rfl rfl rfl ?_))
        all_goals try omega
        refine codeT_ghost (ghost_keep2 [91, 92, 93] [.loc 91, .par 100, .par 101, .par 102] rfl rfl) ?_
        refine codeT_loop (fun q env st => ∃ (k : Nat), k ≤ 4 ∧ q = 4 - k ∧
            env = EnvL.get [(91, .row (.loc 91)), (92, .t (.int .i64 4)), (93, .t (.int .i64 (k : Int)))] ∧
            st = StO.get [(.loc 91, some (.slt 9 1 (S.map .str))), (.par 100, some (.dat (.fix 1 oS))), (.par 101, some (.dat (.fix 2 oR))), (.par 102, some (.dat (.fix 5 oD)))])
          ?_ (n := 4) ⟨0, by omega, rfl, rfl, by rw [hSr]; rfl⟩
        rintro q env st ⟨k, hk, rfl, rfl, rfl⟩
        have wk : IntKind.i64.wrap ((k : Int) + 1) = ((k + 1 : Nat) : Int) := by rw [wrap64 (by omega) (by omega)]; omega
        by_cases hlt : k < 4
        · have hx := hSz k hlt
          rw [show S.getD k default = S.getD (k : Int).toNat default from rfl] at hx
          have x1 := VParse_spec G (S.getD (k : Int).toNat default) (by omega)
          have x2 := RParse_spec (S.getD (k : Int).toNat default) (by omega)
          rw [← parse_eq] at x2
          generalize parseV (S.getD (k : Int).toNat default) = Y at *
          obtain ⟨⟨yp, ya, yb, yc, yd⟩, ye⟩ := Y
          unfold Vr.toT at x1 x2
          simp only at x1 x2
          repeat' (first | (with_reducible refine codeT_seq ?_) | (with_reducible refine codeT_block ?_) | (with_reducible refine codeT_skip ?_) | (with_reducible refine codeT_exit ?_) | (with_reducible refine codeT_regionL ?_) | (with_reducible refine lx_nil ?_) | (with_reducible refine q_then ?_) | (with_reducible refine q_then_exit ?_) | (with_reducible refine q_block ?_) | ((with_reducible refine q_block_same ?_ ?_); · rfl) | (with_reducible refine q_loop_exit ?_) | refine lx_neagg (flat24 _ _ _ _ _ _ _ _ _ _) eq24 (vs_eq _ _ _ _ _) rfl rfl rfl rfl rfl rfl ?_ | (exfalso; omega) | ((with_reducible refine g_move ?_); first | refine lx_move (r := (.t _)) rfl rfl rfl rfl rfl ?_ | refine lx_move (r := (.tup _)) rfl rfl rfl rfl rfl ?_) | ((with_reducible refine g_load ?_); first | refine lx_load_varA (r := (.t (.agg _))) rfl rfl rfl rfl rfl rfl rfl rfl rfl ?_ | refine lx_load_elsM rfl rfl rfl rfl rfl rfl rfl rfl ?_ ?_) | ((with_reducible refine g_binOp ?_); first | refine lx_arith rfl rfl rfl rfl rfl rfl rfl ?_) | ((with_reducible refine g_assign ?_); first | refine lx_assign (r := (.t _)) rfl rfl rfl rfl rfl ?_) | ((with_reducible refine g_pick ?_); first | refine lx_pickF (r := (.t _)) rfl rfl rfl rfl rfl rfl ?_) | ((with_reducible refine g_alloc ?_); first | refine lx_alloc rfl rfl rfl rfl rfl rfl rfl ?_) | ((with_reducible refine g_store ?_); first | refine lx_store_var (r := (.t (.agg _))) rfl rfl rfl rfl rfl rfl rfl rfl rfl rfl ?_) | ((with_reducible refine g_indexAddr ?_); first | refine lx_indexAddr_row rfl rfl rfl rfl rfl rfl rfl ?_ ?_ ?_) | ((with_reducible refine g_extract ?_); first | refine lx_extract rfl rfl rfl rfl rfl rfl ?_) | ((with_reducible refine g_call ?_); first | refine lx_callR (r' := (.tup [.t (.agg [.str yp, .int .i64 ya, .int .i64 yb, .int .i64 yc, .int .i64 yd]), .t (.int .i64 ye)])) [] rfl rfl x1 (ArgsLE.refl _) rfl ⟨rfl, rfl, rfl, trivial⟩ rfl rfl rfl rfl rfl rfl rfl rfl ?_ | refine lx_callT rfl rfl x2 rfl rfl (ArgsLE.refl _) rfl rfl rfl rfl rfl ?_) | refine c_condP rfl (fun hc => ?_) (fun hc => ?_) | refine c_condN rfl (fun hc => ?_) (fun hc => ?_))
          all_goals try (simp only [List.length_map, hSl]; omega)
          all_goals try omega
          exact q_loop (n' := 4 - (k + 1)) (by omega) (ghost_keep2 [91, 92, 93] [.loc 91, .par 100, .par 101, .par 102] rfl rfl) ⟨k + 1, by omega, rfl, by rw [wk]; rfl, rfl⟩
        · obtain rfl : k = 4 := by omega
          repeat' (first | (with_reducible refine codeT_seq ?_) | (with_reducible refine codeT_ret ?_) | (with_reducible refine codeT_exit ?_) | (with_reducible refine codeT_regionL ?_) | (with_reducible refine lx_nil ?_) | (with_reducible refine q_then ?_) | (with_reducible refine q_then_exit ?_) | ((with_reducible refine q_block_same ?_ ?_); · rfl) | (with_reducible refine q_loop_exit ?_) | refine c_condF rfl ?_ | ((with_reducible refine g_binOp ?_); first | refine lx_arith rfl rfl rfl rfl rfl rfl rfl ?_) | ((with_reducible refine g_assign ?_); first | refine lx_assign (r := (.t _)) rfl rfl rfl rfl rfl ?_) | ((with_reducible refine g_call ?_); first | refine lx_callR (r' := (.t (.bool true))) [] rfl rfl hA (ArgsLE.refl _) rfl ⟨rfl, rfl, rfl, trivial⟩ rfl rfl rfl rfl rfl rfl rfl rfl ?_))
          exact q_ret (resT_oneE rfl rfl rfl) (stHas_spec ⟨rfl, rfl, rfl, trivial⟩)
    · refine spec_intro (env0 := [(0, _), (1, _), (2, _), (3, _), (4, _)]) (st0 := [(_, some _), (_, some _), (_, some _)]) Tryd.func3 rfl rfl rfl rfl ?_
      repeat' (first | (with_reducible refine codeT_seq ?_) | (with_reducible refine codeT_skip ?_) | (with_reducible refine codeT_ret ?_) | (with_reducible refine codeT_regionL ?_) | (with_reducible refine lx_nil ?_) | (with_reducible refine q_then ?_) | (with_reducible refine q_then_ret ?_) | refine c_condT rfl ?_ | (exfalso; omega) | ((with_reducible refine g_guard ?_); first | refine lx_skip rfl rfl rfl ?_) | ((with_reducible refine g_move ?_); first | refine lx_move (r := (.t _)) rfl rfl rfl rfl rfl ?_) | ((with_reducible refine g_load ?_); first | refine lx_load_var rfl rfl rfl rfl rfl rfl rfl rfl ?_) | ((with_reducible refine g_fieldAddr ?_); first | refine lx_fieldAddr rfl rfl rfl rfl rfl rfl rfl ?_) | ((with_reducible refine g_binOp ?_); first | refine lx_arith rfl rfl rfl rfl rfl rfl rfl ?_) | ((with_reducible refine g_assign ?_); first | refine lx_assign (r := (.t _)) rfl rfl rfl rfl rfl ?_) | ((with_reducible refine g_pick ?_); first | refine lx_pickT (r := (.t _)) rfl rfl rfl rfl rfl rfl ?_ | refine lx_pickF (r := (.t _)) rfl rfl rfl rfl rfl rfl ?_) | ((with_reducible refine g_box ?_); first | refine lx_box (r := (.t (.agg _))) (cs := (List.map .t _)) rfl rfl rfl rfl rfl rfl rfl rfl rfl ?_) | ((with_reducible refine g_unOp ?_); first | refine lx_not rfl rfl rfl rfl rfl ?_) | ((with_reducible refine g_len ?_); first | refine lx_len_str rfl rfl rfl rfl rfl ?_) | ((with_reducible refine g_call ?_); first | refine lx_callT rfl rfl hL rfl rfl (ArgsLE.refl _) rfl rfl rfl rfl rfl ?_ | refine lx_callR (r' := (.t (.bool true))) [] rfl rfl hA (ArgsLE.refl _) rfl ⟨rfl, rfl, rfl, trivial⟩ rfl rfl rfl rfl rfl rfl rfl rfl ?_) | refine c_condP rfl (fun hc => ?_) (fun hc => ?_) | refine lx_splitP rfl (fun hc => ?_) (fun hc => ?_))
      all_goals exact q_ret (resT_oneE rfl rfl rfl) (stHas_spec ⟨rfl, rfl, rfl, trivial⟩)
  · rw [show decide ((l.length : Int) ≤ 500) = false from decide_eq_false (by omega)] at hL
    refine spec_intro (env0 := [(0, _), (1, _), (2, _), (3, _), (4, _)]) (st0 := [(_, some _), (_, some _), (_, some _)]) Tryd.func3 rfl rfl rfl rfl ?_
    repeat' (first | (with_reducible refine codeT_seq ?_) | (with_reducible refine codeT_ret ?_) | (with_reducible refine codeT_regionL ?_) | (with_reducible refine lx_nil ?_) | (with_reducible refine q_then ?_) | (with_reducible refine q_then_ret ?_) | refine c_condT rfl ?_ | ((with_reducible refine g_guard ?_); first | refine lx_skip rfl rfl rfl ?_) | ((with_reducible refine g_move ?_); first | refine lx_move (r := (.t _)) rfl rfl rfl rfl rfl ?_) | ((with_reducible refine g_assign ?_); first | refine lx_assign (r := (.t _)) rfl rfl rfl rfl rfl ?_) | ((with_reducible refine g_pick ?_); first | refine lx_pickT (r := (.t _)) rfl rfl rfl rfl rfl rfl ?_) | ((with_reducible refine g_box ?_); first | refine lx_box (r := (.t (.agg _))) (cs := (List.map .t _)) rfl rfl rfl rfl rfl rfl rfl rfl rfl ?_) | ((with_reducible refine g_unOp ?_); first | refine lx_not rfl rfl rfl rfl rfl ?_) | ((with_reducible refine g_call ?_); first | refine lx_callT rfl rfl hL rfl rfl (ArgsLE.refl _) rfl rfl rfl rfl rfl ?_ | refine lx_callR (r' := (.t (.bool true))) [] rfl rfl hA (ArgsLE.refl _) rfl ⟨rfl, rfl, rfl, trivial⟩ rfl rfl rfl rfl rfl rfl rfl rfl ?_))
    exact q_ret (resT_oneE rfl rfl rfl) (stHas_spec ⟨rfl, rfl, rfl, trivial⟩)
end Go.AL
