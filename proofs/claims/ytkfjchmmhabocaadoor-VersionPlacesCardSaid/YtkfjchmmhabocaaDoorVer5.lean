/- That the law VersionPlaces is true, as a contract. -/
import Derived.Test.YtkfjchmmhabocaaDoorVer4
import Derived.Test.YtkfjchmmhabocaaDoorNod1
set_option linter.unusedVariables false
namespace Go.AL
open Go Go.Proofs Go.RowKit

set_option maxHeartbeats 16000000 in
theorem VersionPlaces_spec {oS oR oD : Obj} (G : GOk oS oR oD) (l : List Int) (a : Nat) (ha : a < 256) : Spec Tryd.prog 6 [.t (.sl 1 (l.map (T.int .i64))), .t (.int .u8 (a : Int))] [(.par 100, .dat (.fix 1 oS)), (.par 101, .dat (.fix 2 oR)), (.par 102, .dat (.fix 5 oD))] (.t (.bool true)) [(.par 100, .dat (.fix 1 oS)), (.par 101, .dat (.fix 2 oR)), (.par 102, .dat (.fix 5 oD))] := by
  have hA := awake9_spec G
  have hL := Light_spec l
  by_cases h5 : l.length ≤ 500
  · rw [show decide ((l.length : Int) ≤ 500) = true from decide_eq_true (by omega)] at hL
    have hR := Roll_spec l
    have hS := some_spec ⟨l, 0⟩ (by show l.length ≤ 1000; omega)
    have hp := someV_p ⟨l, 0⟩
    generalize someV ⟨l, 0⟩ = q at *
    obtain ⟨v, d1⟩ := q
    simp only at *
    have hT := VText_spec G v (by omega)
    by_cases hv : v.valid = true
    · have hz := text_size hv
      obtain ⟨n, hn⟩ : ∃ n, n = a % 40 := ⟨_, rfl⟩
      have hN : IntKind.i64.wrap ((a : Int).tmod 40) = (n : Int) := by
        rw [Int.tmod_eq_emod_of_nonneg (by omega), wrap64 (by omega) (by omega)]; omega
      have hBs : (behind n v.text).size = n + 21 := by
        rw [ba_len2, behind_list]
        simp only [List.length_append, List.length_replicate, List.length_cons, List.length_nil]
        rw [← ba_len2, hz]
      have hF := VFind_spec G (behind n v.text) (by omega)
      have hX : findV parseV (behind n v.text) 26 0 = if n ≤ 24 then (v, (n : Int), 0) else (Vr.zero, 0, 10) := by
        by_cases h : n ≤ 24
        · rw [if_pos h]; exact find_behind hv n h 26 0 (by omega) (by omega)
        · rw [if_neg h]; exact find_far n (by omega) _ hz 26 0 (by omega)
      rw [hX] at hF
      clear hX
      rw [show v.err = 0 from if_pos hv] at hT
      unfold behind at hF
      generalize v.text = s at *
      clear hv hp
      unfold Vr.toT at *
      obtain ⟨p, mj, mn, fm, sz⟩ := v
      simp only at *
      refine spec_intro (env0 := [(0, _), (1, _)]) (st0 := [(_, some _), (_, some _), (_, some _)]) Tryd.func6 rfl rfl rfl rfl ?_
      repeat' (first | (with_reducible refine codeT_seq ?_) | (with_reducible refine codeT_block ?_) | (with_reducible refine codeT_skip ?_) | (with_reducible refine codeT_regionL ?_) | (with_reducible refine lx_nil ?_) | (with_reducible refine q_then ?_) | refine c_condF rfl ?_ | ((with_reducible refine g_move ?_); first | refine lx_move (r := (.t _)) rfl rfl rfl rfl rfl ?_ | refine lx_move (r := (.tup _)) rfl rfl rfl rfl rfl ?_) | ((with_reducible refine g_load ?_); first | refine lx_load_varA (r := (.t (.agg _))) rfl rfl rfl rfl rfl rfl rfl rfl rfl ?_) | ((with_reducible refine g_binOp ?_); first | refine lx_arith rfl rfl rfl rfl rfl rfl rfl ?_ | refine lx_rem rfl rfl rfl rfl rfl rfl (by decide) ?_) | ((with_reducible refine g_assign ?_); first | refine lx_assign (r := (.t _)) rfl rfl rfl rfl rfl ?_) | ((with_reducible refine g_alloc ?_); first | refine lx_alloc rfl rfl rfl rfl rfl rfl rfl ?_) | ((with_reducible refine g_store ?_); first | refine lx_store_var (r := (.t (.agg _))) rfl rfl rfl rfl rfl rfl rfl rfl rfl rfl ?_) | ((with_reducible refine g_unOp ?_); first | refine lx_not rfl rfl rfl rfl rfl ?_) | ((with_reducible refine g_convert ?_); first | refine lx_conv_int rfl rfl rfl rfl rfl ?_) | ((with_reducible refine g_extract ?_); first | refine lx_extract rfl rfl rfl rfl rfl rfl ?_) | ((with_reducible refine g_call ?_); first | refine lx_callT rfl rfl hL rfl rfl (ArgsLE.refl _) rfl rfl rfl rfl rfl ?_ | refine lx_call (r' := .ref (.loc 901) 0 0 0) [(.res 0, .loc 901)] rfl rfl hR (ArgsLE.refl _) rfl trivial rfl rfl rfl rfl rfl rfl rfl rfl rfl rfl ?_ | refine lx_call (r' := .t (.agg [.str p, .int .i64 mj, .int .i64 mn, .int .i64 fm, .int .i64 sz])) [(.par 0, .loc 901)] rfl rfl hS (ArgsLE.refl _) rfl ⟨rfl, trivial⟩ rfl rfl rfl rfl rfl rfl rfl rfl rfl rfl ?_ | refine lx_callR (r' := (.tup [.t (.str s), .t (.int .i64 0)])) [] rfl rfl hT (ArgsLE.refl _) rfl ⟨rfl, rfl, rfl, trivial⟩ rfl rfl rfl rfl rfl rfl rfl rfl ?_))
      all_goals try omega
      rw [hN]
      refine codeT_ghost (ghost_keep2 [5, 6, 8, 9, 31, 32] [.loc 5, .par 100, .par 101, .par 102] rfl rfl) ?_
      refine codeT_loop (fun q env st => ∃ (j : Nat), j ≤ n ∧ q = n - j ∧
          env = EnvL.get [(5, .ref (.loc 5) 0 0 0), (6, .t (.str s)), (8, .t (.int .i64 (n : Int))), (9, .t (.str (dots j))), (31, .t (.int .i64 (n : Int))), (32, .t (.int .i64 (j : Int)))] ∧
          st = StO.get [(.loc 5, some (.var 24 [.t (.str p), .t (.int .i64 mj), .t (.int .i64 mn), .t (.int .i64 fm), .t (.int .i64 sz)])), (.par 100, some (.dat (.fix 1 oS))), (.par 101, some (.dat (.fix 2 oR))), (.par 102, some (.dat (.fix 5 oD)))])
        ?_ (n := n) ⟨0, by omega, rfl, rfl, rfl⟩
      rintro q env st ⟨j, hj, rfl, rfl, rfl⟩
      have wj : IntKind.i64.wrap ((j : Int) + 1) = ((j + 1 : Nat) : Int) := by rw [wrap64 (by omega) (by omega)]; omega
      have hds : (dots j).size = j := by unfold dots; rw [ofL_size, List.length_replicate]
      have hdot : dots j ++ ⟨#[46]⟩ = dots (j + 1) := by
        unfold dots
        rw [show (⟨#[46]⟩ : ByteArray) = ofL [46] from rfl, ofL_app, ← List.replicate_succ']
      have hone : (⟨#[46]⟩ : ByteArray).size = 1 := rfl
      have htail : (⟨#[116, 97, 105, 108]⟩ : ByteArray).size = 4 := rfl
      by_cases hlt : j < n
      · repeat' (first | (with_reducible refine codeT_seq ?_) | (with_reducible refine codeT_block ?_) | (with_reducible refine codeT_skip ?_) | (with_reducible refine codeT_exit ?_) | (with_reducible refine codeT_regionL ?_) | (with_reducible refine lx_nil ?_) | (with_reducible refine q_then ?_) | (with_reducible refine q_then_exit ?_) | (with_reducible refine q_block ?_) | ((with_reducible refine q_block_same ?_ ?_); · rfl) | (with_reducible refine q_loop_exit ?_) | (exfalso; omega) | ((with_reducible refine g_move ?_); first | refine lx_move (r := (.t _)) rfl rfl rfl rfl rfl ?_) | ((with_reducible refine g_binOp ?_); first | refine lx_arith rfl rfl rfl rfl rfl rfl rfl ?_ | refine lx_concat rfl rfl rfl rfl rfl rfl ?_ ?_) | ((with_reducible refine g_assign ?_); first | refine lx_assign (r := (.t _)) rfl rfl rfl rfl rfl ?_) | refine c_condP rfl (fun hc => ?_) (fun hc => ?_))
        · rw [hds, hone]; omega
        exact q_loop (n' := n - (j + 1)) (by omega) (ghost_keep2 [5, 6, 8, 9, 31, 32] [.loc 5, .par 100, .par 101, .par 102] rfl rfl) ⟨j + 1, by omega, rfl, by rw [hdot, wj]; rfl, rfl⟩
      · obtain rfl : j = n := by omega
        by_cases h24 : j ≤ 24
        · rw [if_pos h24] at hF
          simp only at hF
          generalize dots j = D at *
          repeat' (first | (with_reducible refine codeT_seq ?_) | (with_reducible refine codeT_block ?_) | (with_reducible refine codeT_skip ?_) | (with_reducible refine codeT_ret ?_) | (with_reducible refine codeT_exit ?_) | (with_reducible refine codeT_regionL ?_) | (with_reducible refine lx_nil ?_) | (with_reducible refine q_then ?_) | (with_reducible refine q_then_exit ?_) | ((with_reducible refine q_block_same ?_ ?_); · rfl) | (with_reducible refine q_loop_exit ?_) | refine lx_eqagg (flat24 _ _ _ _ _ _ _ _ _ _) eq24 (vs_eq _ _ _ _ _) rfl rfl rfl rfl rfl rfl ?_ | (exfalso; omega) | ((with_reducible refine g_move ?_); first | refine lx_move (r := (.t _)) rfl rfl rfl rfl rfl ?_ | refine lx_move (r := (.tup _)) rfl rfl rfl rfl rfl ?_) | ((with_reducible refine g_load ?_); first | refine lx_load_varA (r := (.t (.agg _))) rfl rfl rfl rfl rfl rfl rfl rfl rfl ?_) | ((with_reducible refine g_binOp ?_); first | refine lx_arith rfl rfl rfl rfl rfl rfl rfl ?_ | refine lx_concat rfl rfl rfl rfl rfl rfl ?_ ?_) | ((with_reducible refine g_assign ?_); first | refine lx_assign (r := (.t _)) rfl rfl rfl rfl rfl ?_) | ((with_reducible refine g_pick ?_); first | refine lx_pickT (r := (.t _)) rfl rfl rfl rfl rfl rfl ?_) | ((with_reducible refine g_alloc ?_); first | refine lx_alloc rfl rfl rfl rfl rfl rfl rfl ?_) | ((with_reducible refine g_store ?_); first | refine lx_store_var (r := (.t (.agg _))) rfl rfl rfl rfl rfl rfl rfl rfl rfl rfl ?_) | ((with_reducible refine g_extract ?_); first | refine lx_extract rfl rfl rfl rfl rfl rfl ?_) | ((with_reducible refine g_call ?_); first | refine lx_callR (r' := (.t (.bool true))) [] rfl rfl hA (ArgsLE.refl _) rfl ⟨rfl, rfl, rfl, trivial⟩ rfl rfl rfl rfl rfl rfl rfl rfl ?_ | refine lx_callR (r' := (.tup [.t (.agg [.str p, .int .i64 mj, .int .i64 mn, .int .i64 fm, .int .i64 sz]), .t (.int .i64 (j : Int)), .t (.int .i64 0)])) [] rfl rfl hF (ArgsLE.refl _) rfl ⟨rfl, rfl, rfl, trivial⟩ rfl rfl rfl rfl rfl rfl rfl rfl ?_) | refine c_condP rfl (fun hc => ?_) (fun hc => ?_) | refine lx_splitP rfl (fun hc => ?_) (fun hc => ?_))
          all_goals try (rw [ByteArray.size_append, htail]; omega)
          all_goals try omega
          all_goals exact q_ret (resT_oneE rfl rfl rfl) (stHas_spec ⟨rfl, rfl, rfl, trivial⟩)
        · rw [if_neg h24] at hF
          simp only [Vr.zero] at hF
          generalize dots j = D at *
          repeat' (first | (with_reducible refine codeT_seq ?_) | (with_reducible refine codeT_block ?_) | (with_reducible refine codeT_skip ?_) | (with_reducible refine codeT_ret ?_) | (with_reducible refine codeT_exit ?_) | (with_reducible refine codeT_regionL ?_) | (with_reducible refine lx_nil ?_) | (with_reducible refine q_then ?_) | (with_reducible refine q_then_exit ?_) | (with_reducible refine q_then_ret ?_) | ((with_reducible refine q_block_same ?_ ?_); · rfl) | (with_reducible refine q_loop_exit ?_) | (exfalso; omega) | ((with_reducible refine g_move ?_); first | refine lx_move (r := (.t _)) rfl rfl rfl rfl rfl ?_ | refine lx_move (r := (.tup _)) rfl rfl rfl rfl rfl ?_) | ((with_reducible refine g_binOp ?_); first | refine lx_arith rfl rfl rfl rfl rfl rfl rfl ?_ | refine lx_concat rfl rfl rfl rfl rfl rfl ?_ ?_) | ((with_reducible refine g_assign ?_); first | refine lx_assign (r := (.t _)) rfl rfl rfl rfl rfl ?_) | ((with_reducible refine g_pick ?_); first | refine lx_pickT (r := (.t _)) rfl rfl rfl rfl rfl rfl ?_) | ((with_reducible refine g_alloc ?_); first | refine lx_alloc rfl rfl rfl rfl rfl rfl rfl ?_) | ((with_reducible refine g_store ?_); first | refine lx_store_var (r := (.t (.agg _))) rfl rfl rfl rfl rfl rfl rfl rfl rfl rfl ?_) | ((with_reducible refine g_extract ?_); first | refine lx_extract rfl rfl rfl rfl rfl rfl ?_) | ((with_reducible refine g_call ?_); first | refine lx_callR (r' := (.t (.bool true))) [] rfl rfl hA (ArgsLE.refl _) rfl ⟨rfl, rfl, rfl, trivial⟩ rfl rfl rfl rfl rfl rfl rfl rfl ?_ | refine lx_callR (r' := (.tup [.t (.agg [.str ⟨#[]⟩, .int .i64 0, .int .i64 0, .int .i64 0, .int .i64 0]), .t (.int .i64 0), .t (.int .i64 10)])) [] rfl rfl hF (ArgsLE.refl _) rfl ⟨rfl, rfl, rfl, trivial⟩ rfl rfl rfl rfl rfl rfl rfl rfl ?_) | refine c_condP rfl (fun hc => ?_) (fun hc => ?_))
          all_goals try (rw [ByteArray.size_append, htail]; omega)
          all_goals try omega
          all_goals exact q_ret (resT_oneE rfl rfl rfl) (stHas_spec ⟨rfl, rfl, rfl, trivial⟩)
    · rw [show v.err = 2 from if_neg hv, show v.text = ⟨#[]⟩ from if_neg hv] at hT
      clear hv hp
      unfold Vr.toT at *
      obtain ⟨p, mj, mn, fm, sz⟩ := v
      simp only at *
      refine spec_intro (env0 := [(0, _), (1, _)]) (st0 := [(_, some _), (_, some _), (_, some _)]) Tryd.func6 rfl rfl rfl rfl ?_
      repeat' (first | (with_reducible refine codeT_seq ?_) | (with_reducible refine codeT_skip ?_) | (with_reducible refine codeT_ret ?_) | (with_reducible refine codeT_regionL ?_) | (with_reducible refine lx_nil ?_) | (with_reducible refine q_then ?_) | (with_reducible refine q_then_ret ?_) | refine c_condT rfl ?_ | refine c_condF rfl ?_ | ((with_reducible refine g_move ?_); first | refine lx_move (r := (.t _)) rfl rfl rfl rfl rfl ?_ | refine lx_move (r := (.tup _)) rfl rfl rfl rfl rfl ?_) | ((with_reducible refine g_load ?_); first | refine lx_load_varA (r := (.t (.agg _))) rfl rfl rfl rfl rfl rfl rfl rfl rfl ?_) | ((with_reducible refine g_binOp ?_); first | refine lx_arith rfl rfl rfl rfl rfl rfl rfl ?_) | ((with_reducible refine g_assign ?_); first | refine lx_assign (r := (.t _)) rfl rfl rfl rfl rfl ?_) | ((with_reducible refine g_alloc ?_); first | refine lx_alloc rfl rfl rfl rfl rfl rfl rfl ?_) | ((with_reducible refine g_store ?_); first | refine lx_store_var (r := (.t (.agg _))) rfl rfl rfl rfl rfl rfl rfl rfl rfl rfl ?_) | ((with_reducible refine g_unOp ?_); first | refine lx_not rfl rfl rfl rfl rfl ?_) | ((with_reducible refine g_extract ?_); first | refine lx_extract rfl rfl rfl rfl rfl rfl ?_) | ((with_reducible refine g_call ?_); first | refine lx_callT rfl rfl hL rfl rfl (ArgsLE.refl _) rfl rfl rfl rfl rfl ?_ | refine lx_callR (r' := (.t (.bool true))) [] rfl rfl hA (ArgsLE.refl _) rfl ⟨rfl, rfl, rfl, trivial⟩ rfl rfl rfl rfl rfl rfl rfl rfl ?_ | refine lx_call (r' := .ref (.loc 901) 0 0 0) [(.res 0, .loc 901)] rfl rfl hR (ArgsLE.refl _) rfl trivial rfl rfl rfl rfl rfl rfl rfl rfl rfl rfl ?_ | refine lx_call (r' := .t (.agg [.str p, .int .i64 mj, .int .i64 mn, .int .i64 fm, .int .i64 sz])) [(.par 0, .loc 901)] rfl rfl hS (ArgsLE.refl _) rfl ⟨rfl, trivial⟩ rfl rfl rfl rfl rfl rfl rfl rfl rfl rfl ?_ | refine lx_callR (r' := (.tup [.t (.str ⟨#[]⟩), .t (.int .i64 2)])) [] rfl rfl hT (ArgsLE.refl _) rfl ⟨rfl, rfl, rfl, trivial⟩ rfl rfl rfl rfl rfl rfl rfl rfl ?_))
      all_goals exact q_ret (resT_oneE rfl rfl rfl) (stHas_spec ⟨rfl, rfl, rfl, trivial⟩)
  · rw [show decide ((l.length : Int) ≤ 500) = false from decide_eq_false (by omega)] at hL
    refine spec_intro (env0 := [(0, _), (1, _)]) (st0 := [(_, some _), (_, some _), (_, some _)]) Tryd.func6 rfl rfl rfl rfl ?_
    repeat' (first | (with_reducible refine codeT_seq ?_) | (with_reducible refine codeT_ret ?_) | (with_reducible refine codeT_regionL ?_) | (with_reducible refine lx_nil ?_) | (with_reducible refine q_then ?_) | (with_reducible refine q_then_ret ?_) | refine c_condT rfl ?_ | ((with_reducible refine g_move ?_); first | refine lx_move (r := (.t _)) rfl rfl rfl rfl rfl ?_) | ((with_reducible refine g_assign ?_); first | refine lx_assign (r := (.t _)) rfl rfl rfl rfl rfl ?_) | ((with_reducible refine g_unOp ?_); first | refine lx_not rfl rfl rfl rfl rfl ?_) | ((with_reducible refine g_call ?_); first | refine lx_callT rfl rfl hL rfl rfl (ArgsLE.refl _) rfl rfl rfl rfl rfl ?_ | refine lx_callR (r' := (.t (.bool true))) [] rfl rfl hA (ArgsLE.refl _) rfl ⟨rfl, rfl, rfl, trivial⟩ rfl rfl rfl rfl rfl rfl rfl rfl ?_))
    exact q_ret (resT_oneE rfl rfl rfl) (stHas_spec ⟨rfl, rfl, rfl, trivial⟩)
theorem VersionPlacesI_spec {oS oR oD : Obj} (G : GOk oS oR oD) (l : List Int) (a : Int) (h : 0 ≤ a ∧ a < 256) : Spec Tryd.prog 6 [.t (.sl 1 (l.map (T.int .i64))), .t (.int .u8 a)] [(.par 100, .dat (.fix 1 oS)), (.par 101, .dat (.fix 2 oR)), (.par 102, .dat (.fix 5 oD))] (.t (.bool true)) [(.par 100, .dat (.fix 1 oS)), (.par 101, .dat (.fix 2 oR)), (.par 102, .dat (.fix 5 oD))] := by
  obtain ⟨n, rfl⟩ : ∃ n : Nat, a = (n : Int) := ⟨a.toNat, by omega⟩
  exact VersionPlaces_spec G l n (by omega)
end Go.AL
