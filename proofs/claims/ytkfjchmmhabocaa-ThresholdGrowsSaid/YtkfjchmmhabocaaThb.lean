/- What Sum and Valid of thresholds answer, of both sides. -/
import Derived.Test.YtkfjchmmhabocaaTha
set_option linter.unusedVariables false
namespace Go.AL
open Go Go.Proofs Go.RowKit

end Go.AL
/- Which thresholds are valid, as both sides answer. -/
set_option linter.unusedVariables false
namespace Go.AL
open Go Go.Proofs Go.RowKit

/-- A threshold of no great size. -/
def Th.Sm (t : Th) : Prop := t.w.length ≤ 1000 ∧ ∀ l ∈ t.w, l.length ≤ 1000
theorem getD_mem {α : Type} [Inhabited α] {l : List α} {j : Nat} (h : j < l.length) : l.getD (j : Int).toNat default ∈ l := by
  rw [Int.toNat_natCast, List.getD_eq_getElem?_getD, List.getElem?_eq_getElem h]; exact List.getElem_mem _
set_option maxHeartbeats 4000000 in
theorem keysOf_spec (t : Th) (ht : t.Sm) : Spec Try.prog 27 [.t t.toT] [] (.t (.int .i64 (keysGo t.w 0))) [] := by
  obtain ⟨R, hR⟩ : ∃ R, R = keysGo t.w 0 := ⟨_, rfl⟩
  rw [← hR]
  obtain ⟨tn, w⟩ := t
  unfold Th.toT
  obtain ⟨h1, h2⟩ := ht
  simp only at *
  refine spec_intro (env0 := [(0, _)]) (st0 := []) Try.func27 rfl rfl rfl rfl ?_
  repeat' (first | (with_reducible refine codeT_seq ?_) | (with_reducible refine codeT_block ?_) | (with_reducible refine codeT_regionL ?_) | (with_reducible refine lx_nil ?_) | (with_reducible refine q_then ?_) | ((with_reducible refine g_move ?_); first | refine lx_move (r := (.t _)) rfl rfl rfl rfl rfl ?_) | ((with_reducible refine g_load ?_); first | refine lx_load_var rfl rfl rfl rfl rfl rfl rfl rfl ?_) | ((with_reducible refine g_fieldAddr ?_); first | refine lx_fieldAddr rfl rfl rfl rfl rfl rfl rfl ?_) | ((with_reducible refine g_assign ?_); first | refine lx_assign (r := (.t _)) rfl rfl rfl rfl rfl ?_) | ((with_reducible refine g_box ?_); first | refine lx_box (r := (.t (.agg _))) (cs := (List.map .t _)) rfl rfl rfl rfl rfl rfl rfl rfl rfl ?_) | ((with_reducible refine g_len ?_); first | refine lx_len_map rfl rfl rfl rfl rfl ?_))
  refine codeT_ghost (ghost_keep2 [3, 7, 8, 9] [] rfl rfl) ?_
  refine codeT_loop (fun q env st => ∃ (j n : Nat), j ≤ w.length ∧ q = w.length - j ∧ n ≤ 1000 * j ∧ keysGo (w.drop j) n = R ∧ env = EnvL.get [(3, .t (.int .i64 (n : Int))), (7, .t (.sl 1 (w.map frs))), (8, .t (.int .i64 (w.length : Int))), (9, .t (.int .i64 (j : Int)))] ∧ st = StO.get [])
    ?_ (n := w.length) ⟨0, 0, by omega, rfl, by omega, hR.symm, rfl, rfl⟩
  rintro q env st ⟨j, n, hj, rfl, hn, hG, rfl, rfl⟩
  have wj : IntKind.i64.wrap ((j : Int) + 1) = ((j + 1 : Nat) : Int) := by rw [wrap64 (by omega) (by omega)]; omega
  by_cases hlt : j < w.length
  · have hm := getD_mem hlt
    have hx := h2 _ hm
    rw [drop_getD w j hlt, keysGo, show w.getD j default = w.getD (j : Int).toNat default from rfl] at hG
    have hC := ContainsFr_spec (fun f => !f.wt) 39 (w.getD (j : Int).toNat default) (fun x _ => keysOf1_spec x) (by omega)
    have wn : IntKind.i64.wrap ((n : Int) + ((w.getD (j : Int).toNat default).length : Int)) = ((n + (w.getD (j : Int).toNat default).length : Nat) : Int) := by rw [wrap64 (by omega) (by omega)]; omega
    generalize hA : ((w.getD (j : Int).toNat default).any fun f => !f.wt) = A at *
    by_cases hb : (w.getD (j : Int).toNat default).length = 0 ∨ 8 < n + (w.getD (j : Int).toNat default).length ∨ A = true
    · rw [if_pos hb] at hG
      cases A with
      | true =>
        repeat' (first | (with_reducible refine codeT_seq ?_) | (with_reducible refine codeT_block ?_) | (with_reducible refine codeT_skip ?_) | (with_reducible refine codeT_ret ?_) | (with_reducible refine codeT_exit ?_) | (with_reducible refine codeT_regionL ?_) | (with_reducible refine lx_nil ?_) | (with_reducible refine q_then ?_) | (with_reducible refine q_then_exit ?_) | (with_reducible refine q_then_ret ?_) | (with_reducible refine q_block_ret ?_) | ((with_reducible refine q_block_same ?_ ?_); · rfl) | (with_reducible refine q_loop_exit ?_) | (with_reducible refine q_loop_ret ?_) | refine c_condT rfl ?_ | (exfalso; omega) | ((with_reducible refine g_guard ?_); first | refine lx_skip rfl rfl rfl ?_) | ((with_reducible refine g_move ?_); first | refine lx_move (r := (.t _)) rfl rfl rfl rfl rfl ?_) | ((with_reducible refine g_load ?_); first | refine lx_load_tp rfl rfl rfl rfl rfl rfl rfl ?_) | ((with_reducible refine g_binOp ?_); first | refine lx_arith rfl rfl rfl rfl rfl rfl rfl ?_) | ((with_reducible refine g_assign ?_); first | refine lx_assign (r := (.t _)) rfl rfl rfl rfl rfl ?_) | ((with_reducible refine g_pick ?_); first | refine lx_pickT (r := (.t _)) rfl rfl rfl rfl rfl rfl ?_ | refine lx_pickF (r := (.t _)) rfl rfl rfl rfl rfl rfl ?_) | ((with_reducible refine g_indexAddr ?_); first | refine lx_indexAddr_map rfl rfl rfl rfl rfl rfl ?_ ?_ ?_) | ((with_reducible refine g_len ?_); first | refine lx_len_map rfl rfl rfl rfl rfl ?_) | ((with_reducible refine g_call ?_); first | refine lx_callT rfl rfl hC rfl rfl (ArgsLE.refl _) rfl rfl rfl rfl rfl ?_) | refine c_condP rfl (fun hc => ?_) (fun hc => ?_) | refine lx_splitP rfl (fun hc => ?_) (fun hc => ?_))
        all_goals try (simp only [List.length_map]; omega)
        all_goals try omega
        all_goals try rfl
        all_goals exact q_ret (resT_oneE rfl rfl (congrArg (T.int .i64) hG)) (by simp)
      | false =>
        have hb2 : (w.getD (j : Int).toNat default).length = 0 ∨ 8 < n + (w.getD (j : Int).toNat default).length := by rcases hb with h | h | h <;> simp_all
        repeat' (first | (with_reducible refine codeT_seq ?_) | (with_reducible refine codeT_block ?_) | (with_reducible refine codeT_skip ?_) | (with_reducible refine codeT_ret ?_) | (with_reducible refine codeT_exit ?_) | (with_reducible refine codeT_regionL ?_) | (with_reducible refine lx_nil ?_) | (with_reducible refine q_then ?_) | (with_reducible refine q_then_exit ?_) | (with_reducible refine q_then_ret ?_) | (with_reducible refine q_block_ret ?_) | ((with_reducible refine q_block_same ?_ ?_); · rfl) | (with_reducible refine q_loop_exit ?_) | (with_reducible refine q_loop_ret ?_) | refine c_condT rfl ?_ | (exfalso; omega) | ((with_reducible refine g_guard ?_); first | refine lx_skip rfl rfl rfl ?_) | ((with_reducible refine g_move ?_); first | refine lx_move (r := (.t _)) rfl rfl rfl rfl rfl ?_) | ((with_reducible refine g_load ?_); first | refine lx_load_tp rfl rfl rfl rfl rfl rfl rfl ?_) | ((with_reducible refine g_binOp ?_); first | refine lx_arith rfl rfl rfl rfl rfl rfl rfl ?_) | ((with_reducible refine g_assign ?_); first | refine lx_assign (r := (.t _)) rfl rfl rfl rfl rfl ?_) | ((with_reducible refine g_pick ?_); first | refine lx_pickT (r := (.t _)) rfl rfl rfl rfl rfl rfl ?_ | refine lx_pickF (r := (.t _)) rfl rfl rfl rfl rfl rfl ?_) | ((with_reducible refine g_indexAddr ?_); first | refine lx_indexAddr_map rfl rfl rfl rfl rfl rfl ?_ ?_ ?_) | ((with_reducible refine g_len ?_); first | refine lx_len_map rfl rfl rfl rfl rfl ?_) | refine c_condP rfl (fun hc => ?_) (fun hc => ?_) | refine lx_splitP rfl (fun hc => ?_) (fun hc => ?_))
        all_goals try (simp only [List.length_map]; omega)
        all_goals try omega
        all_goals try rfl
        all_goals exact q_ret (resT_oneE rfl rfl (congrArg (T.int .i64) hG)) (by simp)
    · rw [if_neg hb] at hG
      have hb1 : ¬ (w.getD (j : Int).toNat default).length = 0 := fun h => hb (.inl h)
      have hb2 : ¬ 8 < n + (w.getD (j : Int).toNat default).length := fun h => hb (.inr (.inl h))
      have hb3 : A = false := by cases A with | true => exact absurd (.inr (.inr rfl)) hb | false => rfl
      subst hb3
      repeat' (first | (with_reducible refine codeT_seq ?_) | (with_reducible refine codeT_block ?_) | (with_reducible refine codeT_skip ?_) | (with_reducible refine codeT_exit ?_) | (with_reducible refine codeT_regionL ?_) | (with_reducible refine lx_nil ?_) | (with_reducible refine q_then ?_) | (with_reducible refine q_then_exit ?_) | (with_reducible refine q_block ?_) | ((with_reducible refine q_block_same ?_ ?_); · rfl) | (with_reducible refine q_loop_exit ?_) | refine c_condF rfl ?_ | (exfalso; omega) | ((with_reducible refine g_move ?_); first | refine lx_move (r := (.t _)) rfl rfl rfl rfl rfl ?_) | ((with_reducible refine g_load ?_); first | refine lx_load_tp rfl rfl rfl rfl rfl rfl rfl ?_) | ((with_reducible refine g_binOp ?_); first | refine lx_arith rfl rfl rfl rfl rfl rfl rfl ?_) | ((with_reducible refine g_assign ?_); first | refine lx_assign (r := (.t _)) rfl rfl rfl rfl rfl ?_) | ((with_reducible refine g_pick ?_); first | refine lx_pickF (r := (.t _)) rfl rfl rfl rfl rfl rfl ?_) | ((with_reducible refine g_indexAddr ?_); first | refine lx_indexAddr_map rfl rfl rfl rfl rfl rfl ?_ ?_ ?_) | ((with_reducible refine g_len ?_); first | refine lx_len_map rfl rfl rfl rfl rfl ?_) | ((with_reducible refine g_call ?_); first | refine lx_callT rfl rfl hC rfl rfl (ArgsLE.refl _) rfl rfl rfl rfl rfl ?_) | refine c_condP rfl (fun hc => ?_) (fun hc => ?_) | refine lx_splitP rfl (fun hc => ?_) (fun hc => ?_))
      all_goals try (simp only [List.length_map]; omega)
      all_goals try omega
      all_goals try rfl
      exact q_loop (n' := w.length - (j + 1)) (by omega) (ghost_keep2 [3, 7, 8, 9] [] rfl rfl) ⟨j + 1, n + (w.getD (j : Int).toNat default).length, by omega, rfl, by omega, hG, by rw [wj, wn]; rfl, rfl⟩
  · obtain rfl : j = w.length := by omega
    rw [List.drop_length, keysGo] at hG
    repeat' (first | (with_reducible refine codeT_seq ?_) | (with_reducible refine codeT_block ?_) | (with_reducible refine codeT_skip ?_) | (with_reducible refine codeT_ret ?_) | (with_reducible refine codeT_exit ?_) | (with_reducible refine codeT_regionL ?_) | (with_reducible refine lx_nil ?_) | (with_reducible refine q_then ?_) | (with_reducible refine q_then_exit ?_) | ((with_reducible refine q_block_same ?_ ?_); · rfl) | (with_reducible refine q_loop_exit ?_) | (exfalso; omega) | ((with_reducible refine g_move ?_); first | refine lx_move (r := (.t _)) rfl rfl rfl rfl rfl ?_) | ((with_reducible refine g_binOp ?_); first | refine lx_arith rfl rfl rfl rfl rfl rfl rfl ?_) | ((with_reducible refine g_assign ?_); first | refine lx_assign (r := (.t _)) rfl rfl rfl rfl rfl ?_) | refine c_condP rfl (fun hc => ?_) (fun hc => ?_))
    exact q_ret (resT_oneE rfl rfl (congrArg (T.int .i64) hG)) (by simp)
set_option maxHeartbeats 2000000 in
theorem valid1_spec (l : List Fr) (hl : ∀ f ∈ l, f.wt = true) (h8 : l.length ≤ 8) : Spec Try.prog 29 [.t (frs l)] [] (.t (.bool !(wholeF l))) [] := by
  have h := whole_spec l hl h8
  generalize wholeF l = w at *
  unfold frs at *
  refine spec_intro (env0 := [(0, _)]) (st0 := []) Try.func29 rfl rfl rfl rfl ?_
  repeat' (first | (with_reducible refine codeT_seq ?_) | (with_reducible refine codeT_ret ?_) | (with_reducible refine codeT_regionL ?_) | (with_reducible refine lx_nil ?_) | (with_reducible refine q_then ?_) | ((with_reducible refine g_move ?_); first | refine lx_move (r := (.t _)) rfl rfl rfl rfl rfl ?_) | ((with_reducible refine g_assign ?_); first | refine lx_assign (r := (.t _)) rfl rfl rfl rfl rfl ?_) | ((with_reducible refine g_unOp ?_); first | refine lx_not rfl rfl rfl rfl rfl ?_) | ((with_reducible refine g_call ?_); first | refine lx_callT rfl rfl h rfl rfl (ArgsLE.refl _) rfl rfl rfl rfl rfl ?_))
  exact q_ret (resT_oneE rfl rfl rfl) (by simp)
set_option maxHeartbeats 4000000 in
theorem Valid_spec (t : Th) (k : Int) (ht : t.Sm) : Spec Try.prog 16 [.t t.toT, .t (.int .i64 k)] [] (.t (.bool (validP t k))) [] := by
  have hK := keysOf_spec t ht
  by_cases hg : t.n = 0 ∧ t.w.length ≠ 0 ∧ 0 < k ∧ keysGo t.w 0 = k
  · obtain ⟨g1, g2, g3, g4⟩ := hg
    obtain ⟨i1, i2⟩ := keysGo_ok t.w 0 (by omega)
    obtain ⟨j1, j2⟩ := i1.1 (by omega)
    have hC := ContainsFrs_spec (fun l => !(wholeF l)) 29 t.w (fun l hl => valid1_spec l (j1 l hl).2 (by have := len_le hl; omega)) (by have := ht.1; omega)
    have hv : validP t k = !(t.w.any fun l => !(wholeF l)) := by
      unfold validP
      rw [if_neg (by simp [g1]), if_neg g2, decide_eq_true g3, decide_eq_true g4]; simp
    rw [hv]
    rw [g4] at hK
    generalize (t.w.any fun l => !(wholeF l)) = A at *
    clear i1 i2 j1 j2 hv g4
    obtain ⟨tn, w⟩ := t
    unfold Th.toT at *
    simp only at *
    subst g1
    refine spec_intro (env0 := [(0, _), (1, _)]) (st0 := []) Try.func16 rfl rfl rfl rfl ?_
    repeat' (first | (with_reducible refine codeT_seq ?_) | (with_reducible refine codeT_block ?_) | (with_reducible refine codeT_skip ?_) | (with_reducible refine codeT_ret ?_) | (with_reducible refine codeT_regionL ?_) | (with_reducible refine lx_nil ?_) | (with_reducible refine q_then ?_) | (with_reducible refine q_block ?_) | refine c_condF rfl ?_ | (exfalso; omega) | ((with_reducible refine g_move ?_); first | refine lx_move (r := (.t _)) rfl rfl rfl rfl rfl ?_) | ((with_reducible refine g_load ?_); first | refine lx_load_var rfl rfl rfl rfl rfl rfl rfl rfl ?_ | refine lx_load_varA (r := (.t (.agg _))) rfl rfl rfl rfl rfl rfl rfl rfl rfl ?_) | ((with_reducible refine g_fieldAddr ?_); first | refine lx_fieldAddr rfl rfl rfl rfl rfl rfl rfl ?_) | ((with_reducible refine g_binOp ?_); first | refine lx_arith rfl rfl rfl rfl rfl rfl rfl ?_) | ((with_reducible refine g_assign ?_); first | refine lx_assign (r := (.t _)) rfl rfl rfl rfl rfl ?_) | ((with_reducible refine g_pick ?_); first | refine lx_pickT (r := (.t _)) rfl rfl rfl rfl rfl rfl ?_) | ((with_reducible refine g_box ?_); first | refine lx_box (r := (.t (.agg _))) (cs := (List.map .t _)) rfl rfl rfl rfl rfl rfl rfl rfl rfl ?_) | ((with_reducible refine g_unOp ?_); first | refine lx_not rfl rfl rfl rfl rfl ?_) | ((with_reducible refine g_len ?_); first | refine lx_len_map rfl rfl rfl rfl rfl ?_) | ((with_reducible refine g_call ?_); first | refine lx_callT rfl rfl hK rfl rfl (ArgsLE.refl _) rfl rfl rfl rfl rfl ?_ | refine lx_callT rfl rfl hC rfl rfl (ArgsLE.refl _) rfl rfl rfl rfl rfl ?_) | refine c_condP rfl (fun hc => ?_) (fun hc => ?_) | refine lx_splitP rfl (fun hc => ?_) (fun hc => ?_))
    all_goals exact q_ret (resT_oneE rfl rfl rfl) (by simp)
  · obtain ⟨V, hV⟩ : ∃ V, V = validP t k := ⟨_, rfl⟩
    rw [← hV]
    unfold validP at hV
    have hV2 : V = if t.n ≠ 0 then decide (0 < t.n ∧ t.n ≤ k ∧ k ≤ 8) && decide (t.w.length = 0) else if t.w.length = 0 then decide (k = 0) else false := by
      rw [hV]
      split
      · rfl
      · rename_i h0
        split
        · rfl
        · rename_i h1
          by_cases h2 : 0 < k
          · rw [decide_eq_false (show ¬ keysGo t.w 0 = k from fun h3 => hg ⟨by omega, h1, h2, h3⟩)]; simp
          · rw [decide_eq_false h2]; simp
    clear hV
    generalize keysGo t.w 0 = K at *
    obtain ⟨tn, w⟩ := t
    unfold Th.toT at *
    simp only at *
    refine spec_intro (env0 := [(0, _), (1, _)]) (st0 := []) Try.func16 rfl rfl rfl rfl ?_
    repeat' (first | (with_reducible refine codeT_seq ?_) | (with_reducible refine codeT_block ?_) | (with_reducible refine codeT_skip ?_) | (with_reducible refine codeT_ret ?_) | (with_reducible refine codeT_regionL ?_) | (with_reducible refine lx_nil ?_) | (with_reducible refine q_then ?_) | (with_reducible refine q_then_ret ?_) | (with_reducible refine q_block ?_) | (with_reducible refine q_block_ret ?_) | (exfalso; omega) | ((with_reducible refine g_guard ?_); first | refine lx_skip rfl rfl rfl ?_) | ((with_reducible refine g_move ?_); first | refine lx_move (r := (.t _)) rfl rfl rfl rfl rfl ?_) | ((with_reducible refine g_load ?_); first | refine lx_load_var rfl rfl rfl rfl rfl rfl rfl rfl ?_ | refine lx_load_varA (r := (.t (.agg _))) rfl rfl rfl rfl rfl rfl rfl rfl rfl ?_) | ((with_reducible refine g_fieldAddr ?_); first | refine lx_fieldAddr rfl rfl rfl rfl rfl rfl rfl ?_) | ((with_reducible refine g_binOp ?_); first | refine lx_arith rfl rfl rfl rfl rfl rfl rfl ?_) | ((with_reducible refine g_assign ?_); first | refine lx_assign (r := (.t _)) rfl rfl rfl rfl rfl ?_) | ((with_reducible refine g_pick ?_); first | refine lx_pickT (r := (.t _)) rfl rfl rfl rfl rfl rfl ?_ | refine lx_pickF (r := (.t _)) rfl rfl rfl rfl rfl rfl ?_) | ((with_reducible refine g_box ?_); first | refine lx_box (r := (.t (.agg _))) (cs := (List.map .t _)) rfl rfl rfl rfl rfl rfl rfl rfl rfl ?_) | ((with_reducible refine g_len ?_); first | refine lx_len_map rfl rfl rfl rfl rfl ?_) | ((with_reducible refine g_call ?_); first | refine lx_callT rfl rfl hK rfl rfl (ArgsLE.refl _) rfl rfl rfl rfl rfl ?_) | refine c_condP rfl (fun hc => ?_) (fun hc => ?_) | refine c_condN rfl (fun hc => ?_) (fun hc => ?_) | refine lx_splitP rfl (fun hc => ?_) (fun hc => ?_))
    all_goals refine q_ret (resT_oneE rfl rfl (congrArg T.bool ?_)) (by simp)
    all_goals rw [hV2]
    all_goals clear hV2
    all_goals (repeat' split)
    all_goals first | rfl | (exfalso; omega) | (rw [Bool.eq_iff_iff]; simp only [Bool.and_eq_true, decide_eq_true_eq, Bool.false_eq_true, false_iff, iff_false]; omega)
end Go.AL
