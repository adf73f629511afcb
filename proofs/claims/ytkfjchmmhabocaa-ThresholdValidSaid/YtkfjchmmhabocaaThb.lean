/- What Sum and Valid of thresholds answer, of both sides. -/
import Derived.Test.YtkfjchmmhabocaaTha
set_option linter.unusedVariables false
namespace Go.AL
open Go Go.Proofs Go.RowKit

set_option maxHeartbeats 4000000 in
theorem Sum_spec (l : List Fr) (hl : l.length ≤ 1000000) : Spec Try.prog 21 [.t (frs l)] [] (.tup [.t (sumF l).toT, .t (.int .i64 (sumE l))]) [] := by
  by_cases h8 : l.length ≤ 8
  · have hC := ContainsFr_spec (fun f => !f.wt) 31 l (fun x _ => sum1_spec x) (by omega)
    by_cases hw : ∀ f ∈ l, f.wt = true
    · have hE : sumE l = 0 := sumE_ok.2 ⟨h8, hw⟩
      have hT := total_spec l hw h8
      have hA : l.any (fun f => !f.wt) = false := by
        rw [List.any_eq_false]; intro f hf; rw [hw f hf]; decide
      rw [hA] at hC
      rw [hE, show sumF l = totF l from if_pos hE]
      generalize totF l = S at *
      unfold Fr.toT at hT ⊢
      unfold frs at *
      refine spec_intro (env0 := [(0, _)]) (st0 := []) Try.func21 rfl rfl rfl rfl ?_
      repeat' (first | (with_reducible refine codeT_seq ?_) | (with_reducible refine codeT_block ?_) | (with_reducible refine codeT_skip ?_) | (with_reducible refine codeT_ret ?_) | (with_reducible refine codeT_regionL ?_) | (with_reducible refine lx_nil ?_) | (with_reducible refine q_then ?_) | (with_reducible refine q_block ?_) | refine c_condF rfl ?_ | (exfalso; omega) | ((with_reducible refine g_move ?_); first | refine lx_move (r := (.t _)) rfl rfl rfl rfl rfl ?_) | ((with_reducible refine g_binOp ?_); first | refine lx_arith rfl rfl rfl rfl rfl rfl rfl ?_) | ((with_reducible refine g_assign ?_); first | refine lx_assign (r := (.t _)) rfl rfl rfl rfl rfl ?_) | ((with_reducible refine g_alloc ?_); first | refine lx_alloc rfl rfl rfl rfl rfl rfl rfl ?_) | ((with_reducible refine g_store ?_); first | refine lx_store_var (r := (.t (.agg _))) rfl rfl rfl rfl rfl rfl rfl rfl rfl rfl ?_) | ((with_reducible refine g_len ?_); first | refine lx_len_map rfl rfl rfl rfl rfl ?_) | ((with_reducible refine g_call ?_); first | refine lx_callT rfl rfl hC rfl rfl (ArgsLE.refl _) rfl rfl rfl rfl rfl ?_ | refine lx_callT rfl rfl hT rfl rfl (ArgsLE.refl _) rfl rfl rfl rfl rfl ?_) | refine c_condP rfl (fun hc => ?_) (fun hc => ?_))
      refine q_ret ?_ (stHas_spec trivial); refine resT_cell_tmp rfl rfl rfl inferInstance rfl inferInstance rfl ?_ ?_; exact TLe.av (by repeat first | exact TLe.refl _ | exact TLe.nil _ | exact TLe.esl _ | refine TLe.agg ?_ | refine TLs.cons ?_ ?_ | exact TLs.nil); exact AVLE.refl _
    · have hA : l.any (fun f => !f.wt) = true := by
        cases h : l.any (fun f => !f.wt) with
        | true => rfl
        | false =>
          exact absurd (fun f hf => by have := List.any_eq_false.1 h f hf; simpa using this) hw
      have hE : sumE l = 2 := by unfold sumE; rw [if_neg (by omega), if_pos hA]
      rw [hA] at hC
      rw [hE, show sumF l = ⟨0, 0⟩ from if_neg (by omega)]
      unfold Fr.toT frs at *
      refine spec_intro (env0 := [(0, _)]) (st0 := []) Try.func21 rfl rfl rfl rfl ?_
      repeat' (first | (with_reducible refine codeT_seq ?_) | (with_reducible refine codeT_block ?_) | (with_reducible refine codeT_ret ?_) | (with_reducible refine codeT_regionL ?_) | (with_reducible refine lx_nil ?_) | (with_reducible refine q_then ?_) | (with_reducible refine q_then_ret ?_) | (with_reducible refine q_block_ret ?_) | refine c_condT rfl ?_ | (exfalso; omega) | ((with_reducible refine g_move ?_); first | refine lx_move (r := (.t _)) rfl rfl rfl rfl rfl ?_) | ((with_reducible refine g_binOp ?_); first | refine lx_arith rfl rfl rfl rfl rfl rfl rfl ?_) | ((with_reducible refine g_assign ?_); first | refine lx_assign (r := (.t _)) rfl rfl rfl rfl rfl ?_) | ((with_reducible refine g_alloc ?_); first | refine lx_alloc rfl rfl rfl rfl rfl rfl rfl ?_) | ((with_reducible refine g_store ?_); first | refine lx_store_var (r := (.t (.agg _))) rfl rfl rfl rfl rfl rfl rfl rfl rfl rfl ?_) | ((with_reducible refine g_build ?_); first | refine lx_build (r := (.t (.agg _))) rfl rfl rfl rfl rfl rfl rfl ?_) | ((with_reducible refine g_len ?_); first | refine lx_len_map rfl rfl rfl rfl rfl ?_) | ((with_reducible refine g_call ?_); first | refine lx_callT rfl rfl hC rfl rfl (ArgsLE.refl _) rfl rfl rfl rfl rfl ?_) | refine c_condP rfl (fun hc => ?_) (fun hc => ?_))
      refine q_ret ?_ (stHas_spec trivial); refine resT_cell_tmp rfl rfl rfl inferInstance rfl inferInstance rfl ?_ ?_; exact TLe.av (by repeat first | exact TLe.refl _ | exact TLe.nil _ | exact TLe.esl _ | refine TLe.agg ?_ | refine TLs.cons ?_ ?_ | exact TLs.nil); exact AVLE.refl _
  · have hE : sumE l = 3 := by unfold sumE; rw [if_pos (by omega)]
    rw [hE, show sumF l = ⟨0, 0⟩ from if_neg (by omega)]
    unfold Fr.toT frs
    refine spec_intro (env0 := [(0, _)]) (st0 := []) Try.func21 rfl rfl rfl rfl ?_
    repeat' (first | (with_reducible refine codeT_seq ?_) | (with_reducible refine codeT_block ?_) | (with_reducible refine codeT_ret ?_) | (with_reducible refine codeT_regionL ?_) | (with_reducible refine lx_nil ?_) | (with_reducible refine q_then ?_) | (with_reducible refine q_then_ret ?_) | (with_reducible refine q_block_ret ?_) | (exfalso; omega) | ((with_reducible refine g_move ?_); first | refine lx_move (r := (.t _)) rfl rfl rfl rfl rfl ?_) | ((with_reducible refine g_binOp ?_); first | refine lx_arith rfl rfl rfl rfl rfl rfl rfl ?_) | ((with_reducible refine g_assign ?_); first | refine lx_assign (r := (.t _)) rfl rfl rfl rfl rfl ?_) | ((with_reducible refine g_alloc ?_); first | refine lx_alloc rfl rfl rfl rfl rfl rfl rfl ?_) | ((with_reducible refine g_store ?_); first | refine lx_store_var (r := (.t (.agg _))) rfl rfl rfl rfl rfl rfl rfl rfl rfl rfl ?_) | ((with_reducible refine g_build ?_); first | refine lx_build (r := (.t (.agg _))) rfl rfl rfl rfl rfl rfl rfl ?_) | ((with_reducible refine g_len ?_); first | refine lx_len_map rfl rfl rfl rfl rfl ?_) | refine c_condP rfl (fun hc => ?_) (fun hc => ?_))
    refine q_ret ?_ (stHas_spec trivial); refine resT_cell_tmp rfl rfl rfl inferInstance rfl inferInstance rfl ?_ ?_; exact TLe.av (by repeat first | exact TLe.refl _ | exact TLe.nil _ | exact TLe.esl _ | refine TLe.agg ?_ | refine TLs.cons ?_ ?_ | exact TLs.nil); exact AVLE.refl _
/-- How the sum of a weight comes, in the document. -/
theorem add_words (s f : Fr) (k : Nat) (hk : k ≤ 7) (hs : s.Bd k) (hf : f.wt = true) :
    IntKind.i64.wrap (IntKind.i64.wrap (s.n * f.d) + IntKind.i64.wrap (f.n * s.d)) = s.n * f.d + f.n * s.d ∧ IntKind.i64.wrap (s.d * f.d) = s.d * f.d ∧
    0 ≤ s.n * f.d + f.n * s.d ∧ s.n * f.d + f.n * s.d < 9223372036854775808 ∧ 1 ≤ s.d * f.d ∧ s.d * f.d < 9223372036854775808 ∧ 1 ≤ gcdI (s.n * f.d + f.n * s.d) (s.d * f.d) ∧
    IntKind.i64.wrap ((s.n * f.d + f.n * s.d).tdiv (gcdI (s.n * f.d + f.n * s.d) (s.d * f.d))) = (addF s f).n ∧ IntKind.i64.wrap ((s.d * f.d).tdiv (gcdI (s.n * f.d + f.n * s.d) (s.d * f.d))) = (addF s f).d := by
  obtain ⟨m1, m2, m3, m4, m5, m6, m7, m8⟩ := add_mid hs hf
  have hp := p8 (k + 1) (by omega)
  have hkk : ((k : Int) + 1) * (s.d * f.d) ≤ 8 * (s.d * f.d) := Int.mul_le_mul_of_nonneg_right (by omega) (by omega)
  obtain ⟨g1, g2, g3, g4⟩ := gcdI_facts m1 m3
  have w1 : IntKind.i64.wrap (s.n * f.d) = s.n * f.d := wrap64 (by omega) (by omega)
  have w2 : IntKind.i64.wrap (f.n * s.d) = f.n * s.d := wrap64 (by omega) (by omega)
  have w3 : IntKind.i64.wrap (s.n * f.d + f.n * s.d) = s.n * f.d + f.n * s.d := wrap64 (by omega) (by omega)
  have w4 : IntKind.i64.wrap (s.d * f.d) = s.d * f.d := wrap64 (by omega) (by omega)
  refine ⟨by rw [w1, w2, w3], w4, m1, by omega, m3, by omega, g1, ?_, ?_⟩
  · rw [Int.tdiv_eq_ediv_of_nonneg m1]
    have h0 := Int.ediv_nonneg m1 (show 0 ≤ gcdI (s.n * f.d + f.n * s.d) (s.d * f.d) by omega)
    have h1 := Int.ediv_le_self (gcdI (s.n * f.d + f.n * s.d) (s.d * f.d)) m1
    exact wrap64 (by omega) (by omega)
  · rw [Int.tdiv_eq_ediv_of_nonneg (by omega)]
    have h0 := Int.ediv_nonneg (show 0 ≤ s.d * f.d by omega) (show 0 ≤ gcdI (s.n * f.d + f.n * s.d) (s.d * f.d) by omega)
    have h1 := Int.ediv_le_self (gcdI (s.n * f.d + f.n * s.d) (s.d * f.d)) (show 0 ≤ s.d * f.d by omega)
    exact wrap64 (by omega) (by omega)
set_option maxHeartbeats 8000000 in
theorem RSum_spec (l : List Fr) (hl : l.length ≤ 1000000) : Spec Try.prog 22 [.t (frs l)] [] (.tup [.t (sumF l).toT, .t (.int .i64 (sumE l))]) [] := by
  by_cases h8 : l.length ≤ 8
  · obtain ⟨E, hE⟩ : ∃ E, E = sumE l := ⟨_, rfl⟩
    obtain ⟨F, hF⟩ : ∃ F, F = sumF l := ⟨_, rfl⟩
    rw [← hE, ← hF]
    unfold frs
    refine spec_intro (env0 := [(0, _)]) (st0 := []) Try.func22 rfl rfl rfl rfl ?_
    repeat' (first | (with_reducible refine codeT_seq ?_) | (with_reducible refine codeT_block ?_) | (with_reducible refine codeT_skip ?_) | (with_reducible refine codeT_regionL ?_) | (with_reducible refine lx_nil ?_) | (with_reducible refine q_then ?_) | (exfalso; omega) | ((with_reducible refine g_move ?_); first | refine lx_move (r := (.t _)) rfl rfl rfl rfl rfl ?_) | ((with_reducible refine g_binOp ?_); first | refine lx_arith rfl rfl rfl rfl rfl rfl rfl ?_) | ((with_reducible refine g_assign ?_); first | refine lx_assign (r := (.t _)) rfl rfl rfl rfl rfl ?_) | ((with_reducible refine g_alloc ?_); first | refine lx_alloc rfl rfl rfl rfl rfl rfl rfl ?_) | ((with_reducible refine g_len ?_); first | refine lx_len_map rfl rfl rfl rfl rfl ?_) | refine c_condP rfl (fun hc => ?_) (fun hc => ?_))
    refine codeT_ghost (ghost_keep2 [0, 2, 3, 14, 15, 16] [.loc 2] rfl rfl) ?_
    refine codeT_loop (fun q env st => ∃ (j : Nat), j ≤ l.length ∧ q = l.length - j ∧ (∀ i, i < j → (l.getD i default).wt = true) ∧ env = EnvL.get [(0, .t (.sl 2 (l.map Fr.toT))), (2, .ref (.loc 2) 0 0 0), (3, .t (.int .i64 0)), (14, .t (.sl 2 (l.map Fr.toT))), (15, .t (.int .i64 (l.length : Int))), (16, .t (.int .i64 (j : Int)))] ∧
        st = StO.get [(.loc 2, some (.var 38 [.t (.int .i64 0), .t (.int .i64 0)]))])
      ?_ (n := l.length) ⟨0, by omega, rfl, fun i hi => by omega, rfl, rfl⟩
    rintro q env st ⟨j, hj, rfl, hall, rfl, rfl⟩
    have wj : IntKind.i64.wrap ((j : Int) + 1) = ((j + 1 : Nat) : Int) := by rw [wrap64 (by omega) (by omega)]; omega
    by_cases hlt : j < l.length
    · have hcl := rweight_spec (l.getD (j : Int).toNat default)
      by_cases hw : (l.getD (j : Int).toNat default).wt = true
      · rw [hw] at hcl
        repeat' (first | (with_reducible refine codeT_seq ?_) | (with_reducible refine codeT_block ?_) | (with_reducible refine codeT_skip ?_) | (with_reducible refine codeT_exit ?_) | (with_reducible refine codeT_regionL ?_) | (with_reducible refine lx_nil ?_) | (with_reducible refine q_then ?_) | (with_reducible refine q_then_exit ?_) | (with_reducible refine q_block ?_) | ((with_reducible refine q_block_same ?_ ?_); · rfl) | (with_reducible refine q_loop_exit ?_) | refine c_condF rfl ?_ | (exfalso; omega) | ((with_reducible refine g_move ?_); first | refine lx_move (r := (.t _)) rfl rfl rfl rfl rfl ?_) | ((with_reducible refine g_load ?_); first | refine lx_load_varA (r := (.t (.agg _))) rfl rfl rfl rfl rfl rfl rfl rfl rfl ?_ | refine lx_load_tpA rfl rfl rfl rfl rfl rfl rfl rfl ?_) | ((with_reducible refine g_binOp ?_); first | refine lx_arith rfl rfl rfl rfl rfl rfl rfl ?_) | ((with_reducible refine g_alloc ?_); first | refine lx_alloc rfl rfl rfl rfl rfl rfl rfl ?_) | ((with_reducible refine g_store ?_); first | refine lx_store_var (r := (.t (.agg _))) rfl rfl rfl rfl rfl rfl rfl rfl rfl rfl ?_) | ((with_reducible refine g_indexAddr ?_); first | refine lx_indexAddr_map rfl rfl rfl rfl rfl rfl ?_ ?_ ?_) | ((with_reducible refine g_unOp ?_); first | refine lx_not rfl rfl rfl rfl rfl ?_) | ((with_reducible refine g_call ?_); first | refine lx_callT rfl rfl hcl rfl rfl (ArgsLE.refl _) rfl rfl rfl rfl rfl ?_) | refine c_condP rfl (fun hc => ?_) (fun hc => ?_))
        all_goals try (simp only [List.length_map]; omega)
        all_goals try omega
        all_goals try rfl
        exact q_loop (n' := l.length - (j + 1)) (by omega) (ghost_keep2 [0, 2, 3, 14, 15, 16] [.loc 2] rfl rfl) ⟨j + 1, by omega, rfl, fun i hi => by
          rcases Nat.lt_or_ge i j with h | h
          · exact hall i h
          · obtain rfl : i = j := by omega
            exact hw, by rw [wj]; rfl, rfl⟩
      · have hne : E = 2 := by
          rw [hE]
          rcases sumE_cases l with h | h | h
          · exact absurd ((sumE_ok.1 h).2 _ (by rw [Int.toNat_natCast, List.getD_eq_getElem?_getD, List.getElem?_eq_getElem hlt]; exact List.getElem_mem _)) hw
          · exact h
          · unfold sumE at h; rw [if_neg (by omega)] at h; split at h <;> omega
        have hF2 : F = ⟨0, 0⟩ := by rw [hF]; exact if_neg (by omega)
        rw [show (l.getD (j : Int).toNat default).wt = false by simpa using hw] at hcl
        rw [hne, hF2]
        repeat' (first | (with_reducible refine codeT_seq ?_) | (with_reducible refine codeT_block ?_) | (with_reducible refine codeT_skip ?_) | (with_reducible refine codeT_ret ?_) | (with_reducible refine codeT_exit ?_) | (with_reducible refine codeT_regionL ?_) | (with_reducible refine lx_nil ?_) | (with_reducible refine q_then ?_) | (with_reducible refine q_then_exit ?_) | (with_reducible refine q_then_ret ?_) | (with_reducible refine q_block_ret ?_) | ((with_reducible refine q_block_same ?_ ?_); · rfl) | (with_reducible refine q_loop_exit ?_) | (with_reducible refine q_loop_ret ?_) | refine c_condT rfl ?_ | (exfalso; omega) | ((with_reducible refine g_load ?_); first | refine lx_load_varA (r := (.t (.agg _))) rfl rfl rfl rfl rfl rfl rfl rfl rfl ?_ | refine lx_load_tpA rfl rfl rfl rfl rfl rfl rfl rfl ?_) | ((with_reducible refine g_binOp ?_); first | refine lx_arith rfl rfl rfl rfl rfl rfl rfl ?_) | ((with_reducible refine g_assign ?_); first | refine lx_assign (r := (.t _)) rfl rfl rfl rfl rfl ?_) | ((with_reducible refine g_alloc ?_); first | refine lx_alloc rfl rfl rfl rfl rfl rfl rfl ?_) | ((with_reducible refine g_store ?_); first | refine lx_store_var (r := (.t (.agg _))) rfl rfl rfl rfl rfl rfl rfl rfl rfl rfl ?_) | ((with_reducible refine g_indexAddr ?_); first | refine lx_indexAddr_map rfl rfl rfl rfl rfl rfl ?_ ?_ ?_) | ((with_reducible refine g_unOp ?_); first | refine lx_not rfl rfl rfl rfl rfl ?_) | ((with_reducible refine g_build ?_); first | refine lx_build (r := (.t (.agg _))) rfl rfl rfl rfl rfl rfl rfl ?_) | ((with_reducible refine g_call ?_); first | refine lx_callT rfl rfl hcl rfl rfl (ArgsLE.refl _) rfl rfl rfl rfl rfl ?_) | refine c_condP rfl (fun hc => ?_) (fun hc => ?_))
        all_goals try (simp only [List.length_map]; omega)
        all_goals try omega
        all_goals try rfl
        unfold Fr.toT
        refine q_ret ?_ (stHas_spec trivial); refine resT_cell_tmp rfl rfl rfl inferInstance rfl inferInstance rfl ?_ ?_; exact TLe.av (by repeat first | exact TLe.refl _ | exact TLe.nil _ | exact TLe.esl _ | refine TLe.agg ?_ | refine TLs.cons ?_ ?_ | exact TLs.nil); exact AVLE.refl _
    · obtain rfl : j = l.length := by omega
      have hwt : ∀ f ∈ l, f.wt = true := fun f hf => by
        obtain ⟨i, hi, rfl⟩ := List.mem_iff_getElem.1 hf
        have := hall i hi
        rwa [List.getD_eq_getElem?_getD, List.getElem?_eq_getElem hi] at this
      have hE0 : E = 0 := by rw [hE]; exact sumE_ok.2 ⟨h8, hwt⟩
      have hF0 : F = totF l := by rw [hF]; exact if_pos (by omega)
      rw [hE0, hF0]
      repeat' (first | (with_reducible refine codeT_seq ?_) | (with_reducible refine codeT_block ?_) | (with_reducible refine codeT_skip ?_) | (with_reducible refine codeT_exit ?_) | (with_reducible refine codeT_regionL ?_) | (with_reducible refine lx_nil ?_) | (with_reducible refine q_then ?_) | (with_reducible refine q_then_exit ?_) | ((with_reducible refine q_block_same ?_ ?_); · rfl) | (with_reducible refine q_loop_exit ?_) | (exfalso; omega) | ((with_reducible refine g_move ?_); first | refine lx_move (r := (.t _)) rfl rfl rfl rfl rfl ?_) | ((with_reducible refine g_binOp ?_); first | refine lx_arith rfl rfl rfl rfl rfl rfl rfl ?_) | ((with_reducible refine g_alloc ?_); first | refine lx_alloc rfl rfl rfl rfl rfl rfl rfl ?_) | ((with_reducible refine g_store ?_); first | refine lx_store_var (r := (.t (.agg _))) rfl rfl rfl rfl rfl rfl rfl rfl rfl rfl ?_) | ((with_reducible refine g_build ?_); first | refine lx_build (r := (.t (.agg _))) rfl rfl rfl rfl rfl rfl rfl ?_) | ((with_reducible refine g_len ?_); first | refine lx_len_map rfl rfl rfl rfl rfl ?_) | refine c_condP rfl (fun hc => ?_) (fun hc => ?_))
      refine codeT_ghost (ghost_keep2 [2, 3, 6, 26, 27, 28] [.loc 2, .loc 6] rfl rfl) ?_
      refine codeT_loop (fun q env st => ∃ (j : Nat), j ≤ l.length ∧ q = l.length - j ∧ env = EnvL.get [(2, .ref (.loc 2) 0 0 0), (3, .t (.int .i64 0)), (6, .ref (.loc 6) 0 0 0), (26, .t (.sl 2 (l.map Fr.toT))), (27, .t (.int .i64 (l.length : Int))), (28, .t (.int .i64 (j : Int)))] ∧
          st = StO.get [(.loc 2, some (.var 38 [.t (.int .i64 0), .t (.int .i64 0)])), (.loc 6, some (.var 38 [.t (.int .i64 (totF (l.take j)).n), .t (.int .i64 (totF (l.take j)).d)]))])
        ?_ (n := l.length) ⟨0, by omega, rfl, rfl, rfl⟩
      rintro q env st ⟨j, hj, rfl, rfl, rfl⟩
      have wj : IntKind.i64.wrap ((j : Int) + 1) = ((j + 1 : Nat) : Int) := by rw [wrap64 (by omega) (by omega)]; omega
      by_cases hlt : j < l.length
      · have hm : l.getD (j : Int).toNat default ∈ l := by rw [Int.toNat_natCast, List.getD_eq_getElem?_getD, List.getElem?_eq_getElem hlt]; exact List.getElem_mem _
        have ht := tot_take l j hlt
        rw [show l.getD j default = l.getD (j : Int).toNat default from rfl] at ht
        obtain ⟨a1, a2, a3, a4, a5, a6, a7, a8, a9⟩ := add_words (totF (l.take j)) (l.getD (j : Int).toNat default) j (by omega) (tot_bd l hwt j hj) (hwt _ hm)
        have hg := gcd_spec ((totF (l.take j)).n * (l.getD (j : Int).toNat default).d + (l.getD (j : Int).toNat default).n * (totF (l.take j)).d).toNat ((totF (l.take j)).d * (l.getD (j : Int).toNat default).d).toNat (by omega) (by omega)
        rw [Int.toNat_of_nonneg a3, Int.toNat_of_nonneg (by omega)] at hg
        change Spec _ _ _ _ (.t (.int .i64 (gcdI ((totF (l.take j)).n * (l.getD (j : Int).toNat default).d + (l.getD (j : Int).toNat default).n * (totF (l.take j)).d) ((totF (l.take j)).d * (l.getD (j : Int).toNat default).d)))) _ at hg
        rw [← ht] at a8 a9
        generalize hS1 : totF (l.take (j + 1)) = S1 at *
        generalize totF (l.take j) = S0 at *
        generalize hG : gcdI (S0.n * (l.getD (j : Int).toNat default).d + (l.getD (j : Int).toNat default).n * S0.d) (S0.d * (l.getD (j : Int).toNat default).d) = G at *
        have hgn : G ≠ 0 := by omega
        rw [← a1, ← a2] at hg
        repeat' (first | (with_reducible refine codeT_seq ?_) | (with_reducible refine codeT_block ?_) | (with_reducible refine codeT_skip ?_) | (with_reducible refine codeT_exit ?_) | (with_reducible refine codeT_regionL ?_) | ((with_reducible refine codeT_region_drawL ?_ ?_); · rfl) | (with_reducible refine lx_nil ?_) | (with_reducible refine q_then ?_) | (with_reducible refine q_then_exit ?_) | (with_reducible refine q_block ?_) | ((with_reducible refine q_block_same ?_ ?_); · rfl) | (with_reducible refine q_loop_exit ?_) | ((with_reducible refine q_region_draw ?_ ?_); · rfl) | (exfalso; omega) | ((with_reducible refine g_move ?_); first | refine lx_move (r := (.t _)) rfl rfl rfl rfl rfl ?_) | ((with_reducible refine g_load ?_); first | refine lx_load_var rfl rfl rfl rfl rfl rfl rfl rfl ?_ | refine lx_load_tpA rfl rfl rfl rfl rfl rfl rfl rfl ?_) | ((with_reducible refine g_fieldAddr ?_); first | refine lx_fieldAddr rfl rfl rfl rfl rfl rfl rfl ?_) | ((with_reducible refine g_binOp ?_); first | refine lx_arith rfl rfl rfl rfl rfl rfl rfl ?_ | refine lx_quo rfl rfl rfl rfl rfl rfl ?_ ?_) | ((with_reducible refine g_assign ?_); first | refine lx_assign (r := (.t _)) rfl rfl rfl rfl rfl ?_) | ((with_reducible refine g_alloc ?_); first | refine lx_alloc rfl rfl rfl rfl rfl rfl rfl ?_) | ((with_reducible refine g_store ?_); first | refine lx_store_var (r := (.t (.agg _))) rfl rfl rfl rfl rfl rfl rfl rfl rfl rfl ?_) | ((with_reducible refine g_indexAddr ?_); first | refine lx_indexAddr_map rfl rfl rfl rfl rfl rfl ?_ ?_ ?_) | ((with_reducible refine g_build ?_); first | refine lx_build (r := (.t (.agg _))) rfl rfl rfl rfl rfl rfl rfl ?_) | ((with_reducible refine g_call ?_); first | refine lx_callT rfl rfl hg rfl rfl (ArgsLE.refl _) rfl rfl rfl rfl rfl ?_) | refine c_condP rfl (fun hc => ?_) (fun hc => ?_))
        all_goals try (simp only [List.length_map]; omega)
        all_goals try exact hgn
        all_goals try omega
        all_goals try rfl
        exact q_loop (n' := l.length - (j + 1)) (by omega) (ghost_keep2 [2, 3, 6, 26, 27, 28] [.loc 2, .loc 6] rfl rfl) ⟨j + 1, by omega, rfl, by rw [wj]; rfl, by rw [hS1, ← a8, ← a9, a1, a2]; rfl⟩
      · obtain rfl : j = l.length := by omega
        rw [List.take_length]
        repeat' (first | (with_reducible refine codeT_seq ?_) | (with_reducible refine codeT_block ?_) | (with_reducible refine codeT_skip ?_) | (with_reducible refine codeT_ret ?_) | (with_reducible refine codeT_exit ?_) | (with_reducible refine codeT_regionL ?_) | (with_reducible refine lx_nil ?_) | (with_reducible refine q_then ?_) | (with_reducible refine q_then_exit ?_) | ((with_reducible refine q_block_same ?_ ?_); · rfl) | (with_reducible refine q_loop_exit ?_) | (exfalso; omega) | ((with_reducible refine g_load ?_); first | refine lx_load_varA (r := (.t (.agg _))) rfl rfl rfl rfl rfl rfl rfl rfl rfl ?_) | ((with_reducible refine g_binOp ?_); first | refine lx_arith rfl rfl rfl rfl rfl rfl rfl ?_) | ((with_reducible refine g_assign ?_); first | refine lx_assign (r := (.t _)) rfl rfl rfl rfl rfl ?_) | ((with_reducible refine g_store ?_); first | refine lx_store_var (r := (.t (.agg _))) rfl rfl rfl rfl rfl rfl rfl rfl rfl rfl ?_) | refine c_condP rfl (fun hc => ?_) (fun hc => ?_))
        unfold Fr.toT
        refine q_ret ?_ (stHas_spec trivial); refine resT_cell_tmp rfl rfl rfl inferInstance rfl inferInstance rfl ?_ ?_; exact TLe.av (by repeat first | exact TLe.refl _ | exact TLe.nil _ | exact TLe.esl _ | refine TLe.agg ?_ | refine TLs.cons ?_ ?_ | exact TLs.nil); exact AVLE.refl _
  · have hE : sumE l = 3 := by unfold sumE; rw [if_pos (by omega)]
    rw [hE, show sumF l = ⟨0, 0⟩ from if_neg (by omega)]
    unfold Fr.toT frs
    refine spec_intro (env0 := [(0, _)]) (st0 := []) Try.func22 rfl rfl rfl rfl ?_
    repeat' (first | (with_reducible refine codeT_seq ?_) | (with_reducible refine codeT_skip ?_) | (with_reducible refine codeT_ret ?_) | (with_reducible refine codeT_regionL ?_) | (with_reducible refine lx_nil ?_) | (with_reducible refine q_then ?_) | (with_reducible refine q_then_ret ?_) | (exfalso; omega) | ((with_reducible refine g_move ?_); first | refine lx_move (r := (.t _)) rfl rfl rfl rfl rfl ?_) | ((with_reducible refine g_binOp ?_); first | refine lx_arith rfl rfl rfl rfl rfl rfl rfl ?_) | ((with_reducible refine g_assign ?_); first | refine lx_assign (r := (.t _)) rfl rfl rfl rfl rfl ?_) | ((with_reducible refine g_alloc ?_); first | refine lx_alloc rfl rfl rfl rfl rfl rfl rfl ?_) | ((with_reducible refine g_store ?_); first | refine lx_store_var (r := (.t (.agg _))) rfl rfl rfl rfl rfl rfl rfl rfl rfl rfl ?_) | ((with_reducible refine g_build ?_); first | refine lx_build (r := (.t (.agg _))) rfl rfl rfl rfl rfl rfl rfl ?_) | ((with_reducible refine g_len ?_); first | refine lx_len_map rfl rfl rfl rfl rfl ?_) | refine c_condP rfl (fun hc => ?_) (fun hc => ?_))
    refine q_ret ?_ (stHas_spec trivial); refine resT_cell_tmp rfl rfl rfl inferInstance rfl inferInstance rfl ?_ ?_; exact TLe.av (by repeat first | exact TLe.refl _ | exact TLe.nil _ | exact TLe.esl _ | refine TLe.agg ?_ | refine TLs.cons ?_ ?_ | exact TLs.nil); exact AVLE.refl _
set_option maxHeartbeats 2000000 in
theorem one_spec (l : List Fr) (hl : l.length ≤ 1000000) : Spec Try.prog 25 [.t (frs l)] [] (.t (.bool (oneF l))) [] := by
  have h := RSum_spec l hl
  unfold oneF
  generalize sumF l = S at *
  generalize sumE l = E at *
  unfold Fr.toT frs at h
  unfold frs
  by_cases hE : E = 0
  · rw [decide_eq_true hE, Bool.true_and]
    refine spec_intro (env0 := [(0, _)]) (st0 := []) Try.func25 rfl rfl rfl rfl ?_
    repeat' (first | (with_reducible refine codeT_seq ?_) | (with_reducible refine codeT_ret ?_) | (with_reducible refine codeT_regionL ?_) | (with_reducible refine lx_nil ?_) | (with_reducible refine q_then ?_) | (exfalso; omega) | ((with_reducible refine g_move ?_); first | refine lx_move (r := (.t _)) rfl rfl rfl rfl rfl ?_ | refine lx_move (r := (.tup _)) rfl rfl rfl rfl rfl ?_) | ((with_reducible refine g_load ?_); first | refine lx_load_var rfl rfl rfl rfl rfl rfl rfl rfl ?_) | ((with_reducible refine g_fieldAddr ?_); first | refine lx_fieldAddr rfl rfl rfl rfl rfl rfl rfl ?_) | ((with_reducible refine g_binOp ?_); first | refine lx_arith rfl rfl rfl rfl rfl rfl rfl ?_) | ((with_reducible refine g_assign ?_); first | refine lx_assign (r := (.t _)) rfl rfl rfl rfl rfl ?_) | ((with_reducible refine g_pick ?_); first | refine lx_pickT (r := (.t _)) rfl rfl rfl rfl rfl rfl ?_) | ((with_reducible refine g_alloc ?_); first | refine lx_alloc rfl rfl rfl rfl rfl rfl rfl ?_) | ((with_reducible refine g_store ?_); first | refine lx_store_var (r := (.t (.agg _))) rfl rfl rfl rfl rfl rfl rfl rfl rfl rfl ?_) | ((with_reducible refine g_extract ?_); first | refine lx_extract rfl rfl rfl rfl rfl rfl ?_) | ((with_reducible refine g_call ?_); first | refine lx_callT rfl rfl h rfl rfl (ArgsLE.refl _) rfl rfl rfl rfl rfl ?_) | refine lx_splitP rfl (fun hc => ?_) (fun hc => ?_))
    exact q_ret (resT_oneE rfl rfl rfl) (by simp)
  · rw [decide_eq_false hE, Bool.false_and]
    refine spec_intro (env0 := [(0, _)]) (st0 := []) Try.func25 rfl rfl rfl rfl ?_
    repeat' (first | (with_reducible refine codeT_seq ?_) | (with_reducible refine codeT_ret ?_) | (with_reducible refine codeT_regionL ?_) | (with_reducible refine lx_nil ?_) | (with_reducible refine q_then ?_) | (exfalso; omega) | ((with_reducible refine g_guard ?_); first | refine lx_skip rfl rfl rfl ?_) | ((with_reducible refine g_move ?_); first | refine lx_move (r := (.t _)) rfl rfl rfl rfl rfl ?_ | refine lx_move (r := (.tup _)) rfl rfl rfl rfl rfl ?_) | ((with_reducible refine g_binOp ?_); first | refine lx_arith rfl rfl rfl rfl rfl rfl rfl ?_) | ((with_reducible refine g_assign ?_); first | refine lx_assign (r := (.t _)) rfl rfl rfl rfl rfl ?_) | ((with_reducible refine g_pick ?_); first | refine lx_pickF (r := (.t _)) rfl rfl rfl rfl rfl rfl ?_) | ((with_reducible refine g_alloc ?_); first | refine lx_alloc rfl rfl rfl rfl rfl rfl rfl ?_) | ((with_reducible refine g_store ?_); first | refine lx_store_var (r := (.t (.agg _))) rfl rfl rfl rfl rfl rfl rfl rfl rfl rfl ?_) | ((with_reducible refine g_extract ?_); first | refine lx_extract rfl rfl rfl rfl rfl rfl ?_) | ((with_reducible refine g_call ?_); first | refine lx_callT rfl rfl h rfl rfl (ArgsLE.refl _) rfl rfl rfl rfl rfl ?_) | refine lx_splitP rfl (fun hc => ?_) (fun hc => ?_))
    exact q_ret (resT_oneE rfl rfl rfl) (by simp)
end Go.AL
/- Which thresholds are valid, as both sides answer. -/
set_option linter.unusedVariables false
namespace Go.AL
open Go Go.Proofs Go.RowKit

/-- A threshold of no great size. -/
def Th.Sm (t : Th) : Prop := t.w.length ≤ 1000 ∧ ∀ l ∈ t.w, l.length ≤ 1000
theorem getD_mem {α : Type} [Inhabited α] {l : List α} {j : Nat} (h : j < l.length) : l.getD (j : Int).toNat default ∈ l := by
  rw [Int.toNat_natCast, List.getD_eq_getElem?_getD, List.getElem?_eq_getElem h]; exact List.getElem_mem _
set_option maxHeartbeats 4000000 in
theorem keysOf_spec (t : Th) (ht : t.Sm) : Spec Try.prog 27 [.t t.toT] [] (.t (.int .i64 (keysGo t.w 0))) [] := by
  obtain ⟨R, hR⟩ : ∃ R, R = keysGo t.w 0 := ⟨_, rfl⟩
  rw [← hR]
  obtain ⟨tn, w⟩ := t
  unfold Th.toT
  obtain ⟨h1, h2⟩ := ht
  simp only at *
  refine spec_intro (env0 := [(0, _)]) (st0 := []) Try.func27 rfl rfl rfl rfl ?_
  repeat' (first | (with_reducible refine codeT_seq ?_) | (with_reducible refine codeT_block ?_) | (with_reducible refine codeT_regionL ?_) | (with_reducible refine lx_nil ?_) | (with_reducible refine q_then ?_) | ((with_reducible refine g_move ?_); first | refine lx_move (r := (.t _)) rfl rfl rfl rfl rfl ?_) | ((with_reducible refine g_load ?_); first | refine lx_load_var rfl rfl rfl rfl rfl rfl rfl rfl ?_) | ((with_reducible refine g_fieldAddr ?_); first | refine lx_fieldAddr rfl rfl rfl rfl rfl rfl rfl ?_) | ((with_reducible refine g_assign ?_); first | refine lx_assign (r := (.t _)) rfl rfl rfl rfl rfl ?_) | ((with_reducible refine g_box ?_); first | refine lx_box (r := (.t (.agg _))) (cs := (List.map .t _)) rfl rfl rfl rfl rfl rfl rfl rfl rfl ?_) | ((with_reducible refine g_len ?_); first | refine lx_len_map rfl rfl rfl rfl rfl ?_))
  refine codeT_ghost (ghost_keep2 [3, 7, 8, 9] [] rfl rfl) ?_
  refine codeT_loop (fun q env st => ∃ (j n : Nat), j ≤ w.length ∧ q = w.length - j ∧ n ≤ 1000 * j ∧ keysGo (w.drop j) n = R ∧ env = EnvL.get [(3, .t (.int .i64 (n : Int))), (7, .t (.sl 1 (w.map frs))), (8, .t (.int .i64 (w.length : Int))), (9, .t (.int .i64 (j : Int)))] ∧ st = StO.get [])
    ?_ (n := w.length) ⟨0, 0, by omega, rfl, by omega, hR.symm, rfl, rfl⟩
  rintro q env st ⟨j, n, hj, rfl, hn, hG, rfl, rfl⟩
  have wj : IntKind.i64.wrap ((j : Int) + 1) = ((j + 1 : Nat) : Int) := by rw [wrap64 (by omega) (by omega)]; omega
  by_cases hlt : j < w.length
  · have hm := getD_mem hlt
    have hx := h2 _ hm
    rw [drop_getD w j hlt, keysGo, show w.getD j default = w.getD (j : Int).toNat default from rfl] at hG
    have hC := ContainsFr_spec (fun f => !f.wt) 39 (w.getD (j : Int).toNat default) (fun x _ => keysOf1_spec x) (by omega)
    have wn : IntKind.i64.wrap ((n : Int) + ((w.getD (j : Int).toNat default).length : Int)) = ((n + (w.getD (j : Int).toNat default).length : Nat) : Int) := by rw [wrap64 (by omega) (by omega)]; omega
    generalize hA : ((w.getD (j : Int).toNat default).any fun f => !f.wt) = A at *
    by_cases hb : (w.getD (j : Int).toNat default).length = 0 ∨ 8 < n + (w.getD (j : Int).toNat default).length ∨ A = true
    · rw [if_pos hb] at hG
      cases A with
      | true =>
        repeat' (first | (with_reducible refine codeT_seq ?_) | (with_reducible refine codeT_block ?_) | (with_reducible refine codeT_skip ?_) | (with_reducible refine codeT_ret ?_) | (with_reducible refine codeT_exit ?_) | (with_reducible refine codeT_regionL ?_) | (with_reducible refine lx_nil ?_) | (with_reducible refine q_then ?_) | (with_reducible refine q_then_exit ?_) | (with_reducible refine q_then_ret ?_) | (with_reducible refine q_block_ret ?_) | ((with_reducible refine q_block_same ?_ ?_); · rfl) | (with_reducible refine q_loop_exit ?_) | (with_reducible refine q_loop_ret ?_) | refine c_condT rfl ?_ | (exfalso; omega) | ((with_reducible refine g_guard ?_); first | refine lx_skip rfl rfl rfl ?_) | ((with_reducible refine g_move ?_); first | refine lx_move (r := (.t _)) rfl rfl rfl rfl rfl ?_) | ((with_reducible refine g_load ?_); first | refine lx_load_tp rfl rfl rfl rfl rfl rfl rfl ?_) | ((with_reducible refine g_binOp ?_); first | refine lx_arith rfl rfl rfl rfl rfl rfl rfl ?_) | ((with_reducible refine g_assign ?_); first | refine lx_assign (r := (.t _)) rfl rfl rfl rfl rfl ?_) | ((with_reducible refine g_pick ?_); first | refine lx_pickT (r := (.t _)) rfl rfl rfl rfl rfl rfl ?_ | refine lx_pickF (r := (.t _)) rfl rfl rfl rfl rfl rfl ?_) | ((with_reducible refine g_indexAddr ?_); first | refine lx_indexAddr_map rfl rfl rfl rfl rfl rfl ?_ ?_ ?_) | ((with_reducible refine g_len ?_); first | refine lx_len_map rfl rfl rfl rfl rfl ?_) | ((with_reducible refine g_call ?_); first | refine lx_callT rfl rfl hC rfl rfl (ArgsLE.refl _) rfl rfl rfl rfl rfl ?_) | refine c_condP rfl (fun hc => ?_) (fun hc => ?_) | refine lx_splitP rfl (fun hc => ?_) (fun hc => ?_))
        all_goals try (simp only [List.length_map]; omega)
        all_goals try omega
        all_goals try rfl
        all_goals exact q_ret (resT_oneE rfl rfl (congrArg (T.int .i64) hG)) (by simp)
      | false =>
        have hb2 : (w.getD (j : Int).toNat default).length = 0 ∨ 8 < n + (w.getD (j : Int).toNat default).length := by rcases hb with h | h | h <;> simp_all
        repeat' (first | (with_reducible refine codeT_seq ?_) | (with_reducible refine codeT_block ?_) | (with_reducible refine codeT_skip ?_) | (with_reducible refine codeT_ret ?_) | (with_reducible refine codeT_exit ?_) | (with_reducible refine codeT_regionL ?_) | (with_reducible refine lx_nil ?_) | (with_reducible refine q_then ?_) | (with_reducible refine q_then_exit ?_) | (with_reducible refine q_then_ret ?_) | (with_reducible refine q_block_ret ?_) | ((with_reducible refine q_block_same ?_ ?_); · rfl) | (with_reducible refine q_loop_exit ?_) | (with_reducible refine q_loop_ret ?_) | refine c_condT rfl ?_ | (exfalso; omega) | ((with_reducible refine g_guard ?_); first | refine lx_skip rfl rfl rfl ?_) | ((with_reducible refine g_move ?_); first | refine lx_move (r := (.t _)) rfl rfl rfl rfl rfl ?_) | ((with_reducible refine g_load ?_); first | refine lx_load_tp rfl rfl rfl rfl rfl rfl rfl ?_) | ((with_reducible refine g_binOp ?_); first | refine lx_arith rfl rfl rfl rfl rfl rfl rfl ?_) | ((with_reducible refine g_assign ?_); first | refine lx_assign (r := (.t _)) rfl rfl rfl rfl rfl ?_) | ((with_reducible refine g_pick ?_); first | refine lx_pickT (r := (.t _)) rfl rfl rfl rfl rfl rfl ?_ | refine lx_pickF (r := (.t _)) rfl rfl rfl rfl rfl rfl ?_) | ((with_reducible refine g_indexAddr ?_); first | refine lx_indexAddr_map rfl rfl rfl rfl rfl rfl ?_ ?_ ?_) | ((with_reducible refine g_len ?_); first | refine lx_len_map rfl rfl rfl rfl rfl ?_) | refine c_condP rfl (fun hc => ?_) (fun hc => ?_) | refine lx_splitP rfl (fun hc => ?_) (fun hc => ?_))
        all_goals try (simp only [List.length_map]; omega)
        all_goals try omega
        all_goals try rfl
        all_goals exact q_ret (resT_oneE rfl rfl (congrArg (T.int .i64) hG)) (by simp)
    · rw [if_neg hb] at hG
      have hb1 : ¬ (w.getD (j : Int).toNat default).length = 0 := fun h => hb (.inl h)
      have hb2 : ¬ 8 < n + (w.getD (j : Int).toNat default).length := fun h => hb (.inr (.inl h))
      have hb3 : A = false := by cases A with | true => exact absurd (.inr (.inr rfl)) hb | false => rfl
      subst hb3
      repeat' (first | (with_reducible refine codeT_seq ?_) | (with_reducible refine codeT_block ?_) | (with_reducible refine codeT_skip ?_) | (with_reducible refine codeT_exit ?_) | (with_reducible refine codeT_regionL ?_) | (with_reducible refine lx_nil ?_) | (with_reducible refine q_then ?_) | (with_reducible refine q_then_exit ?_) | (with_reducible refine q_block ?_) | ((with_reducible refine q_block_same ?_ ?_); · rfl) | (with_reducible refine q_loop_exit ?_) | refine c_condF rfl ?_ | (exfalso; omega) | ((with_reducible refine g_move ?_); first | refine lx_move (r := (.t _)) rfl rfl rfl rfl rfl ?_) | ((with_reducible refine g_load ?_); first | refine lx_load_tp rfl rfl rfl rfl rfl rfl rfl ?_) | ((with_reducible refine g_binOp ?_); first | refine lx_arith rfl rfl rfl rfl rfl rfl rfl ?_) | ((with_reducible refine g_assign ?_); first | refine lx_assign (r := (.t _)) rfl rfl rfl rfl rfl ?_) | ((with_reducible refine g_pick ?_); first | refine lx_pickF (r := (.t _)) rfl rfl rfl rfl rfl rfl ?_) | ((with_reducible refine g_indexAddr ?_); first | refine lx_indexAddr_map rfl rfl rfl rfl rfl rfl ?_ ?_ ?_) | ((with_reducible refine g_len ?_); first | refine lx_len_map rfl rfl rfl rfl rfl ?_) | ((with_reducible refine g_call ?_); first | refine lx_callT rfl rfl hC rfl rfl (ArgsLE.refl _) rfl rfl rfl rfl rfl ?_) | refine c_condP rfl (fun hc => ?_) (fun hc => ?_) | refine lx_splitP rfl (fun hc => ?_) (fun hc => ?_))
      all_goals try (simp only [List.length_map]; omega)
      all_goals try omega
      all_goals try rfl
      exact q_loop (n' := w.length - (j + 1)) (by omega) (ghost_keep2 [3, 7, 8, 9] [] rfl rfl) ⟨j + 1, n + (w.getD (j : Int).toNat default).length, by omega, rfl, by omega, hG, by rw [wj, wn]; rfl, rfl⟩
  · obtain rfl : j = w.length := by omega
    rw [List.drop_length, keysGo] at hG
    repeat' (first | (with_reducible refine codeT_seq ?_) | (with_reducible refine codeT_block ?_) | (with_reducible refine codeT_skip ?_) | (with_reducible refine codeT_ret ?_) | (with_reducible refine codeT_exit ?_) | (with_reducible refine codeT_regionL ?_) | (with_reducible refine lx_nil ?_) | (with_reducible refine q_then ?_) | (with_reducible refine q_then_exit ?_) | ((with_reducible refine q_block_same ?_ ?_); · rfl) | (with_reducible refine q_loop_exit ?_) | (exfalso; omega) | ((with_reducible refine g_move ?_); first | refine lx_move (r := (.t _)) rfl rfl rfl rfl rfl ?_) | ((with_reducible refine g_binOp ?_); first | refine lx_arith rfl rfl rfl rfl rfl rfl rfl ?_) | ((with_reducible refine g_assign ?_); first | refine lx_assign (r := (.t _)) rfl rfl rfl rfl rfl ?_) | refine c_condP rfl (fun hc => ?_) (fun hc => ?_))
    exact q_ret (resT_oneE rfl rfl (congrArg (T.int .i64) hG)) (by simp)
set_option maxHeartbeats 2000000 in
theorem valid1_spec (l : List Fr) (hl : ∀ f ∈ l, f.wt = true) (h8 : l.length ≤ 8) : Spec Try.prog 29 [.t (frs l)] [] (.t (.bool !(wholeF l))) [] := by
  have h := whole_spec l hl h8
  generalize wholeF l = w at *
  unfold frs at *
  refine spec_intro (env0 := [(0, _)]) (st0 := []) Try.func29 rfl rfl rfl rfl ?_
  repeat' (first | (with_reducible refine codeT_seq ?_) | (with_reducible refine codeT_ret ?_) | (with_reducible refine codeT_regionL ?_) | (with_reducible refine lx_nil ?_) | (with_reducible refine q_then ?_) | ((with_reducible refine g_move ?_); first | refine lx_move (r := (.t _)) rfl rfl rfl rfl rfl ?_) | ((with_reducible refine g_assign ?_); first | refine lx_assign (r := (.t _)) rfl rfl rfl rfl rfl ?_) | ((with_reducible refine g_unOp ?_); first | refine lx_not rfl rfl rfl rfl rfl ?_) | ((with_reducible refine g_call ?_); first | refine lx_callT rfl rfl h rfl rfl (ArgsLE.refl _) rfl rfl rfl rfl rfl ?_))
  exact q_ret (resT_oneE rfl rfl rfl) (by simp)
set_option maxHeartbeats 4000000 in
theorem Valid_spec (t : Th) (k : Int) (ht : t.Sm) : Spec Try.prog 16 [.t t.toT, .t (.int .i64 k)] [] (.t (.bool (validP t k))) [] := by
  have hK := keysOf_spec t ht
  by_cases hg : t.n = 0 ∧ t.w.length ≠ 0 ∧ 0 < k ∧ keysGo t.w 0 = k
  · obtain ⟨g1, g2, g3, g4⟩ := hg
    obtain ⟨i1, i2⟩ := keysGo_ok t.w 0 (by omega)
    obtain ⟨j1, j2⟩ := i1.1 (by omega)
    have hC := ContainsFrs_spec (fun l => !(wholeF l)) 29 t.w (fun l hl => valid1_spec l (j1 l hl).2 (by have := len_le hl; omega)) (by have := ht.1; omega)
    have hv : validP t k = !(t.w.any fun l => !(wholeF l)) := by
      unfold validP
      rw [if_neg (by simp [g1]), if_neg g2, decide_eq_true g3, decide_eq_true g4]; simp
    rw [hv]
    rw [g4] at hK
    generalize (t.w.any fun l => !(wholeF l)) = A at *
    clear i1 i2 j1 j2 hv g4
    obtain ⟨tn, w⟩ := t
    unfold Th.toT at *
    simp only at *
    subst g1
    refine spec_intro (env0 := [(0, _), (1, _)]) (st0 := []) Try.func16 rfl rfl rfl rfl ?_
    repeat' (first | (with_reducible refine codeT_seq ?_) | (with_reducible refine codeT_block ?_) | (with_reducible refine codeT_skip ?_) | (with_reducible refine codeT_ret ?_) | (with_reducible refine codeT_regionL ?_) | (with_reducible refine lx_nil ?_) | (with_reducible refine q_then ?_) | (with_reducible refine q_block ?_) | refine c_condF rfl ?_ | (exfalso; omega) | ((with_reducible refine g_move ?_); first | refine lx_move (r := (.t _)) rfl rfl rfl rfl rfl ?_) | ((with_reducible refine g_load ?_); first | refine lx_load_var rfl rfl rfl rfl rfl rfl rfl rfl ?_ | refine lx_load_varA (r := (.t (.agg _))) rfl rfl rfl rfl rfl rfl rfl rfl rfl ?_) | ((with_reducible refine g_fieldAddr ?_); first | refine lx_fieldAddr rfl rfl rfl rfl rfl rfl rfl ?_) | ((with_reducible refine g_binOp ?_); first | refine lx_arith rfl rfl rfl rfl rfl rfl rfl ?_) | ((with_reducible refine g_assign ?_); first | refine lx_assign (r := (.t _)) rfl rfl rfl rfl rfl ?_) | ((with_reducible refine g_pick ?_); first | refine lx_pickT (r := (.t _)) rfl rfl rfl rfl rfl rfl ?_) | ((with_reducible refine g_box ?_); first | refine lx_box (r := (.t (.agg _))) (cs := (List.map .t _)) rfl rfl rfl rfl rfl rfl rfl rfl rfl ?_) | ((with_reducible refine g_unOp ?_); first | refine lx_not rfl rfl rfl rfl rfl ?_) | ((with_reducible refine g_len ?_); first | refine lx_len_map rfl rfl rfl rfl rfl ?_) | ((with_reducible refine g_call ?_); first | refine lx_callT rfl rfl hK rfl rfl (ArgsLE.refl _) rfl rfl rfl rfl rfl ?_ | refine lx_callT rfl rfl hC rfl rfl (ArgsLE.refl _) rfl rfl rfl rfl rfl ?_) | refine c_condP rfl (fun hc => ?_) (fun hc => ?_) | refine lx_splitP rfl (fun hc => ?_) (fun hc => ?_))
    all_goals exact q_ret (resT_oneE rfl rfl rfl) (by simp)
  · obtain ⟨V, hV⟩ : ∃ V, V = validP t k := ⟨_, rfl⟩
    rw [← hV]
    unfold validP at hV
    have hV2 : V = if t.n ≠ 0 then decide (0 < t.n ∧ t.n ≤ k ∧ k ≤ 8) && decide (t.w.length = 0) else if t.w.length = 0 then decide (k = 0) else false := by
      rw [hV]
      split
      · rfl
      · rename_i h0
        split
        · rfl
        · rename_i h1
          by_cases h2 : 0 < k
          · rw [decide_eq_false (show ¬ keysGo t.w 0 = k from fun h3 => hg ⟨by omega, h1, h2, h3⟩)]; simp
          · rw [decide_eq_false h2]; simp
    clear hV
    generalize keysGo t.w 0 = K at *
    obtain ⟨tn, w⟩ := t
    unfold Th.toT at *
    simp only at *
    refine spec_intro (env0 := [(0, _), (1, _)]) (st0 := []) Try.func16 rfl rfl rfl rfl ?_
    repeat' (first | (with_reducible refine codeT_seq ?_) | (with_reducible refine codeT_block ?_) | (with_reducible refine codeT_skip ?_) | (with_reducible refine codeT_ret ?_) | (with_reducible refine codeT_regionL ?_) | (with_reducible refine lx_nil ?_) | (with_reducible refine q_then ?_) | (with_reducible refine q_then_ret ?_) | (with_reducible refine q_block ?_) | (with_reducible refine q_block_ret ?_) | (exfalso; omega) | ((with_reducible refine g_guard ?_); first | refine lx_skip rfl rfl rfl ?_) | ((with_reducible refine g_move ?_); first | refine lx_move (r := (.t _)) rfl rfl rfl rfl rfl ?_) | ((with_reducible refine g_load ?_); first | refine lx_load_var rfl rfl rfl rfl rfl rfl rfl rfl ?_ | refine lx_load_varA (r := (.t (.agg _))) rfl rfl rfl rfl rfl rfl rfl rfl rfl ?_) | ((with_reducible refine g_fieldAddr ?_); first | refine lx_fieldAddr rfl rfl rfl rfl rfl rfl rfl ?_) | ((with_reducible refine g_binOp ?_); first | refine lx_arith rfl rfl rfl rfl rfl rfl rfl ?_) | ((with_reducible refine g_assign ?_); first | refine lx_assign (r := (.t _)) rfl rfl rfl rfl rfl ?_) | ((with_reducible refine g_pick ?_); first | refine lx_pickT (r := (.t _)) rfl rfl rfl rfl rfl rfl ?_ | refine lx_pickF (r := (.t _)) rfl rfl rfl rfl rfl rfl ?_) | ((with_reducible refine g_box ?_); first | refine lx_box (r := (.t (.agg _))) (cs := (List.map .t _)) rfl rfl rfl rfl rfl rfl rfl rfl rfl ?_) | ((with_reducible refine g_len ?_); first | refine lx_len_map rfl rfl rfl rfl rfl ?_) | ((with_reducible refine g_call ?_); first | refine lx_callT rfl rfl hK rfl rfl (ArgsLE.refl _) rfl rfl rfl rfl rfl ?_) | refine c_condP rfl (fun hc => ?_) (fun hc => ?_) | refine c_condN rfl (fun hc => ?_) (fun hc => ?_) | refine lx_splitP rfl (fun hc => ?_) (fun hc => ?_))
    all_goals refine q_ret (resT_oneE rfl rfl (congrArg T.bool ?_)) (by simp)
    all_goals rw [hV2]
    all_goals clear hV2
    all_goals (repeat' split)
    all_goals first | rfl | (exfalso; omega) | (rw [Bool.eq_iff_iff]; simp only [Bool.and_eq_true, decide_eq_true_eq, Bool.false_eq_true, false_iff, iff_false]; omega)
set_option maxHeartbeats 8000000 in
theorem RVal_spec (t : Th) (k : Int) (ht : t.Sm) : Spec Try.prog 19 [.t t.toT, .t (.int .i64 k)] [] (.t (.bool (validR t k))) [] := by
  obtain ⟨V, hV⟩ : ∃ V, V = validR t k := ⟨_, rfl⟩
  rw [← hV]
  unfold validR at hV
  obtain ⟨h1, h2⟩ := ht
  obtain ⟨tn, w⟩ := t
  unfold Th.toT
  simp only at *
  by_cases hg : k ≠ 0 ∧ ¬(k < 0 ∨ 8 < k) ∧ w.length ≠ 0
  · obtain ⟨g1, g2, g3⟩ := hg
    rw [if_neg g1, if_neg g2, if_neg g3] at hV
    refine spec_intro (env0 := [(0, _), (1, _)]) (st0 := []) Try.func19 rfl rfl rfl rfl ?_
    repeat' (first | (with_reducible refine codeT_seq ?_) | (with_reducible refine codeT_block ?_) | (with_reducible refine codeT_skip ?_) | (with_reducible refine codeT_regionL ?_) | (with_reducible refine lx_nil ?_) | (with_reducible refine q_then ?_) | (with_reducible refine q_block ?_) | (exfalso; omega) | ((with_reducible refine g_move ?_); first | refine lx_move (r := (.t _)) rfl rfl rfl rfl rfl ?_) | ((with_reducible refine g_load ?_); first | refine lx_load_var rfl rfl rfl rfl rfl rfl rfl rfl ?_) | ((with_reducible refine g_fieldAddr ?_); first | refine lx_fieldAddr rfl rfl rfl rfl rfl rfl rfl ?_) | ((with_reducible refine g_binOp ?_); first | refine lx_arith rfl rfl rfl rfl rfl rfl rfl ?_) | ((with_reducible refine g_assign ?_); first | refine lx_assign (r := (.t _)) rfl rfl rfl rfl rfl ?_) | ((with_reducible refine g_pick ?_); first | refine lx_pickF (r := (.t _)) rfl rfl rfl rfl rfl rfl ?_) | ((with_reducible refine g_box ?_); first | refine lx_box (r := (.t (.agg _))) (cs := (List.map .t _)) rfl rfl rfl rfl rfl rfl rfl rfl rfl ?_) | ((with_reducible refine g_len ?_); first | refine lx_len_map rfl rfl rfl rfl rfl ?_) | refine c_condP rfl (fun hc => ?_) (fun hc => ?_) | refine lx_splitP rfl (fun hc => ?_) (fun hc => ?_))
    refine codeT_ghost (ghost_keep2 [1, 2, 5, 42, 43, 44] [.loc 2] rfl rfl) ?_
    refine codeT_loop (fun q env st => ∃ (j : Nat), j ≤ w.length ∧ q = w.length - j ∧ (∀ i, i < j → (decide ((w.getD i default).length ≠ 0) && oneF (w.getD i default)) = true) ∧ lensT (w.take j) ≤ 1000 * j ∧ env = EnvL.get [(1, .t (.int .i64 k)), (2, .ref (.loc 2) 0 0 0), (5, .t (.int .i64 (lensT (w.take j) : Int))), (42, .t (.sl 1 (w.map frs))), (43, .t (.int .i64 (w.length : Int))), (44, .t (.int .i64 (j : Int)))] ∧
        st = StO.get [(.loc 2, some (.var 30 [.t (.int .i64 tn), .t (.sl 1 (w.map frs))]))])
      ?_ (n := w.length) ⟨0, by omega, rfl, fun i hi => by omega, by simp [lensT], rfl, rfl⟩
    rintro q env st ⟨j, hj, rfl, hall, hle, rfl, rfl⟩
    have wj : IntKind.i64.wrap ((j : Int) + 1) = ((j + 1 : Nat) : Int) := by rw [wrap64 (by omega) (by omega)]; omega
    by_cases hlt : j < w.length
    · have hm := getD_mem hlt
      have hx := h2 _ hm
      have hO := one_spec (w.getD (j : Int).toNat default) (by omega)
      have hT := lens_take w j hlt
      rw [show w.getD j default = w.getD (j : Int).toNat default from rfl] at hT
      have wn : IntKind.i64.wrap ((lensT (w.take j) : Int) + ((w.getD (j : Int).toNat default).length : Int)) = (lensT (w.take (j + 1)) : Int) := by rw [wrap64 (by omega) (by omega), hT]; omega
      by_cases hb : (decide ((w.getD (j : Int).toNat default).length ≠ 0) && oneF (w.getD (j : Int).toNat default)) = true
      · simp only [Bool.and_eq_true, decide_eq_true_eq] at hb
        rw [hb.2] at hO
        have hb1 := hb.1
        repeat' (first | (with_reducible refine codeT_seq ?_) | (with_reducible refine codeT_block ?_) | (with_reducible refine codeT_skip ?_) | (with_reducible refine codeT_exit ?_) | (with_reducible refine codeT_regionL ?_) | (with_reducible refine lx_nil ?_) | (with_reducible refine q_then ?_) | (with_reducible refine q_then_exit ?_) | (with_reducible refine q_block ?_) | ((with_reducible refine q_block_same ?_ ?_); · rfl) | (with_reducible refine q_loop_exit ?_) | refine c_condF rfl ?_ | (exfalso; omega) | ((with_reducible refine g_move ?_); first | refine lx_move (r := (.t _)) rfl rfl rfl rfl rfl ?_) | ((with_reducible refine g_load ?_); first | refine lx_load_tp rfl rfl rfl rfl rfl rfl rfl ?_) | ((with_reducible refine g_binOp ?_); first | refine lx_arith rfl rfl rfl rfl rfl rfl rfl ?_) | ((with_reducible refine g_assign ?_); first | refine lx_assign (r := (.t _)) rfl rfl rfl rfl rfl ?_) | ((with_reducible refine g_pick ?_); first | refine lx_pickF (r := (.t _)) rfl rfl rfl rfl rfl rfl ?_) | ((with_reducible refine g_indexAddr ?_); first | refine lx_indexAddr_map rfl rfl rfl rfl rfl rfl ?_ ?_ ?_) | ((with_reducible refine g_unOp ?_); first | refine lx_not rfl rfl rfl rfl rfl ?_) | ((with_reducible refine g_len ?_); first | refine lx_len_map rfl rfl rfl rfl rfl ?_) | ((with_reducible refine g_call ?_); first | refine lx_callT rfl rfl hO rfl rfl (ArgsLE.refl _) rfl rfl rfl rfl rfl ?_) | refine c_condP rfl (fun hc => ?_) (fun hc => ?_) | refine lx_splitP rfl (fun hc => ?_) (fun hc => ?_))
        all_goals try (simp only [List.length_map]; omega)
        all_goals try omega
        all_goals try rfl
        exact q_loop (n' := w.length - (j + 1)) (by omega) (ghost_keep2 [1, 2, 5, 42, 43, 44] [.loc 2] rfl rfl) ⟨j + 1, by omega, rfl, fun i hi => by
          rcases Nat.lt_or_ge i j with h | h
          · exact hall i h
          · obtain rfl : i = j := by omega
            show (decide ((w.getD (i : Int).toNat default).length ≠ 0) && oneF (w.getD (i : Int).toNat default)) = true
            rw [decide_eq_true hb1, hb.2]; rfl, by rw [hT]; omega, by rw [wj, wn]; rfl, rfl⟩
      · have hF : V = false := by
          rw [hV]
          have : (w.all fun l => decide (l.length ≠ 0) && oneF l) = false := by
            rw [List.all_eq_false]; exact ⟨_, hm, by simpa using hb⟩
          rw [this]; simp
        rw [hF]
        by_cases hz : (w.getD (j : Int).toNat default).length = 0
        · repeat' (first | (with_reducible refine codeT_seq ?_) | (with_reducible refine codeT_block ?_) | (with_reducible refine codeT_skip ?_) | (with_reducible refine codeT_ret ?_) | (with_reducible refine codeT_exit ?_) | (with_reducible refine codeT_regionL ?_) | (with_reducible refine lx_nil ?_) | (with_reducible refine q_then ?_) | (with_reducible refine q_then_exit ?_) | (with_reducible refine q_then_ret ?_) | (with_reducible refine q_block_ret ?_) | ((with_reducible refine q_block_same ?_ ?_); · rfl) | (with_reducible refine q_loop_exit ?_) | (with_reducible refine q_loop_ret ?_) | refine c_condT rfl ?_ | (exfalso; omega) | ((with_reducible refine g_guard ?_); first | refine lx_skip rfl rfl rfl ?_) | ((with_reducible refine g_move ?_); first | refine lx_move (r := (.t _)) rfl rfl rfl rfl rfl ?_) | ((with_reducible refine g_load ?_); first | refine lx_load_tp rfl rfl rfl rfl rfl rfl rfl ?_) | ((with_reducible refine g_binOp ?_); first | refine lx_arith rfl rfl rfl rfl rfl rfl rfl ?_) | ((with_reducible refine g_assign ?_); first | refine lx_assign (r := (.t _)) rfl rfl rfl rfl rfl ?_) | ((with_reducible refine g_pick ?_); first | refine lx_pickT (r := (.t _)) rfl rfl rfl rfl rfl rfl ?_) | ((with_reducible refine g_indexAddr ?_); first | refine lx_indexAddr_map rfl rfl rfl rfl rfl rfl ?_ ?_ ?_) | ((with_reducible refine g_len ?_); first | refine lx_len_map rfl rfl rfl rfl rfl ?_) | refine c_condP rfl (fun hc => ?_) (fun hc => ?_) | refine lx_splitP rfl (fun hc => ?_) (fun hc => ?_))
          all_goals try (simp only [List.length_map]; omega)
          all_goals try omega
          all_goals try rfl
          all_goals exact q_ret (resT_oneE rfl rfl rfl) (by simp)
        · rw [decide_eq_true hz, Bool.true_and] at hb
          rw [show oneF (w.getD (j : Int).toNat default) = false by simpa using hb] at hO
          repeat' (first | (with_reducible refine codeT_seq ?_) | (with_reducible refine codeT_block ?_) | (with_reducible refine codeT_skip ?_) | (with_reducible refine codeT_ret ?_) | (with_reducible refine codeT_exit ?_) | (with_reducible refine codeT_regionL ?_) | (with_reducible refine lx_nil ?_) | (with_reducible refine q_then ?_) | (with_reducible refine q_then_exit ?_) | (with_reducible refine q_then_ret ?_) | (with_reducible refine q_block_ret ?_) | ((with_reducible refine q_block_same ?_ ?_); · rfl) | (with_reducible refine q_loop_exit ?_) | (with_reducible refine q_loop_ret ?_) | refine c_condT rfl ?_ | (exfalso; omega) | ((with_reducible refine g_move ?_); first | refine lx_move (r := (.t _)) rfl rfl rfl rfl rfl ?_) | ((with_reducible refine g_load ?_); first | refine lx_load_tp rfl rfl rfl rfl rfl rfl rfl ?_) | ((with_reducible refine g_binOp ?_); first | refine lx_arith rfl rfl rfl rfl rfl rfl rfl ?_) | ((with_reducible refine g_assign ?_); first | refine lx_assign (r := (.t _)) rfl rfl rfl rfl rfl ?_) | ((with_reducible refine g_pick ?_); first | refine lx_pickF (r := (.t _)) rfl rfl rfl rfl rfl rfl ?_) | ((with_reducible refine g_indexAddr ?_); first | refine lx_indexAddr_map rfl rfl rfl rfl rfl rfl ?_ ?_ ?_) | ((with_reducible refine g_unOp ?_); first | refine lx_not rfl rfl rfl rfl rfl ?_) | ((with_reducible refine g_len ?_); first | refine lx_len_map rfl rfl rfl rfl rfl ?_) | ((with_reducible refine g_call ?_); first | refine lx_callT rfl rfl hO rfl rfl (ArgsLE.refl _) rfl rfl rfl rfl rfl ?_) | refine c_condP rfl (fun hc => ?_) (fun hc => ?_) | refine lx_splitP rfl (fun hc => ?_) (fun hc => ?_))
          all_goals try (simp only [List.length_map]; omega)
          all_goals try omega
          all_goals try rfl
          all_goals exact q_ret (resT_oneE rfl rfl rfl) (by simp)
    · obtain rfl : j = w.length := by omega
      have hA : (w.all fun l => decide (l.length ≠ 0) && oneF l) = true := by
        rw [List.all_eq_true]
        intro l hl
        obtain ⟨i, hi, rfl⟩ := List.mem_iff_getElem.1 hl
        have := hall i hi
        rwa [List.getD_eq_getElem?_getD, List.getElem?_eq_getElem hi] at this
      rw [hA, Bool.true_and] at hV
      rw [List.take_length]
      generalize (lensT w : Int) = X at *
      repeat' (first | (with_reducible refine codeT_seq ?_) | (with_reducible refine codeT_block ?_) | (with_reducible refine codeT_skip ?_) | (with_reducible refine codeT_ret ?_) | (with_reducible refine codeT_exit ?_) | (with_reducible refine codeT_regionL ?_) | (with_reducible refine lx_nil ?_) | (with_reducible refine q_then ?_) | (with_reducible refine q_then_exit ?_) | ((with_reducible refine q_block_same ?_ ?_); · rfl) | (with_reducible refine q_loop_exit ?_) | (exfalso; omega) | ((with_reducible refine g_guard ?_); first | refine lx_skip rfl rfl rfl ?_) | ((with_reducible refine g_move ?_); first | refine lx_move (r := (.t _)) rfl rfl rfl rfl rfl ?_) | ((with_reducible refine g_load ?_); first | refine lx_load_var rfl rfl rfl rfl rfl rfl rfl rfl ?_) | ((with_reducible refine g_fieldAddr ?_); first | refine lx_fieldAddr rfl rfl rfl rfl rfl rfl rfl ?_) | ((with_reducible refine g_binOp ?_); first | refine lx_arith rfl rfl rfl rfl rfl rfl rfl ?_) | ((with_reducible refine g_assign ?_); first | refine lx_assign (r := (.t _)) rfl rfl rfl rfl rfl ?_) | ((with_reducible refine g_pick ?_); first | refine lx_pickT (r := (.t _)) rfl rfl rfl rfl rfl rfl ?_ | refine lx_pickF (r := (.t _)) rfl rfl rfl rfl rfl rfl ?_) | refine c_condP rfl (fun hc => ?_) (fun hc => ?_) | refine lx_splitP rfl (fun hc => ?_) (fun hc => ?_))
      all_goals refine q_ret (resT_oneE rfl rfl (congrArg T.bool ?_)) (by simp)
      all_goals rw [hV]
      all_goals (rw [Bool.eq_iff_iff]; simp only [Bool.and_eq_true, decide_eq_true_eq, Bool.false_eq_true, false_iff, iff_false]; omega)
  · have hV2 : V = if k = 0 then decide (tn = 0) && decide (w.length = 0) else if k < 0 ∨ 8 < k then false else decide (1 ≤ tn) && decide (tn ≤ k) := by
      rw [hV]
      repeat' split
      all_goals first | rfl | (exfalso; omega)
    clear hV
    refine spec_intro (env0 := [(0, _), (1, _)]) (st0 := []) Try.func19 rfl rfl rfl rfl ?_
    repeat' (first | (with_reducible refine codeT_seq ?_) | (with_reducible refine codeT_block ?_) | (with_reducible refine codeT_skip ?_) | (with_reducible refine codeT_ret ?_) | (with_reducible refine codeT_regionL ?_) | (with_reducible refine lx_nil ?_) | (with_reducible refine q_then ?_) | (with_reducible refine q_then_ret ?_) | (with_reducible refine q_block ?_) | (with_reducible refine q_block_ret ?_) | refine c_condT rfl ?_ | (exfalso; omega) | ((with_reducible refine g_guard ?_); first | refine lx_skip rfl rfl rfl ?_) | ((with_reducible refine g_move ?_); first | refine lx_move (r := (.t _)) rfl rfl rfl rfl rfl ?_) | ((with_reducible refine g_load ?_); first | refine lx_load_var rfl rfl rfl rfl rfl rfl rfl rfl ?_) | ((with_reducible refine g_fieldAddr ?_); first | refine lx_fieldAddr rfl rfl rfl rfl rfl rfl rfl ?_) | ((with_reducible refine g_binOp ?_); first | refine lx_arith rfl rfl rfl rfl rfl rfl rfl ?_) | ((with_reducible refine g_assign ?_); first | refine lx_assign (r := (.t _)) rfl rfl rfl rfl rfl ?_) | ((with_reducible refine g_pick ?_); first | refine lx_pickT (r := (.t _)) rfl rfl rfl rfl rfl rfl ?_ | refine lx_pickF (r := (.t _)) rfl rfl rfl rfl rfl rfl ?_) | ((with_reducible refine g_box ?_); first | refine lx_box (r := (.t (.agg _))) (cs := (List.map .t _)) rfl rfl rfl rfl rfl rfl rfl rfl rfl ?_) | ((with_reducible refine g_len ?_); first | refine lx_len_map rfl rfl rfl rfl rfl ?_) | refine c_condP rfl (fun hc => ?_) (fun hc => ?_) | refine lx_splitP rfl (fun hc => ?_) (fun hc => ?_))
    all_goals refine q_ret (resT_oneE rfl rfl (congrArg T.bool ?_)) (by simp)
    all_goals rw [hV2]
    all_goals clear hV2
    all_goals (repeat' split)
    all_goals first | rfl | (exfalso; omega) | (rw [Bool.eq_iff_iff]; simp only [Bool.and_eq_true, decide_eq_true_eq, Bool.false_eq_true, false_iff, iff_false]; omega)
end Go.AL
