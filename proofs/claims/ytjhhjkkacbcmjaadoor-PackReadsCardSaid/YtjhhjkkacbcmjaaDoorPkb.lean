/- What pack.number, pack.text and pack.count answer. -/
import Derived.Test.YtjhhjkkacbcmjaaDoorCbo1
import Derived.Test.YtjhhjkkacbcmjaaDoorPka
import Derived.Test.YtjhhjkkacbcmjaaDoorAl3
import Derived.Test.YtjhhjkkacbcmjaaDoorNod1
import Derived.Test.YtjhhjkkacbcmjaaDoorNod5
set_option linter.unusedVariables false
namespace Go.AL
open Go Go.Proofs Go.RowKit

theorem sh8 {j : Nat} (hj : j ≤ 3) : IntKind.i64.wrap (8 * 2 ^ min (j : Int).toNat IntKind.i64.bits) = ((8 * 2 ^ j : Nat) : Int) := by
  match j, hj with
  | 0, _ | 1, _ | 2, _ | 3, _ => decide
theorem up_zero {n : Int} {j : Nat} (hj : j ≤ 3) (h0 : 0 ≤ n) : n / 2 ^ min (((8 * 2 ^ j : Nat) : Int)).toNat IntKind.i64.bits = 0 ↔ n < ((256 ^ (2 ^ j) : Nat) : Int) := by
  match j, hj with
  | 0, _ => rw [show min (((8 * 2 ^ 0 : Nat) : Int)).toNat IntKind.i64.bits = 8 by decide]; simp <;> omega
  | 1, _ => rw [show min (((8 * 2 ^ 1 : Nat) : Int)).toNat IntKind.i64.bits = 16 by decide]; simp <;> omega
  | 2, _ => rw [show min (((8 * 2 ^ 2 : Nat) : Int)).toNat IntKind.i64.bits = 32 by decide]; simp <;> omega
  | 3, _ => rw [show min (((8 * 2 ^ 3 : Nat) : Int)).toNat IntKind.i64.bits = 64 by decide]; simp <;> omega
theorem dn_one {n : Int} {j : Nat} (hj : j ≤ 3) (h0 : n < 0) : n / 2 ^ min (IntKind.i64.wrap (((8 * 2 ^ j : Nat) : Int) - 1)).toNat IntKind.i64.bits = -1 ↔ -((256 ^ (2 ^ j) / 2 : Nat) : Int) ≤ n := by
  match j, hj with
  | 0, _ => rw [show min (IntKind.i64.wrap (((8 * 2 ^ 0 : Nat) : Int) - 1)).toNat IntKind.i64.bits = 7 by decide]; simp <;> omega
  | 1, _ => rw [show min (IntKind.i64.wrap (((8 * 2 ^ 1 : Nat) : Int) - 1)).toNat IntKind.i64.bits = 15 by decide]; simp <;> omega
  | 2, _ => rw [show min (IntKind.i64.wrap (((8 * 2 ^ 2 : Nat) : Int) - 1)).toNat IntKind.i64.bits = 31 by decide]; simp <;> omega
  | 3, _ => rw [show min (IntKind.i64.wrap (((8 * 2 ^ 3 : Nat) : Int) - 1)).toNat IntKind.i64.bits = 63 by decide]; simp <;> omega
theorem pNum_up {n : Int} {j : Nat} (hj : j ≤ 3) (h0 : 128 ≤ n) (hlo : ∀ i, i < j → ((256 ^ (2 ^ i) : Nat) : Int) ≤ n) (hhi : j = 3 ∨ n < ((256 ^ (2 ^ j) : Nat) : Int)) : pNum n = UInt8.ofNat (204 + j) :: bigL (2 ^ j) (u64n n) := by
  unfold pNum
  rw [if_neg (by omega), if_pos (by omega)]
  match j, hj with
  | 0, _ => rw [if_pos (by simpa using hhi)]; try rfl
  | 1, _ =>
    have := hlo 0 (by omega)
    rw [if_neg (by simp at this; omega), if_pos (by simpa using hhi)]; try rfl
  | 2, _ =>
    have h0 := hlo 0 (by omega)
    have h1 := hlo 1 (by omega)
    rw [if_neg (by simp at h0; omega), if_neg (by simp at h1; omega), if_pos (by simpa using hhi)]; try rfl
  | 3, _ =>
    have h0 := hlo 0 (by omega)
    have h1 := hlo 1 (by omega)
    have h2 := hlo 2 (by omega)
    rw [if_neg (by simp at h0; omega), if_neg (by simp at h1; omega), if_neg (by simp at h2; omega)]; try rfl
theorem pNum_dn {n : Int} {j : Nat} (hj : j ≤ 3) (h0 : n < -32) (hlo : ∀ i, i < j → n < -((256 ^ (2 ^ i) / 2 : Nat) : Int)) (hhi : j = 3 ∨ -((256 ^ (2 ^ j) / 2 : Nat) : Int) ≤ n) : pNum n = UInt8.ofNat (208 + j) :: bigL (2 ^ j) (u64n n) := by
  unfold pNum
  rw [if_neg (by omega), if_neg (by omega)]
  match j, hj with
  | 0, _ => rw [if_pos (by simpa using hhi)]; try rfl
  | 1, _ =>
    have := hlo 0 (by omega)
    rw [if_neg (by simp at this; omega), if_pos (by simpa using hhi)]; try rfl
  | 2, _ =>
    have h0 := hlo 0 (by omega)
    have h1 := hlo 1 (by omega)
    rw [if_neg (by simp at h0; omega), if_neg (by simp at h1; omega), if_pos (by simpa using hhi)]; try rfl
  | 3, _ =>
    have h0 := hlo 0 (by omega)
    have h1 := hlo 1 (by omega)
    have h2 := hlo 2 (by omega)
    rw [if_neg (by simp at h0; omega), if_neg (by simp at h1; omega), if_neg (by simp at h2; omega)]; try rfl
theorem up_byte {j : Nat} (hj : j ≤ 3) : IntKind.u8.wrap (IntKind.i64.wrap (204 + (j : Int))) = ((UInt8.ofNat (204 + j)).toNat : Int) := by
  match j, hj with
  | 0, _ | 1, _ | 2, _ | 3, _ => decide
theorem dn_byte {j : Nat} (hj : j ≤ 3) : IntKind.u8.wrap (IntKind.i64.wrap (208 + (j : Int))) = ((UInt8.ofNat (208 + j)).toNat : Int) := by
  match j, hj with
  | 0, _ | 1, _ | 2, _ | 3, _ => decide
theorem dn_pos {j : Nat} (hj : j ≤ 3) : 0 ≤ IntKind.i64.wrap (((8 * 2 ^ j : Nat) : Int) - 1) := by
  match j, hj with
  | 0, _ | 1, _ | 2, _ | 3, _ => decide
theorem j3_of {j : Nat} (hj : j ≤ 3) (h : ((8 * 2 ^ j : Nat) : Int) = 64) : j = 3 := by
  match j, hj with
  | 0, _ | 1, _ | 2, _ => simp at h
  | 3, _ => rfl
set_option maxHeartbeats 8000000 in
theorem pNum_call (es : List T) (hes : es.length ≤ 100000000) (n : Int) (h0 : -9223372036854775808 ≤ n) (h1 : n ≤ 9223372036854775807) : Spec Tryd.prog 88 [.row (.par 0), .t (.int .i64 n)] [(.par 0, .slt 5 1 es)] (.row (.res 0)) [(.res 0, .slt 5 1 (es ++ u8L (pNum n)))] := by
  have hu : IntKind.u64.wrap n = ((u64n n : Nat) : Int) := by
    unfold u64n
    simp only [IntKind.wrap, IntKind.bits, IntKind.signed, Bool.false_and, Bool.false_eq_true, if_false]
    omega
  have hun : u64n n < 18446744073709551616 := by unfold u64n; omega
  by_cases hsm : -32 ≤ n ∧ n < 128
  · have e : pNum n = [UInt8.ofNat (n % 256).toNat] := by unfold pNum; rw [if_pos hsm]
    rw [e]
    refine spec_introG (env0 := [(0, _), (1, _)]) (st0 := [(_, some _)]) Tryd.func88 rfl rfl rfl rfl ?_
    repeat' (first | (with_reducible refine codeT_seq ?_) | (with_reducible refine codeT_block ?_) | (with_reducible refine codeT_skip ?_) | (with_reducible refine codeT_ret ?_) | (with_reducible refine codeT_regionL ?_) | (with_reducible refine lx_nil ?_) | (with_reducible refine q_then ?_) | (with_reducible refine q_then_ret ?_) | refine c_condF rfl ?_ | ((with_reducible refine g_guard ?_); first | refine lx_skip rfl rfl rfl ?_) | ((with_reducible refine g_move ?_); first | refine lx_move (r := (.t _)) rfl rfl rfl rfl rfl ?_ | refine lx_move (r := (.row _)) rfl rfl rfl rfl rfl ?_) | ((with_reducible refine g_binOp ?_); first | refine lx_arith rfl rfl rfl rfl rfl rfl rfl ?_) | ((with_reducible refine g_assign ?_); first | refine lx_assign (r := (.t _)) rfl rfl rfl rfl rfl ?_ | refine lx_assign (r := (.row _)) rfl rfl rfl rfl rfl ?_) | ((with_reducible refine g_pick ?_); first | refine lx_pickT (r := (.t _)) rfl rfl rfl rfl rfl rfl ?_ | refine lx_pickF (r := (.t _)) rfl rfl rfl rfl rfl rfl ?_) | ((with_reducible refine g_convert ?_); first | refine lx_conv_int rfl rfl rfl rfl rfl ?_) | ((with_reducible refine g_buildSlice ?_); first | refine lx_buildSlice rfl rfl rfl rfl rfl rfl rfl ?_) | ((with_reducible refine g_append ?_); first | refine lx_append_row rfl rfl rfl rfl rfl rfl rfl rfl rfl rfl ?_ ?_ ?_) | refine c_condP rfl (fun hc => ?_) (fun hc => ?_) | refine lx_splitP rfl (fun hc => ?_) (fun hc => ?_))
    all_goals try (exfalso; omega)
    · simp; omega
    · simp; omega
    · refine q_ghost ((ghost_keep2 [4] [.loc 17] rfl rfl).trans (ghost_renL2 (.loc 17) (.res 0) rfl rfl rfl rfl)) ?_
      refine q_done (q_ret (resT_one rfl (AVLE.refl _)) (stHas_spec ⟨?_, trivial⟩))
      have : IntKind.u8.wrap n = ((UInt8.ofNat (n % 256).toNat).toNat : Int) := by
        simp only [IntKind.wrap, IntKind.bits, IntKind.signed, Bool.false_and, Bool.false_eq_true, if_false]
        rw [UInt8.toNat_ofNat']; omega
      rw [this]; rfl
  · have hP : ∀ (X : T) (j : Nat), j ≤ 3 → Spec Tryd.prog 77 [.row (.par 0), .t (.int .u64 (IntKind.u64.wrap n)), .t (.int .i64 (IntKind.i64.wrap (1 * 2 ^ min (j : Int).toNat IntKind.i64.bits)))] [(.par 0, .slt 5 1 (es ++ [X]))] (.row (.res 0)) [(.res 0, .slt 5 1 ((es ++ [X]) ++ u8L (bigL (2 ^ j) (u64n n))))] := fun X j hj => by
      rw [sh_val hj, hu]
      exact Put_spec _ (by simp; omega) (u64n n) hun (2 ^ j) (by match j, hj with | 0, _ | 1, _ | 2, _ | 3, _ => decide)
    by_cases hup : 128 ≤ n
    · refine spec_introG (env0 := [(0, _), (1, _)]) (st0 := [(_, some _)]) Tryd.func88 rfl rfl rfl rfl ?_
      repeat' (first | (with_reducible refine codeT_seq ?_) | (with_reducible refine codeT_block ?_) | (with_reducible refine codeT_skip ?_) | (with_reducible refine codeT_ret ?_) | (with_reducible refine codeT_regionL ?_) | (with_reducible refine lx_nil ?_) | (with_reducible refine q_then ?_) | (with_reducible refine q_then_ret ?_) | refine c_condF rfl ?_ | ((with_reducible refine g_guard ?_); first | refine lx_skip rfl rfl rfl ?_) | ((with_reducible refine g_move ?_); first | refine lx_move (r := (.t _)) rfl rfl rfl rfl rfl ?_ | refine lx_move (r := (.row _)) rfl rfl rfl rfl rfl ?_) | ((with_reducible refine g_binOp ?_); first | refine lx_arith rfl rfl rfl rfl rfl rfl rfl ?_) | ((with_reducible refine g_assign ?_); first | refine lx_assign (r := (.t _)) rfl rfl rfl rfl rfl ?_ | refine lx_assign (r := (.row _)) rfl rfl rfl rfl rfl ?_) | ((with_reducible refine g_pick ?_); first | refine lx_pickT (r := (.t _)) rfl rfl rfl rfl rfl rfl ?_ | refine lx_pickF (r := (.t _)) rfl rfl rfl rfl rfl rfl ?_) | ((with_reducible refine g_convert ?_); first | refine lx_conv_int rfl rfl rfl rfl rfl ?_) | ((with_reducible refine g_buildSlice ?_); first | refine lx_buildSlice rfl rfl rfl rfl rfl rfl rfl ?_) | ((with_reducible refine g_append ?_); first | refine lx_append_row rfl rfl rfl rfl rfl rfl rfl rfl rfl rfl ?_ ?_ ?_) | refine c_condP rfl (fun hc => ?_) (fun hc => ?_) | refine lx_splitP rfl (fun hc => ?_) (fun hc => ?_))
      all_goals try (exfalso; omega)
      refine codeT_ghost (ghost_keep2 [0, 1, 18] [.par 0] rfl rfl) ?_
      refine codeT_loop (fun p env st => ∃ (j : Nat), j ≤ 3 ∧ p = 3 - j ∧ (∀ i, i < j → ((256 ^ (2 ^ i) : Nat) : Int) ≤ n) ∧
          env = EnvL.get [(0, .row (.par 0)), (1, .t (.int .i64 n)), (18, .t (.int .i64 (j : Int)))] ∧ st = StO.get [(.par 0, some (.slt 5 1 es))])
        ?_ (n := 3) ⟨0, by omega, rfl, fun i hi => by omega, rfl, rfl⟩
      rintro p env st ⟨j, hj, rfl, hlo, rfl, rfl⟩
      have hP := fun X => hP X j hj
      repeat' (first | (with_reducible refine codeT_seq ?_) | (with_reducible refine codeT_block ?_) | (with_reducible refine codeT_skip ?_) | (with_reducible refine codeT_ret ?_) | (with_reducible refine codeT_exit ?_) | (with_reducible refine codeT_regionL ?_) | ((with_reducible refine codeT_region_drawL ?_ ?_); · rfl) | (with_reducible refine lx_nil ?_) | (with_reducible refine q_then ?_) | (with_reducible refine q_then_exit ?_) | (with_reducible refine q_then_ret ?_) | (with_reducible refine q_block ?_) | (with_reducible refine q_block_ret ?_) | ((with_reducible refine q_block_same ?_ ?_); · rfl) | (with_reducible refine q_loop_exit ?_) | (with_reducible refine q_loop_ret ?_) | ((with_reducible refine q_region_draw ?_ ?_); · rfl) | refine c_condT rfl ?_ | refine c_condF rfl ?_ | ((with_reducible refine g_guard ?_); first | refine lx_skip rfl rfl rfl ?_) | ((with_reducible refine g_move ?_); first | refine lx_move (r := (.t _)) rfl rfl rfl rfl rfl ?_ | refine lx_move (r := (.row _)) rfl rfl rfl rfl rfl ?_) | ((with_reducible refine g_binOp ?_); first | refine lx_arith rfl rfl rfl rfl rfl rfl rfl ?_ | refine lx_shl rfl rfl rfl rfl rfl rfl ?_ ?_ | refine lx_shr rfl rfl rfl rfl rfl rfl ?_ ?_) | ((with_reducible refine g_assign ?_); first | refine lx_assign (r := (.t _)) rfl rfl rfl rfl rfl ?_ | refine lx_assign (r := (.row _)) rfl rfl rfl rfl rfl ?_) | ((with_reducible refine g_pick ?_); first | refine lx_pickT (r := (.t _)) rfl rfl rfl rfl rfl rfl ?_ | refine lx_pickF (r := (.t _)) rfl rfl rfl rfl rfl rfl ?_) | ((with_reducible refine g_convert ?_); first | refine lx_conv_int rfl rfl rfl rfl rfl ?_) | ((with_reducible refine g_buildSlice ?_); first | refine lx_buildSlice rfl rfl rfl rfl rfl rfl rfl ?_) | ((with_reducible refine g_append ?_); first | refine lx_append_row rfl rfl rfl rfl rfl rfl rfl rfl rfl rfl ?_ ?_ ?_) | ((with_reducible refine g_call ?_); first | refine lx_call (r' := .row (.loc 901)) [(.par 0, .loc 41), (.res 0, .loc 901)] rfl rfl (hP _) (ArgsLE.refl _) rfl ⟨rfl, trivial⟩ rfl rfl rfl rfl rfl rfl rfl rfl rfl rfl ?_) | refine c_condP rfl (fun hc => ?_) (fun hc => ?_) | refine lx_splitP rfl (fun hc => ?_) (fun hc => ?_))
      all_goals try omega
      all_goals try simp only [sh8 hj] at *
      all_goals try omega
      all_goals try (simp only [List.length_cons, List.length_nil]; omega)
      · have hj3 := j3_of hj hc
        refine q_ghost ((ghost_keep2 [4] [.loc 901] rfl rfl).trans (ghost_renL2 (.loc 901) (.res 0) rfl rfl rfl rfl)) ?_
        refine q_done (q_ret (resT_one rfl (AVLE.refl _)) (stHas_spec ⟨?_, trivial⟩))
        rw [pNum_up hj hup hlo (.inl hj3), up_byte hj, List.append_assoc]; rfl
      · refine q_ghost ((ghost_keep2 [4] [.loc 901] rfl rfl).trans (ghost_renL2 (.loc 901) (.res 0) rfl rfl rfl rfl)) ?_
        refine q_done (q_ret (resT_one rfl (AVLE.refl _)) (stHas_spec ⟨?_, trivial⟩))
        rw [pNum_up hj hup hlo (.inr ((up_zero hj (by omega)).1 hc)), up_byte hj, List.append_assoc]; rfl
      · have hnz : ¬ n < ((256 ^ (2 ^ j) : Nat) : Int) := fun h => absurd ((up_zero hj (by omega)).2 h) ‹_›
        have hj2 : j ≤ 2 := by
          have : ¬ ((8 * 2 ^ j : Nat) : Int) = 64 := ‹_›
          have : j ≠ 3 := fun e => this (by rw [e]; rfl)
          omega
        refine q_loop (n' := 3 - (j + 1)) (by omega) (ghost_keep2 [0, 1, 18] [.par 0] rfl rfl) ⟨j + 1, by omega, rfl, fun i hi => ?_, by rw [wrap64 (by omega) (by omega)]; rfl, rfl⟩
        rcases Nat.lt_or_ge i j with h | h
        · exact hlo i h
        · obtain rfl : i = j := by omega
          omega
    · refine spec_introG (env0 := [(0, _), (1, _)]) (st0 := [(_, some _)]) Tryd.func88 rfl rfl rfl rfl ?_
      repeat' (first | (with_reducible refine codeT_seq ?_) | (with_reducible refine codeT_block ?_) | (with_reducible refine codeT_skip ?_) | (with_reducible refine codeT_ret ?_) | (with_reducible refine codeT_regionL ?_) | (with_reducible refine lx_nil ?_) | (with_reducible refine q_then ?_) | (with_reducible refine q_then_ret ?_) | refine c_condF rfl ?_ | ((with_reducible refine g_guard ?_); first | refine lx_skip rfl rfl rfl ?_) | ((with_reducible refine g_move ?_); first | refine lx_move (r := (.t _)) rfl rfl rfl rfl rfl ?_ | refine lx_move (r := (.row _)) rfl rfl rfl rfl rfl ?_) | ((with_reducible refine g_binOp ?_); first | refine lx_arith rfl rfl rfl rfl rfl rfl rfl ?_) | ((with_reducible refine g_assign ?_); first | refine lx_assign (r := (.t _)) rfl rfl rfl rfl rfl ?_ | refine lx_assign (r := (.row _)) rfl rfl rfl rfl rfl ?_) | ((with_reducible refine g_pick ?_); first | refine lx_pickT (r := (.t _)) rfl rfl rfl rfl rfl rfl ?_ | refine lx_pickF (r := (.t _)) rfl rfl rfl rfl rfl rfl ?_) | ((with_reducible refine g_convert ?_); first | refine lx_conv_int rfl rfl rfl rfl rfl ?_) | ((with_reducible refine g_buildSlice ?_); first | refine lx_buildSlice rfl rfl rfl rfl rfl rfl rfl ?_) | ((with_reducible refine g_append ?_); first | refine lx_append_row rfl rfl rfl rfl rfl rfl rfl rfl rfl rfl ?_ ?_ ?_) | refine c_condP rfl (fun hc => ?_) (fun hc => ?_) | refine lx_splitP rfl (fun hc => ?_) (fun hc => ?_))
      all_goals try (exfalso; omega)
      refine codeT_ghost (ghost_keep2 [0, 1, 18] [.par 0] rfl rfl) ?_
      refine codeT_loop (fun p env st => ∃ (j : Nat), j ≤ 3 ∧ p = 3 - j ∧ (∀ i, i < j → n < -((256 ^ (2 ^ i) / 2 : Nat) : Int)) ∧
          env = EnvL.get [(0, .row (.par 0)), (1, .t (.int .i64 n)), (18, .t (.int .i64 (j : Int)))] ∧ st = StO.get [(.par 0, some (.slt 5 1 es))])
        ?_ (n := 3) ⟨0, by omega, rfl, fun i hi => by omega, rfl, rfl⟩
      rintro p env st ⟨j, hj, rfl, hlo, rfl, rfl⟩
      have hP := fun X => hP X j hj
      repeat' (first | (with_reducible refine codeT_seq ?_) | (with_reducible refine codeT_block ?_) | (with_reducible refine codeT_skip ?_) | (with_reducible refine codeT_ret ?_) | (with_reducible refine codeT_exit ?_) | (with_reducible refine codeT_regionL ?_) | ((with_reducible refine codeT_region_drawL ?_ ?_); · rfl) | (with_reducible refine lx_nil ?_) | (with_reducible refine q_then ?_) | (with_reducible refine q_then_exit ?_) | (with_reducible refine q_then_ret ?_) | (with_reducible refine q_block ?_) | (with_reducible refine q_block_ret ?_) | ((with_reducible refine q_block_same ?_ ?_); · rfl) | (with_reducible refine q_loop_exit ?_) | (with_reducible refine q_loop_ret ?_) | ((with_reducible refine q_region_draw ?_ ?_); · rfl) | refine c_condT rfl ?_ | refine c_condF rfl ?_ | ((with_reducible refine g_guard ?_); first | refine lx_skip rfl rfl rfl ?_) | ((with_reducible refine g_move ?_); first | refine lx_move (r := (.t _)) rfl rfl rfl rfl rfl ?_ | refine lx_move (r := (.row _)) rfl rfl rfl rfl rfl ?_) | ((with_reducible refine g_binOp ?_); first | refine lx_arith rfl rfl rfl rfl rfl rfl rfl ?_ | refine lx_shl rfl rfl rfl rfl rfl rfl ?_ ?_ | refine lx_shr rfl rfl rfl rfl rfl rfl ?_ ?_) | ((with_reducible refine g_assign ?_); first | refine lx_assign (r := (.t _)) rfl rfl rfl rfl rfl ?_ | refine lx_assign (r := (.row _)) rfl rfl rfl rfl rfl ?_) | ((with_reducible refine g_pick ?_); first | refine lx_pickT (r := (.t _)) rfl rfl rfl rfl rfl rfl ?_ | refine lx_pickF (r := (.t _)) rfl rfl rfl rfl rfl rfl ?_) | ((with_reducible refine g_convert ?_); first | refine lx_conv_int rfl rfl rfl rfl rfl ?_) | ((with_reducible refine g_buildSlice ?_); first | refine lx_buildSlice rfl rfl rfl rfl rfl rfl rfl ?_) | ((with_reducible refine g_append ?_); first | refine lx_append_row rfl rfl rfl rfl rfl rfl rfl rfl rfl rfl ?_ ?_ ?_) | ((with_reducible refine g_call ?_); first | refine lx_call (r' := .row (.loc 902)) [(.par 0, .loc 62), (.res 0, .loc 902)] rfl rfl (hP _) (ArgsLE.refl _) rfl ⟨rfl, trivial⟩ rfl rfl rfl rfl rfl rfl rfl rfl rfl rfl ?_) | refine c_condP rfl (fun hc => ?_) (fun hc => ?_) | refine lx_splitP rfl (fun hc => ?_) (fun hc => ?_))
      all_goals try simp only [sh8 hj] at *
      all_goals try (exfalso; omega)
      all_goals try (simp only [List.length_cons, List.length_nil]; omega)
      all_goals try (exact dn_pos hj)
      all_goals try omega
      · refine q_ghost ((ghost_keep2 [4] [.loc 902] rfl rfl).trans (ghost_renL2 (.loc 902) (.res 0) rfl rfl rfl rfl)) ?_
        refine q_done (q_ret (resT_one rfl (AVLE.refl _)) (stHas_spec ⟨?_, trivial⟩))
        rw [pNum_dn hj (by omega) hlo (.inr ((dn_one hj (by omega)).1 hc)), dn_byte hj, List.append_assoc]; rfl
      · have hnz : ¬ -((256 ^ (2 ^ j) / 2 : Nat) : Int) ≤ n := fun h => hc ((dn_one hj (by omega)).2 h)
        have hj2 : j ≤ 2 := by
          have : j ≠ 3 := fun e => hnz (by rw [e]; simp; omega)
          omega
        refine q_loop (n' := 3 - (j + 1)) (by omega) (ghost_keep2 [0, 1, 18] [.par 0] rfl rfl) ⟨j + 1, by omega, rfl, fun i hi => ?_, by rw [wrap64 (by omega) (by omega)]; rfl, rfl⟩
        rcases Nat.lt_or_ge i j with h | h
        · exact hlo i h
        · obtain rfl : i = j := by omega
          omega
end Go.AL
/- What pack.count and pack.text answer. -/
set_option linter.unusedVariables false
namespace Go.AL
open Go Go.Proofs Go.RowKit

set_option maxHeartbeats 8000000 in
theorem pCn_call (es : List T) (hes : es.length ≤ 100000000) (few many n : Nat) (hf : few < 240) (hm : many < 256) (hn : n < 65536) : Spec Tryd.prog 90 [.row (.par 0), .t (.int .u8 (few : Int)), .t (.int .u8 (many : Int)), .t (.int .i64 (n : Int))] [(.par 0, .slt 5 1 es)] (.row (.res 0)) [(.res 0, .slt 5 1 (es ++ u8L (pCn few many n)))] := by
  have hP : ∀ X : T, Spec Tryd.prog 77 [.row (.par 0), .t (.int .u64 (IntKind.u64.wrap (n : Int))), .t (.int .i64 2)] [(.par 0, .slt 5 1 (es ++ [X]))] (.row (.res 0)) [(.res 0, .slt 5 1 ((es ++ [X]) ++ u8L (bigL 2 n)))] := fun X => by
    rw [wrapU64 (by omega) (by omega)]
    exact Put_spec _ (by simp; omega) n (by omega) 2 (by omega)
  unfold pCn
  by_cases h : n < 16
  · rw [if_pos h]
    refine spec_introG (env0 := [(0, _), (1, _), (2, _), (3, _)]) (st0 := [(_, some _)]) Tryd.func90 rfl rfl rfl rfl ?_
    repeat' (first | (with_reducible refine codeT_seq ?_) | (with_reducible refine codeT_skip ?_) | (with_reducible refine codeT_ret ?_) | (with_reducible refine codeT_regionL ?_) | (with_reducible refine lx_nil ?_) | (with_reducible refine q_then ?_) | (with_reducible refine q_then_ret ?_) | ((with_reducible refine g_move ?_); first | refine lx_move (r := (.t _)) rfl rfl rfl rfl rfl ?_ | refine lx_move (r := (.row _)) rfl rfl rfl rfl rfl ?_) | ((with_reducible refine g_binOp ?_); first | refine lx_arith rfl rfl rfl rfl rfl rfl rfl ?_) | ((with_reducible refine g_assign ?_); first | refine lx_assign (r := (.t _)) rfl rfl rfl rfl rfl ?_ | refine lx_assign (r := (.row _)) rfl rfl rfl rfl rfl ?_) | ((with_reducible refine g_convert ?_); first | refine lx_conv_int rfl rfl rfl rfl rfl ?_) | ((with_reducible refine g_buildSlice ?_); first | refine lx_buildSlice rfl rfl rfl rfl rfl rfl rfl ?_) | ((with_reducible refine g_append ?_); first | refine lx_append_row rfl rfl rfl rfl rfl rfl rfl rfl rfl rfl ?_ ?_ ?_) | refine c_condP rfl (fun hc => ?_) (fun hc => ?_))
    all_goals try (exfalso; omega)
    all_goals try (simp only [List.length_cons, List.length_nil]; omega)
    refine q_ghost ((ghost_keep2 [8] [.loc 17] rfl rfl).trans (ghost_renL2 (.loc 17) (.res 0) rfl rfl rfl rfl)) ?_
    refine q_done (q_ret (resT_one rfl (AVLE.refl _)) (stHas_spec ⟨?_, trivial⟩))
    have : IntKind.u8.wrap ((few : Int) + IntKind.u8.wrap (n : Int)) = ((UInt8.ofNat (few + n)).toNat : Int) := by
      rw [wrapU8 (n := (n : Int)) (by omega) (by omega), wrapU8 (by omega) (by omega), UInt8.toNat_ofNat']; omega
    rw [this]; rfl
  · rw [if_neg h]
    refine spec_introG (env0 := [(0, _), (1, _), (2, _), (3, _)]) (st0 := [(_, some _)]) Tryd.func90 rfl rfl rfl rfl ?_
    repeat' (first | (with_reducible refine codeT_seq ?_) | (with_reducible refine codeT_skip ?_) | (with_reducible refine codeT_ret ?_) | (with_reducible refine codeT_regionL ?_) | (with_reducible refine lx_nil ?_) | (with_reducible refine q_then ?_) | (with_reducible refine q_then_ret ?_) | ((with_reducible refine g_move ?_); first | refine lx_move (r := (.t _)) rfl rfl rfl rfl rfl ?_ | refine lx_move (r := (.row _)) rfl rfl rfl rfl rfl ?_) | ((with_reducible refine g_binOp ?_); first | refine lx_arith rfl rfl rfl rfl rfl rfl rfl ?_) | ((with_reducible refine g_assign ?_); first | refine lx_assign (r := (.t _)) rfl rfl rfl rfl rfl ?_ | refine lx_assign (r := (.row _)) rfl rfl rfl rfl rfl ?_) | ((with_reducible refine g_convert ?_); first | refine lx_conv_int rfl rfl rfl rfl rfl ?_) | ((with_reducible refine g_buildSlice ?_); first | refine lx_buildSlice rfl rfl rfl rfl rfl rfl rfl ?_) | ((with_reducible refine g_append ?_); first | refine lx_append_row rfl rfl rfl rfl rfl rfl rfl rfl rfl rfl ?_ ?_ ?_) | ((with_reducible refine g_call ?_); first | refine lx_call (r' := .row (.loc 901)) [(.par 0, .loc 21), (.res 0, .loc 901)] rfl rfl (hP _) (ArgsLE.refl _) rfl ⟨rfl, trivial⟩ rfl rfl rfl rfl rfl rfl rfl rfl rfl rfl ?_) | refine c_condP rfl (fun hc => ?_) (fun hc => ?_))
    all_goals try (exfalso; omega)
    all_goals try (simp only [List.length_cons, List.length_nil]; omega)
    refine q_ghost ((ghost_keep2 [8] [.loc 901] rfl rfl).trans (ghost_renL2 (.loc 901) (.res 0) rfl rfl rfl rfl)) ?_
    refine q_done (q_ret (resT_one rfl (AVLE.refl _)) (stHas_spec ⟨?_, trivial⟩))
    have : (many : Int) = ((UInt8.ofNat many).toNat : Int) := by rw [UInt8.toNat_ofNat']; omega
    rw [this, List.append_assoc]; rfl
set_option maxHeartbeats 8000000 in
theorem pTx_call (es : List T) (hes : es.length ≤ 100000000) (s : ByteArray) (hs : s.size ≤ 1000000) : Spec Tryd.prog 89 [.row (.par 0), .t (.str s)] [(.par 0, .slt 5 1 es)] (.row (.res 0)) [(.res 0, .slt 5 1 (es ++ u8L (pTx s)))] := by
  obtain ⟨z, hz⟩ : ∃ z, (s.size : Int) = z := ⟨_, rfl⟩
  have hP : ∀ (X : T) (k : Nat), k ≤ 8 → Spec Tryd.prog 77 [.row (.par 0), .t (.int .u64 (IntKind.u64.wrap z)), .t (.int .i64 (k : Int))] [(.par 0, .slt 5 1 (es ++ [X]))] (.row (.res 0)) [(.res 0, .slt 5 1 ((es ++ [X]) ++ u8L (bigL k s.size)))] := fun X k hk => by
    rw [wrapU64 (by omega) (by omega), ← hz]
    exact Put_spec _ (by simp; omega) s.size (by omega) k hk
  have hP1 := fun X => hP X 1 (by omega)
  have hP2 := fun X => hP X 2 (by omega)
  have hP4 := fun X => hP X 4 (by omega)
  have hb : (bytesT s).length = s.size := by unfold bytesT; rw [List.length_map]; exact toList_len s
  have hl := toList_len s
  have e0 : bytesT s = u8L s.data.toList := rfl
  unfold pTx pTh
  by_cases h32 : s.size < 32
  · rw [if_pos h32]
    refine spec_introG (env0 := [(0, _), (1, _)]) (st0 := [(_, some _)]) Tryd.func89 rfl rfl rfl rfl ?_
    repeat' (first | (with_reducible refine codeT_seq ?_) | (with_reducible refine codeT_block ?_) | (with_reducible refine codeT_ret ?_) | (with_reducible refine codeT_regionL ?_) | (with_reducible refine lx_nil ?_) | (with_reducible refine q_then ?_) | (with_reducible refine q_block ?_) | refine lx_len_strE hz rfl rfl rfl rfl rfl ?_ | ((with_reducible refine g_move ?_); first | refine lx_move (r := (.t _)) rfl rfl rfl rfl rfl ?_ | refine lx_move (r := (.row _)) rfl rfl rfl rfl rfl ?_) | ((with_reducible refine g_binOp ?_); first | refine lx_arith rfl rfl rfl rfl rfl rfl rfl ?_) | ((with_reducible refine g_assign ?_); first | refine lx_assign (r := (.t _)) rfl rfl rfl rfl rfl ?_ | refine lx_assign (r := (.row _)) rfl rfl rfl rfl rfl ?_) | ((with_reducible refine g_convert ?_); first | refine lx_conv_int rfl rfl rfl rfl rfl ?_) | ((with_reducible refine g_buildSlice ?_); first | refine lx_buildSlice rfl rfl rfl rfl rfl rfl rfl ?_) | ((with_reducible refine g_append ?_); first | refine lx_append_row rfl rfl rfl rfl rfl rfl rfl rfl rfl rfl ?_ ?_ ?_ | refine lx_append_str rfl rfl rfl rfl rfl rfl rfl rfl rfl ?_ ?_ ?_) | refine c_condP rfl (fun hc => ?_) (fun hc => ?_))
    all_goals try (exfalso; omega)
    all_goals try (simp only [List.length_append, List.length_cons, List.length_nil, hb]; omega)
    refine q_ghost ((ghost_keep2 [4] [.loc 43] rfl rfl).trans (ghost_renL2 (.loc 43) (.res 0) rfl rfl rfl rfl)) ?_
    refine q_done (q_ret (resT_one rfl (AVLE.refl _)) (stHas_spec ⟨?_, trivial⟩))
    have : IntKind.u8.wrap (IntKind.i64.wrap (160 + z)) = ((UInt8.ofNat (160 + s.size)).toNat : Int) := by
      rw [wrap64 (by omega) (by omega), wrapU8 (by omega) (by omega), UInt8.toNat_ofNat']; omega
    rw [this, e0, u8L_append, ← List.append_assoc]; rfl
  · rw [if_neg h32]
    by_cases h256 : s.size < 256
    · rw [if_pos h256]
      refine spec_introG (env0 := [(0, _), (1, _)]) (st0 := [(_, some _)]) Tryd.func89 rfl rfl rfl rfl ?_
      repeat' (first | (with_reducible refine codeT_seq ?_) | (with_reducible refine codeT_block ?_) | (with_reducible refine codeT_ret ?_) | (with_reducible refine codeT_regionL ?_) | (with_reducible refine lx_nil ?_) | (with_reducible refine q_then ?_) | (with_reducible refine q_block ?_) | refine lx_len_strE hz rfl rfl rfl rfl rfl ?_ | ((with_reducible refine g_move ?_); first | refine lx_move (r := (.t _)) rfl rfl rfl rfl rfl ?_ | refine lx_move (r := (.row _)) rfl rfl rfl rfl rfl ?_) | ((with_reducible refine g_binOp ?_); first | refine lx_arith rfl rfl rfl rfl rfl rfl rfl ?_) | ((with_reducible refine g_assign ?_); first | refine lx_assign (r := (.t _)) rfl rfl rfl rfl rfl ?_ | refine lx_assign (r := (.row _)) rfl rfl rfl rfl rfl ?_) | ((with_reducible refine g_convert ?_); first | refine lx_conv_int rfl rfl rfl rfl rfl ?_) | ((with_reducible refine g_buildSlice ?_); first | refine lx_buildSlice rfl rfl rfl rfl rfl rfl rfl ?_) | ((with_reducible refine g_append ?_); first | refine lx_append_row rfl rfl rfl rfl rfl rfl rfl rfl rfl rfl ?_ ?_ ?_ | refine lx_append_str rfl rfl rfl rfl rfl rfl rfl rfl rfl ?_ ?_ ?_) | ((with_reducible refine g_call ?_); first | refine lx_call (r' := .row (.loc 901)) [(.par 0, .loc 28), (.res 0, .loc 901)] rfl rfl (hP1 _) (ArgsLE.refl _) rfl ⟨rfl, trivial⟩ rfl rfl rfl rfl rfl rfl rfl rfl rfl rfl ?_) | refine c_condP rfl (fun hc => ?_) (fun hc => ?_))
      all_goals try (exfalso; omega)
      all_goals try (simp only [List.length_append, List.length_cons, List.length_nil, u8L_len, bigL_len, hb]; omega)
      refine q_ghost ((ghost_keep2 [4] [.loc 43] rfl rfl).trans (ghost_renL2 (.loc 43) (.res 0) rfl rfl rfl rfl)) ?_
      refine q_done (q_ret (resT_one rfl (AVLE.refl _)) (stHas_spec ⟨?_, trivial⟩))
      rw [e0, u8L_append, ← List.append_assoc, List.append_assoc es]; rfl
    · rw [if_neg h256]
      by_cases h64 : s.size < 65536
      · rw [if_pos h64]
        refine spec_introG (env0 := [(0, _), (1, _)]) (st0 := [(_, some _)]) Tryd.func89 rfl rfl rfl rfl ?_
        repeat' (first | (with_reducible refine codeT_seq ?_) | (with_reducible refine codeT_block ?_) | (with_reducible refine codeT_ret ?_) | (with_reducible refine codeT_regionL ?_) | (with_reducible refine lx_nil ?_) | (with_reducible refine q_then ?_) | (with_reducible refine q_block ?_) | refine lx_len_strE hz rfl rfl rfl rfl rfl ?_ | ((with_reducible refine g_move ?_); first | refine lx_move (r := (.t _)) rfl rfl rfl rfl rfl ?_ | refine lx_move (r := (.row _)) rfl rfl rfl rfl rfl ?_) | ((with_reducible refine g_binOp ?_); first | refine lx_arith rfl rfl rfl rfl rfl rfl rfl ?_) | ((with_reducible refine g_assign ?_); first | refine lx_assign (r := (.t _)) rfl rfl rfl rfl rfl ?_ | refine lx_assign (r := (.row _)) rfl rfl rfl rfl rfl ?_) | ((with_reducible refine g_convert ?_); first | refine lx_conv_int rfl rfl rfl rfl rfl ?_) | ((with_reducible refine g_buildSlice ?_); first | refine lx_buildSlice rfl rfl rfl rfl rfl rfl rfl ?_) | ((with_reducible refine g_append ?_); first | refine lx_append_row rfl rfl rfl rfl rfl rfl rfl rfl rfl rfl ?_ ?_ ?_ | refine lx_append_str rfl rfl rfl rfl rfl rfl rfl rfl rfl ?_ ?_ ?_) | ((with_reducible refine g_call ?_); first | refine lx_call (r' := .row (.loc 901)) [(.par 0, .loc 37), (.res 0, .loc 901)] rfl rfl (hP2 _) (ArgsLE.refl _) rfl ⟨rfl, trivial⟩ rfl rfl rfl rfl rfl rfl rfl rfl rfl rfl ?_) | refine c_condP rfl (fun hc => ?_) (fun hc => ?_))
        all_goals try (exfalso; omega)
        all_goals try (simp only [List.length_append, List.length_cons, List.length_nil, u8L_len, bigL_len, hb]; omega)
        refine q_ghost ((ghost_keep2 [4] [.loc 43] rfl rfl).trans (ghost_renL2 (.loc 43) (.res 0) rfl rfl rfl rfl)) ?_
        refine q_done (q_ret (resT_one rfl (AVLE.refl _)) (stHas_spec ⟨?_, trivial⟩))
        rw [e0, u8L_append, ← List.append_assoc, List.append_assoc es]; rfl
      · rw [if_neg h64]
        refine spec_introG (env0 := [(0, _), (1, _)]) (st0 := [(_, some _)]) Tryd.func89 rfl rfl rfl rfl ?_
        repeat' (first | (with_reducible refine codeT_seq ?_) | (with_reducible refine codeT_block ?_) | (with_reducible refine codeT_ret ?_) | (with_reducible refine codeT_regionL ?_) | (with_reducible refine lx_nil ?_) | (with_reducible refine q_then ?_) | (with_reducible refine q_block ?_) | refine lx_len_strE hz rfl rfl rfl rfl rfl ?_ | ((with_reducible refine g_move ?_); first | refine lx_move (r := (.t _)) rfl rfl rfl rfl rfl ?_ | refine lx_move (r := (.row _)) rfl rfl rfl rfl rfl ?_) | ((with_reducible refine g_binOp ?_); first | refine lx_arith rfl rfl rfl rfl rfl rfl rfl ?_) | ((with_reducible refine g_assign ?_); first | refine lx_assign (r := (.t _)) rfl rfl rfl rfl rfl ?_ | refine lx_assign (r := (.row _)) rfl rfl rfl rfl rfl ?_) | ((with_reducible refine g_convert ?_); first | refine lx_conv_int rfl rfl rfl rfl rfl ?_) | ((with_reducible refine g_buildSlice ?_); first | refine lx_buildSlice rfl rfl rfl rfl rfl rfl rfl ?_) | ((with_reducible refine g_append ?_); first | refine lx_append_row rfl rfl rfl rfl rfl rfl rfl rfl rfl rfl ?_ ?_ ?_ | refine lx_append_str rfl rfl rfl rfl rfl rfl rfl rfl rfl ?_ ?_ ?_) | ((with_reducible refine g_call ?_); first | refine lx_call (r' := .row (.loc 901)) [(.par 0, .loc 10), (.res 0, .loc 901)] rfl rfl (hP4 _) (ArgsLE.refl _) rfl ⟨rfl, trivial⟩ rfl rfl rfl rfl rfl rfl rfl rfl rfl rfl ?_) | refine c_condP rfl (fun hc => ?_) (fun hc => ?_))
        all_goals try (exfalso; omega)
        all_goals try (simp only [List.length_append, List.length_cons, List.length_nil, u8L_len, bigL_len, hb]; omega)
        refine q_ghost ((ghost_keep2 [4] [.loc 43] rfl rfl).trans (ghost_renL2 (.loc 43) (.res 0) rfl rfl rfl rfl)) ?_
        refine q_done (q_ret (resT_one rfl (AVLE.refl _)) (stHas_spec ⟨?_, trivial⟩))
        rw [e0, u8L_append, ← List.append_assoc, List.append_assoc es]; rfl
end Go.AL
/- What pack.put answers: the bytes of a valid node. -/
set_option linter.unusedVariables false
namespace Go.AL
open Go Go.Proofs Go.RowKit

def preP (k : Int) (ns : List ByteArray) (is : List Nd) (i : Nat) : List UInt8 := if k = 5 then Nd.pbm (ns.take i) (is.take i) else Nd.pbs (is.take i)
theorem pbs_append : ∀ (a b : List Nd), Nd.pbs (a ++ b) = Nd.pbs a ++ Nd.pbs b
  | [], b => rfl
  | x :: a, b => by simp [Nd.pbs, pbs_append a b]
theorem pbm_append : ∀ (a : List ByteArray) (b : List Nd) (s : ByteArray) (x : Nd), a.length = b.length → Nd.pbm (a ++ [s]) (b ++ [x]) = Nd.pbm a b ++ (pTx s ++ x.pb)
  | [], [], s, x, _ => by simp [Nd.pbm]
  | n :: a, y :: b, s, x, h => by simp [Nd.pbm, pbm_append a b s x (by simpa using h), List.append_assoc]
  | [], _ :: _, _, _, h => by simp at h
  | _ :: _, [], _, _, h => by simp at h
theorem preP_list {k : Int} {ns : List ByteArray} {is : List Nd} {i : Nat} (hk : k ≠ 5) (hi : i < is.length) : preP k ns is (i + 1) = preP k ns is i ++ (is.getD i default).pb := by
  have e : is.take (i + 1) = is.take i ++ [is.getD i default] := by
    rw [List.take_add_one, List.getElem?_eq_getElem hi]; simp [List.getD_eq_getElem?_getD, hi]
  simp only [preP, if_neg hk, e, pbs_append, Nd.pbs, List.append_nil]
theorem preP_map {ns : List ByteArray} {is : List Nd} {i : Nat} (hl : ns.length = is.length) (hi : i < is.length) : preP 5 ns is (i + 1) = preP 5 ns is i ++ (pTx (ns.getD i default) ++ (is.getD i default).pb) := by
  have e : is.take (i + 1) = is.take i ++ [is.getD i default] := by
    rw [List.take_add_one, List.getElem?_eq_getElem hi]; simp [List.getD_eq_getElem?_getD, hi]
  have e2 : ns.take (i + 1) = ns.take i ++ [ns.getD i default] := by
    rw [List.take_add_one, List.getElem?_eq_getElem (by omega)]; simp [List.getD_eq_getElem?_getD, show i < ns.length by omega]
  simp only [preP, if_true, e, e2]
  exact pbm_append _ _ _ _ (by simp; omega)

theorem preP_mono {k : Int} {ns : List ByteArray} {is : List Nd} (hk : k = 5 → ns.length = is.length) {i j : Nat} (hij : i ≤ j) (hj : j ≤ is.length) : (preP k ns is i).length ≤ (preP k ns is j).length := by
  induction j with
  | zero => rw [show i = 0 by omega]; exact Nat.le_refl _
  | succ j ih =>
    rcases Nat.lt_or_ge i (j + 1) with h | h
    · refine Nat.le_trans (ih (by omega) (by omega)) ?_
      by_cases h5 : k = 5
      · subst h5
        rw [preP_map (hk rfl) (by omega), List.length_append]; omega
      · rw [preP_list h5 (by omega), List.length_append]; omega
    · rw [show i = j + 1 by omega]; exact Nat.le_refl _
def pFew (k : Int) : Nat := if k = 4 then 144 else 128
def pMany (k : Int) : Nat := if k = 4 then 220 else 222
set_option maxHeartbeats 8000000 in
theorem pput_seq (k : Int) (hk45 : k = 4 ∨ k = 5) (b : Bool) (n : Int) (t : ByteArray) (ns : List ByteArray) (is : List Nd) (hlen : is.length ≤ 256) (hk : k = 5 → ns.length = is.length)
    (hns : ∀ s ∈ ns, s.size ≤ 65536) (es : List T) (hb : es.length + (pCn (pFew k) (pMany k) is.length).length + (preP k ns is is.length).length ≤ 50000000)
    (IH : ∀ i, i < is.length → ∀ es' : List T, es'.length + (is.getD i default).pb.length ≤ 50000000 → Spec Tryd.prog 64 [.row (.par 0), .t (is.getD i default).toT] [(.par 0, .slt 5 1 es')] (.row (.res 0)) [(.res 0, .slt 5 1 (es' ++ u8L (is.getD i default).pb))]) :
    Spec Tryd.prog 64 [.row (.par 0), .t (.agg [.int .i64 k, .bool b, .int .i64 n, .str t, .sl 1 (ns.map .str), .sl 6 (is.map Nd.toT)])] [(.par 0, .slt 5 1 es)] (.row (.res 0)) [(.res 0, .slt 5 1 (es ++ u8L (pCn (pFew k) (pMany k) is.length) ++ u8L (preP k ns is is.length)))] := by
  have hI := Items_spec k b n t ns is
  have hH4 := pCn_call es (by omega) 144 220 is.length (by omega) (by omega) (by omega)
  have hH5 := pCn_call es (by omega) 128 222 is.length (by omega) (by omega) (by omega)
  obtain rfl | rfl := hk45
  · rw [show pFew 4 = 144 from rfl, show pMany 4 = 220 from rfl] at hb ⊢
    refine spec_introG (env0 := [(0, _), (1, _)]) (st0 := [(_, some _)]) Tryd.func64 rfl rfl rfl rfl ?_
    repeat' (first | (with_reducible refine codeT_seq ?_) | (with_reducible refine codeT_block ?_) | (with_reducible refine codeT_regionL ?_) | (with_reducible refine lx_nil ?_) | (with_reducible refine q_then ?_) | (with_reducible refine q_block ?_) | refine c_condT rfl ?_ | refine c_condF rfl ?_ | ((with_reducible refine g_load ?_); first | refine lx_load_var rfl rfl rfl rfl rfl rfl rfl rfl ?_ | refine lx_load_varA (r := (.t (.agg _))) rfl rfl rfl rfl rfl rfl rfl rfl rfl ?_) | ((with_reducible refine g_fieldAddr ?_); first | refine lx_fieldAddr rfl rfl rfl rfl rfl rfl rfl ?_) | ((with_reducible refine g_binOp ?_); first | refine lx_arith rfl rfl rfl rfl rfl rfl rfl ?_) | ((with_reducible refine g_assign ?_); first | refine lx_assign (r := (.t _)) rfl rfl rfl rfl rfl ?_) | ((with_reducible refine g_box ?_); first | refine lx_box (r := (.t (.agg _))) (cs := (List.map .t _)) rfl rfl rfl rfl rfl rfl rfl rfl rfl ?_ | refine lx_box (r := (.row _)) (cs := [.row _]) rfl rfl rfl rfl rfl rfl rfl rfl rfl ?_) | ((with_reducible refine g_store ?_); first | refine lx_store_var (r := (.row _)) rfl rfl rfl rfl rfl rfl rfl rfl rfl rfl ?_) | ((with_reducible refine g_len ?_); first | refine lx_len_map rfl rfl rfl rfl rfl ?_) | ((with_reducible refine g_call ?_); first | refine lx_call (r' := .row (.loc 903)) [(.res 0, .loc 903)] rfl rfl hH4 (ArgsLE.refl _) rfl ⟨rfl, trivial⟩ rfl rfl rfl rfl rfl rfl rfl rfl rfl rfl ?_ | refine lx_call (r' := .fn 105 [.ref (.loc 904) 0 0 0]) [(.res 0, .loc 904)] rfl rfl hI (ArgsLE.refl _) rfl trivial rfl rfl rfl rfl rfl rfl rfl rfl rfl rfl ?_))
    refine codeT_ghost ((ghost_keep2 [2, 3, 49] [.loc 2, .loc 3, .loc 903, .loc 904] rfl rfl).trans ((ghost_tpL 3 (.loc 3) [.int .i64 4, .bool b, .int .i64 n, .str t, .sl 1 (ns.map .str), .sl 6 (is.map Nd.toT)] rfl rfl rfl rfl rfl).trans (ghost_tpF 49 (.loc 904) [.int .i64 4, .bool b, .int .i64 n, .str t, .sl 1 (ns.map .str), .sl 6 (is.map Nd.toT)] rfl rfl rfl rfl rfl))) ?_
    refine codeT_rangeFuncL (.par 50) (.loc 905) [(.par 50, .loc 905), (.par 10, .loc 2), (.par 11, .loc 903), (.res 0, .loc 906)] rfl (fun fn B => ItemsF_spec 4 b n t ns is (by omega) hk ⟨62, fn, #[50, 51], _, _, B⟩ 2 3 (.agg [.int .i64 4, .bool b, .int .i64 n, .str t, .sl 1 (ns.map .str), .sl 6 (is.map Nd.toT)]) (fun i => es ++ u8L (pCn 144 220 is.length) ++ u8L (preP 4 ns is i)) ?_) (fun _ _ => rfl) rfl rfl rfl (ArgsLE.refl _) ⟨AVLE.refl _, AVLE.refl _, trivial⟩ rfl rfl ⟨rfl, ?_, trivial⟩ rfl rfl rfl rfl rfl rfl ?_
    rotate_left
    · have e0 : u8L (preP 4 ns is 0) = [] := by simp [preP, Nd.pbs, u8L]
      rw [e0, List.append_nil]; rfl
    · repeat' (first | (with_reducible refine codeT_seq ?_) | (with_reducible refine codeT_ret ?_) | (with_reducible refine codeT_regionL ?_) | (with_reducible refine lx_nil ?_) | (with_reducible refine q_then ?_) | (with_reducible refine q_block ?_) | ((with_reducible refine g_load ?_); first | refine lx_load_var rfl rfl rfl rfl rfl rfl rfl rfl ?_) | ((with_reducible refine g_assign ?_); first | refine lx_assign (r := (.row _)) rfl rfl rfl rfl rfl ?_))
      refine q_ghost ((ghost_keep2 [4] [.loc 906] rfl rfl).trans (ghost_renL2 (.loc 906) (.res 0) rfl rfl rfl rfl)) ?_
      exact q_done (q_ret (resT_one rfl (AVLE.of_eq rfl)) (stHas_spec ⟨rfl, trivial⟩))
    intro i hi
    have hle : (preP 4 ns is (i + 1)).length ≤ (preP 4 ns is is.length).length := preP_mono hk (by omega) (by omega)
    have hP := IH i hi (es ++ u8L (pCn 144 220 is.length) ++ u8L (preP 4 ns is i)) (by
      rw [preP_list (by decide) hi, List.length_append] at hle
      simp only [List.length_append, u8L_len]; omega)
    have hT := (is.getD i default).toT_full
    rw [hT] at hP ⊢
    rw [preP_list (by decide) hi, u8L_append, ← List.append_assoc]
    generalize es ++ u8L (pCn 144 220 is.length) ++ u8L (preP 4 ns is i) = xs at hP ⊢
    refine roundT_intro rfl rfl rfl rfl rfl ?_
    repeat' (first | (with_reducible refine codeT_seq ?_) | (with_reducible refine codeT_block ?_) | (with_reducible refine codeT_skip ?_) | (with_reducible refine codeT_regionL ?_) | (with_reducible refine lx_nil ?_) | (with_reducible refine q_then ?_) | (with_reducible refine q_block ?_) | refine c_condF rfl ?_ | ((with_reducible refine g_load ?_); first | refine lx_load_var rfl rfl rfl rfl rfl rfl rfl rfl ?_ | refine lx_load_varA (r := (.t (.agg _))) rfl rfl rfl rfl rfl rfl rfl rfl rfl ?_ | refine lx_load_tp rfl rfl rfl rfl rfl rfl rfl ?_) | ((with_reducible refine g_fieldAddr ?_); first | refine lx_fieldAddr_tp rfl rfl rfl rfl rfl rfl rfl ?_) | ((with_reducible refine g_binOp ?_); first | refine lx_arith rfl rfl rfl rfl rfl rfl rfl ?_) | ((with_reducible refine g_assign ?_); first | refine lx_assign (r := (.t _)) rfl rfl rfl rfl rfl ?_) | ((with_reducible refine g_alloc ?_); first | refine lx_alloc rfl rfl rfl rfl rfl rfl rfl ?_) | ((with_reducible refine g_store ?_); first | refine lx_store_var (r := (.t (.agg _))) rfl rfl rfl rfl rfl rfl rfl rfl rfl rfl ?_ | refine lx_store_var (r := (.row _)) rfl rfl rfl rfl rfl rfl rfl rfl rfl rfl ?_) | ((with_reducible refine g_call ?_); first | refine lx_call (r' := .row (.loc 907)) [(.par 0, .par 11), (.res 0, .loc 907)] rfl rfl hP (ArgsLE.refl _) rfl ⟨rfl, trivial⟩ rfl rfl rfl rfl rfl rfl rfl rfl rfl rfl ?_))
    refine q_ghost ((ghost_keep2 [] [.par 10, .loc 907] rfl rfl).trans (ghost_renL2 (.loc 907) (.res 0) rfl rfl rfl rfl)) ?_
    exact q_round ⟨rfl, rfl, trivial⟩
  · rw [show pFew 5 = 128 from rfl, show pMany 5 = 222 from rfl] at hb ⊢
    refine spec_introG (env0 := [(0, _), (1, _)]) (st0 := [(_, some _)]) Tryd.func64 rfl rfl rfl rfl ?_
    repeat' (first | (with_reducible refine codeT_seq ?_) | (with_reducible refine codeT_block ?_) | (with_reducible refine codeT_regionL ?_) | (with_reducible refine lx_nil ?_) | (with_reducible refine q_then ?_) | (with_reducible refine q_block ?_) | refine c_condF rfl ?_ | ((with_reducible refine g_load ?_); first | refine lx_load_var rfl rfl rfl rfl rfl rfl rfl rfl ?_ | refine lx_load_varA (r := (.t (.agg _))) rfl rfl rfl rfl rfl rfl rfl rfl rfl ?_) | ((with_reducible refine g_fieldAddr ?_); first | refine lx_fieldAddr rfl rfl rfl rfl rfl rfl rfl ?_) | ((with_reducible refine g_binOp ?_); first | refine lx_arith rfl rfl rfl rfl rfl rfl rfl ?_) | ((with_reducible refine g_assign ?_); first | refine lx_assign (r := (.t _)) rfl rfl rfl rfl rfl ?_) | ((with_reducible refine g_box ?_); first | refine lx_box (r := (.t (.agg _))) (cs := (List.map .t _)) rfl rfl rfl rfl rfl rfl rfl rfl rfl ?_ | refine lx_box (r := (.row _)) (cs := [.row _]) rfl rfl rfl rfl rfl rfl rfl rfl rfl ?_) | ((with_reducible refine g_store ?_); first | refine lx_store_var (r := (.row _)) rfl rfl rfl rfl rfl rfl rfl rfl rfl rfl ?_) | ((with_reducible refine g_len ?_); first | refine lx_len_map rfl rfl rfl rfl rfl ?_) | ((with_reducible refine g_call ?_); first | refine lx_call (r' := .row (.loc 903)) [(.res 0, .loc 903)] rfl rfl hH5 (ArgsLE.refl _) rfl ⟨rfl, trivial⟩ rfl rfl rfl rfl rfl rfl rfl rfl rfl rfl ?_ | refine lx_call (r' := .fn 105 [.ref (.loc 904) 0 0 0]) [(.res 0, .loc 904)] rfl rfl hI (ArgsLE.refl _) rfl trivial rfl rfl rfl rfl rfl rfl rfl rfl rfl rfl ?_))
    refine codeT_ghost ((ghost_keep2 [2, 3, 49] [.loc 2, .loc 3, .loc 903, .loc 904] rfl rfl).trans ((ghost_tpL 3 (.loc 3) [.int .i64 5, .bool b, .int .i64 n, .str t, .sl 1 (ns.map .str), .sl 6 (is.map Nd.toT)] rfl rfl rfl rfl rfl).trans (ghost_tpF 49 (.loc 904) [.int .i64 5, .bool b, .int .i64 n, .str t, .sl 1 (ns.map .str), .sl 6 (is.map Nd.toT)] rfl rfl rfl rfl rfl))) ?_
    refine codeT_rangeFuncL (.par 50) (.loc 905) [(.par 50, .loc 905), (.par 10, .loc 2), (.par 11, .loc 903), (.res 0, .loc 906)] rfl (fun fn B => ItemsF_spec 5 b n t ns is (by omega) hk ⟨62, fn, #[50, 51], _, _, B⟩ 2 3 (.agg [.int .i64 5, .bool b, .int .i64 n, .str t, .sl 1 (ns.map .str), .sl 6 (is.map Nd.toT)]) (fun i => es ++ u8L (pCn 128 222 is.length) ++ u8L (preP 5 ns is i)) ?_) (fun _ _ => rfl) rfl rfl rfl (ArgsLE.refl _) ⟨AVLE.refl _, AVLE.refl _, trivial⟩ rfl rfl ⟨rfl, ?_, trivial⟩ rfl rfl rfl rfl rfl rfl ?_
    rotate_left
    · have e0 : u8L (preP 5 ns is 0) = [] := by simp [preP, Nd.pbm, u8L]
      rw [e0, List.append_nil]; rfl
    · repeat' (first | (with_reducible refine codeT_seq ?_) | (with_reducible refine codeT_ret ?_) | (with_reducible refine codeT_regionL ?_) | (with_reducible refine lx_nil ?_) | (with_reducible refine q_then ?_) | (with_reducible refine q_block ?_) | ((with_reducible refine g_load ?_); first | refine lx_load_var rfl rfl rfl rfl rfl rfl rfl rfl ?_) | ((with_reducible refine g_assign ?_); first | refine lx_assign (r := (.row _)) rfl rfl rfl rfl rfl ?_))
      refine q_ghost ((ghost_keep2 [4] [.loc 906] rfl rfl).trans (ghost_renL2 (.loc 906) (.res 0) rfl rfl rfl rfl)) ?_
      exact q_done (q_ret (resT_one rfl (AVLE.of_eq rfl)) (stHas_spec ⟨rfl, trivial⟩))
    intro i hi
    have hle : (preP 5 ns is (i + 1)).length ≤ (preP 5 ns is is.length).length := preP_mono hk (by omega) (by omega)
    have hl5 := hk rfl
    have hsz : (ns.getD i default).size ≤ 65536 := hns _ (by rw [List.getD_eq_getElem?_getD, List.getElem?_eq_getElem (by omega)]; simp)
    have hnm : nameAt 5 ns i = ns.getD i default := by simp [nameAt]
    rw [hnm]
    rw [preP_map hl5 hi, List.length_append, List.length_append] at hle
    rw [preP_map hl5 hi, u8L_append, u8L_append, ← List.append_assoc, ← List.append_assoc]
    have hxs : (es ++ u8L (pCn 128 222 is.length) ++ u8L (preP 5 ns is i)).length + (pTx (ns.getD i default)).length + (is.getD i default).pb.length ≤ 50000000 := by
      simp only [List.length_append, u8L_len]; omega
    have hP := IH i hi
    have hT := (is.getD i default).toT_full
    rw [hT] at hP ⊢
    generalize es ++ u8L (pCn 128 222 is.length) ++ u8L (preP 5 ns is i) = xs at hP hxs ⊢
    generalize ns.getD i default = s at hsz hxs ⊢
    have hH3 := pTx_call xs (by omega) s (by omega)
    have hP2 := hP (xs ++ u8L (pTx s)) (by simp only [List.length_append, u8L_len]; omega)
    refine roundT_intro rfl rfl rfl rfl rfl ?_
    repeat' (first | (with_reducible refine codeT_seq ?_) | (with_reducible refine codeT_block ?_) | (with_reducible refine codeT_regionL ?_) | (with_reducible refine lx_nil ?_) | (with_reducible refine q_then ?_) | (with_reducible refine q_block ?_) | refine c_condT rfl ?_ | ((with_reducible refine g_move ?_); first | refine lx_move (r := (.t _)) rfl rfl rfl rfl rfl ?_) | ((with_reducible refine g_load ?_); first | refine lx_load_var rfl rfl rfl rfl rfl rfl rfl rfl ?_ | refine lx_load_varA (r := (.t (.agg _))) rfl rfl rfl rfl rfl rfl rfl rfl rfl ?_ | refine lx_load_tp rfl rfl rfl rfl rfl rfl rfl ?_) | ((with_reducible refine g_fieldAddr ?_); first | refine lx_fieldAddr_tp rfl rfl rfl rfl rfl rfl rfl ?_) | ((with_reducible refine g_binOp ?_); first | refine lx_arith rfl rfl rfl rfl rfl rfl rfl ?_) | ((with_reducible refine g_assign ?_); first | refine lx_assign (r := (.t _)) rfl rfl rfl rfl rfl ?_) | ((with_reducible refine g_alloc ?_); first | refine lx_alloc rfl rfl rfl rfl rfl rfl rfl ?_) | ((with_reducible refine g_store ?_); first | refine lx_store_var (r := (.t (.agg _))) rfl rfl rfl rfl rfl rfl rfl rfl rfl rfl ?_ | refine lx_store_var (r := (.row _)) rfl rfl rfl rfl rfl rfl rfl rfl rfl rfl ?_) | ((with_reducible refine g_call ?_); first | refine lx_call (r' := .row (.loc 908)) [(.par 0, .par 11), (.res 0, .loc 908)] rfl rfl hH3 (ArgsLE.refl _) rfl ⟨rfl, trivial⟩ rfl rfl rfl rfl rfl rfl rfl rfl rfl rfl ?_ | refine lx_call (r' := .row (.loc 907)) [(.par 0, .loc 908), (.res 0, .loc 907)] rfl rfl hP2 (ArgsLE.refl _) rfl ⟨rfl, trivial⟩ rfl rfl rfl rfl rfl rfl rfl rfl rfl rfl ?_))
    refine q_ghost ((ghost_keep2 [] [.par 10, .loc 907] rfl rfl).trans (ghost_renL2 (.loc 907) (.res 0) rfl rfl rfl rfl)) ?_
    exact q_round ⟨rfl, rfl, trivial⟩
set_option maxHeartbeats 8000000 in
theorem pput_spec {V : ByteArray → Bool} : ∀ (x : Nd) (e : Int), x.validB V e = true → x.In → ∀ es : List T, es.length + x.pb.length ≤ 50000000 →
    Spec Tryd.prog 64 [.row (.par 0), .t x.toT] [(.par 0, .slt 5 1 es)] (.row (.res 0)) [(.res 0, .slt 5 1 (es ++ u8L x.pb))]
  | .mk k b n t ns is, e, hv, hin, es, hb => by
    rw [valid_mk] at hv
    obtain ⟨h1, h2, h3, h4, h5, h6, h7, h8⟩ := hv
    cases hin with
    | mk i1 i2 i3 =>
    rw [Nd.toT_eq]
    have hk : k = 0 ∨ k = 1 ∨ k = 2 ∨ k = 3 ∨ (k = 4 ∨ k = 5) := by omega
    rcases hk with rfl | rfl | rfl | rfl | hk
    · have ec : (Nd.mk 0 b n t ns is).pb = [UInt8.ofNat 192] := by simp [Nd.pb]
      rw [ec]
      refine spec_introG (env0 := [(0, _), (1, _)]) (st0 := [(_, some _)]) Tryd.func64 rfl rfl rfl rfl ?_
      repeat' (first | (with_reducible refine codeT_seq ?_) | (with_reducible refine codeT_block ?_) | (with_reducible refine codeT_ret ?_) | (with_reducible refine codeT_regionL ?_) | (with_reducible refine lx_nil ?_) | (with_reducible refine q_then ?_) | (with_reducible refine q_then_ret ?_) | (with_reducible refine q_block_ret ?_) | refine c_condT rfl ?_ | ((with_reducible refine g_load ?_); first | refine lx_load_var rfl rfl rfl rfl rfl rfl rfl rfl ?_) | ((with_reducible refine g_fieldAddr ?_); first | refine lx_fieldAddr rfl rfl rfl rfl rfl rfl rfl ?_) | ((with_reducible refine g_binOp ?_); first | refine lx_arith rfl rfl rfl rfl rfl rfl rfl ?_) | ((with_reducible refine g_assign ?_); first | refine lx_assign (r := (.t _)) rfl rfl rfl rfl rfl ?_ | refine lx_assign (r := (.row _)) rfl rfl rfl rfl rfl ?_) | ((with_reducible refine g_box ?_); first | refine lx_box (r := (.t (.agg _))) (cs := (List.map .t _)) rfl rfl rfl rfl rfl rfl rfl rfl rfl ?_ | refine lx_box (r := (.row _)) (cs := [.row _]) rfl rfl rfl rfl rfl rfl rfl rfl rfl ?_) | ((with_reducible refine g_buildSlice ?_); first | refine lx_buildSlice rfl rfl rfl rfl rfl rfl rfl ?_) | ((with_reducible refine g_append ?_); first | refine lx_append_row rfl rfl rfl rfl rfl rfl rfl rfl rfl rfl ?_ ?_ ?_))
      all_goals try (simp only [List.length_cons, List.length_nil]; omega)
      refine q_ghost ((ghost_keep2 [4] [.loc 18] rfl rfl).trans (ghost_renL2 (.loc 18) (.res 0) rfl rfl rfl rfl)) ?_
      exact q_done (q_ret (resT_one rfl (AVLE.of_eq rfl)) (stHas_spec ⟨rfl, trivial⟩))
    · cases b with
      | true =>
        have ec : (Nd.mk 1 true n t ns is).pb = [UInt8.ofNat 195] := by simp [Nd.pb]
        rw [ec]
        refine spec_introG (env0 := [(0, _), (1, _)]) (st0 := [(_, some _)]) Tryd.func64 rfl rfl rfl rfl ?_
        repeat' (first | (with_reducible refine codeT_seq ?_) | (with_reducible refine codeT_block ?_) | (with_reducible refine codeT_ret ?_) | (with_reducible refine codeT_regionL ?_) | (with_reducible refine lx_nil ?_) | (with_reducible refine q_then ?_) | (with_reducible refine q_then_ret ?_) | (with_reducible refine q_block_ret ?_) | refine c_condT rfl ?_ | refine c_condF rfl ?_ | ((with_reducible refine g_load ?_); first | refine lx_load_var rfl rfl rfl rfl rfl rfl rfl rfl ?_) | ((with_reducible refine g_fieldAddr ?_); first | refine lx_fieldAddr rfl rfl rfl rfl rfl rfl rfl ?_) | ((with_reducible refine g_binOp ?_); first | refine lx_arith rfl rfl rfl rfl rfl rfl rfl ?_) | ((with_reducible refine g_assign ?_); first | refine lx_assign (r := (.t _)) rfl rfl rfl rfl rfl ?_ | refine lx_assign (r := (.row _)) rfl rfl rfl rfl rfl ?_) | ((with_reducible refine g_box ?_); first | refine lx_box (r := (.t (.agg _))) (cs := (List.map .t _)) rfl rfl rfl rfl rfl rfl rfl rfl rfl ?_ | refine lx_box (r := (.row _)) (cs := [.row _]) rfl rfl rfl rfl rfl rfl rfl rfl rfl ?_) | ((with_reducible refine g_buildSlice ?_); first | refine lx_buildSlice rfl rfl rfl rfl rfl rfl rfl ?_) | ((with_reducible refine g_append ?_); first | refine lx_append_row rfl rfl rfl rfl rfl rfl rfl rfl rfl rfl ?_ ?_ ?_))
        all_goals try (simp only [List.length_cons, List.length_nil]; omega)
        refine q_ghost ((ghost_keep2 [4] [.loc 25] rfl rfl).trans (ghost_renL2 (.loc 25) (.res 0) rfl rfl rfl rfl)) ?_
        exact q_done (q_ret (resT_one rfl (AVLE.of_eq rfl)) (stHas_spec ⟨rfl, trivial⟩))
      | false =>
        have ec : (Nd.mk 1 false n t ns is).pb = [UInt8.ofNat 194] := by simp [Nd.pb]
        rw [ec]
        refine spec_introG (env0 := [(0, _), (1, _)]) (st0 := [(_, some _)]) Tryd.func64 rfl rfl rfl rfl ?_
        repeat' (first | (with_reducible refine codeT_seq ?_) | (with_reducible refine codeT_block ?_) | (with_reducible refine codeT_skip ?_) | (with_reducible refine codeT_ret ?_) | (with_reducible refine codeT_regionL ?_) | (with_reducible refine lx_nil ?_) | (with_reducible refine q_then ?_) | (with_reducible refine q_then_ret ?_) | (with_reducible refine q_block_ret ?_) | refine c_condT rfl ?_ | refine c_condF rfl ?_ | ((with_reducible refine g_load ?_); first | refine lx_load_var rfl rfl rfl rfl rfl rfl rfl rfl ?_) | ((with_reducible refine g_fieldAddr ?_); first | refine lx_fieldAddr rfl rfl rfl rfl rfl rfl rfl ?_) | ((with_reducible refine g_binOp ?_); first | refine lx_arith rfl rfl rfl rfl rfl rfl rfl ?_) | ((with_reducible refine g_assign ?_); first | refine lx_assign (r := (.t _)) rfl rfl rfl rfl rfl ?_ | refine lx_assign (r := (.row _)) rfl rfl rfl rfl rfl ?_) | ((with_reducible refine g_box ?_); first | refine lx_box (r := (.t (.agg _))) (cs := (List.map .t _)) rfl rfl rfl rfl rfl rfl rfl rfl rfl ?_ | refine lx_box (r := (.row _)) (cs := [.row _]) rfl rfl rfl rfl rfl rfl rfl rfl rfl ?_) | ((with_reducible refine g_buildSlice ?_); first | refine lx_buildSlice rfl rfl rfl rfl rfl rfl rfl ?_) | ((with_reducible refine g_append ?_); first | refine lx_append_row rfl rfl rfl rfl rfl rfl rfl rfl rfl rfl ?_ ?_ ?_))
        all_goals try (simp only [List.length_cons, List.length_nil]; omega)
        refine q_ghost ((ghost_keep2 [4] [.loc 28] rfl rfl).trans (ghost_renL2 (.loc 28) (.res 0) rfl rfl rfl rfl)) ?_
        exact q_done (q_ret (resT_one rfl (AVLE.of_eq rfl)) (stHas_spec ⟨rfl, trivial⟩))
    · have ec : (Nd.mk 2 b n t ns is).pb = pNum n := by simp [Nd.pb]
      have hN := pNum_call es (by omega) n i1 i2
      rw [ec]
      refine spec_introG (env0 := [(0, _), (1, _)]) (st0 := [(_, some _)]) Tryd.func64 rfl rfl rfl rfl ?_
      repeat' (first | (with_reducible refine codeT_seq ?_) | (with_reducible refine codeT_block ?_) | (with_reducible refine codeT_ret ?_) | (with_reducible refine codeT_regionL ?_) | (with_reducible refine lx_nil ?_) | (with_reducible refine q_then ?_) | (with_reducible refine q_then_ret ?_) | (with_reducible refine q_block_ret ?_) | refine c_condT rfl ?_ | refine c_condF rfl ?_ | ((with_reducible refine g_load ?_); first | refine lx_load_var rfl rfl rfl rfl rfl rfl rfl rfl ?_) | ((with_reducible refine g_fieldAddr ?_); first | refine lx_fieldAddr rfl rfl rfl rfl rfl rfl rfl ?_) | ((with_reducible refine g_binOp ?_); first | refine lx_arith rfl rfl rfl rfl rfl rfl rfl ?_) | ((with_reducible refine g_assign ?_); first | refine lx_assign (r := (.t _)) rfl rfl rfl rfl rfl ?_ | refine lx_assign (r := (.row _)) rfl rfl rfl rfl rfl ?_) | ((with_reducible refine g_box ?_); first | refine lx_box (r := (.t (.agg _))) (cs := (List.map .t _)) rfl rfl rfl rfl rfl rfl rfl rfl rfl ?_ | refine lx_box (r := (.row _)) (cs := [.row _]) rfl rfl rfl rfl rfl rfl rfl rfl rfl ?_) | ((with_reducible refine g_call ?_); first | refine lx_call (r' := .row (.loc 903)) [(.res 0, .loc 903)] rfl rfl hN (ArgsLE.refl _) rfl ⟨rfl, trivial⟩ rfl rfl rfl rfl rfl rfl rfl rfl rfl rfl ?_))
      refine q_ghost ((ghost_keep2 [4] [.loc 903] rfl rfl).trans (ghost_renL2 (.loc 903) (.res 0) rfl rfl rfl rfl)) ?_
      exact q_done (q_ret (resT_one rfl (AVLE.of_eq rfl)) (stHas_spec ⟨rfl, trivial⟩))
    · have ec : (Nd.mk 3 b n t ns is).pb = pTx t := by simp [Nd.pb]
      have ht : t.size ≤ 65536 := by
        simp only [textB, Bool.and_eq_true, decide_eq_true_eq] at h5; omega
      have hN := pTx_call es (by omega) t (by omega)
      rw [ec]
      refine spec_introG (env0 := [(0, _), (1, _)]) (st0 := [(_, some _)]) Tryd.func64 rfl rfl rfl rfl ?_
      repeat' (first | (with_reducible refine codeT_seq ?_) | (with_reducible refine codeT_block ?_) | (with_reducible refine codeT_ret ?_) | (with_reducible refine codeT_regionL ?_) | (with_reducible refine lx_nil ?_) | (with_reducible refine q_then ?_) | (with_reducible refine q_then_ret ?_) | (with_reducible refine q_block_ret ?_) | refine c_condT rfl ?_ | refine c_condF rfl ?_ | ((with_reducible refine g_load ?_); first | refine lx_load_var rfl rfl rfl rfl rfl rfl rfl rfl ?_) | ((with_reducible refine g_fieldAddr ?_); first | refine lx_fieldAddr rfl rfl rfl rfl rfl rfl rfl ?_) | ((with_reducible refine g_binOp ?_); first | refine lx_arith rfl rfl rfl rfl rfl rfl rfl ?_) | ((with_reducible refine g_assign ?_); first | refine lx_assign (r := (.t _)) rfl rfl rfl rfl rfl ?_ | refine lx_assign (r := (.row _)) rfl rfl rfl rfl rfl ?_) | ((with_reducible refine g_box ?_); first | refine lx_box (r := (.t (.agg _))) (cs := (List.map .t _)) rfl rfl rfl rfl rfl rfl rfl rfl rfl ?_ | refine lx_box (r := (.row _)) (cs := [.row _]) rfl rfl rfl rfl rfl rfl rfl rfl rfl ?_) | ((with_reducible refine g_call ?_); first | refine lx_call (r' := .row (.loc 903)) [(.res 0, .loc 903)] rfl rfl hN (ArgsLE.refl _) rfl ⟨rfl, trivial⟩ rfl rfl rfl rfl rfl rfl rfl rfl rfl rfl ?_))
      refine q_ghost ((ghost_keep2 [4] [.loc 903] rfl rfl).trans (ghost_renL2 (.loc 903) (.res 0) rfl rfl rfl rfl)) ?_
      exact q_done (q_ret (resT_one rfl (AVLE.of_eq rfl)) (stHas_spec ⟨rfl, trivial⟩))
    · have ec : (Nd.mk k b n t ns is).pb = pCn (pFew k) (pMany k) is.length ++ preP k ns is is.length := by
        have e1 : is.take is.length = is := List.take_length
        rcases hk with rfl | rfl
        · simp [Nd.pb, preP, pFew, pMany]
        · have e2 : ns.take is.length = ns := by rw [← (h7 rfl).2]; exact List.take_length
          simp [Nd.pb, preP, e2, pFew, pMany]
      rw [ec] at hb ⊢
      rw [u8L_append, ← List.append_assoc]
      rw [List.length_append] at hb
      have hl : k = 5 → ns.length = is.length := fun h => by have := (h7 h).2; omega
      refine pput_seq k hk b n t ns is (by omega) hl (fun s hs => ?_) es (by omega) fun i hi es' hb' => ?_
      · by_cases h : k = 5
        · have := ((namesOk_iff (textB V) ns []).1 (h7 h).1).2 s hs
          have := this.2
          simp only [textB, Bool.and_eq_true, decide_eq_true_eq] at this; omega
        · have hz : ns.length = 0 := by
            simp only [Nd.fieldsOK, Bool.and_eq_true, Bool.or_eq_true, decide_eq_true_eq] at h4
            have := h4.2; omega
          rw [List.eq_nil_of_length_eq_zero hz] at hs; cases hs
      · have hm : is.getD i default ∈ is := by rw [List.getD_eq_getElem?_getD, List.getElem?_eq_getElem hi]; exact List.getElem_mem _
        exact pput_spec (is.getD i default) (e - 1) (h8 _ hm) (i3 _ hm) es' hb'
termination_by x => SizeOf.sizeOf x
decreasing_by
  have := List.sizeOf_lt_of_mem hm
  simp only [Nd.mk.sizeOf_spec]
  omega
end Go.AL
/- What pack.Encode answers, and the sanity check of law 8. -/
set_option linter.unusedVariables false
namespace Go.AL
open Go Go.Proofs Go.RowKit

set_option maxHeartbeats 4000000 in
theorem pEnc_spec {oF oA : Obj} {V : ByteArray → Bool} (hS : VSpec oF oA V) (x : Nd) (hx : x.Ok) (hin : x.In) (hsz : x.validB V 8 = true → x.pb.length ≤ 49999999) : Spec Tryd.prog 43 [.t x.toT] [(.par 100, .dat (.fix 0 oF)), (.par 101, .dat (.fix 1 oA))] (.tup [.t (.str (gEnc pkC V x).1), .t (.int .i64 (gEnc pkC V x).2)]) [(.par 100, .dat (.fix 0 oF)), (.par 101, .dat (.fix 1 oA))] := by
  have hC : Spec Tryd.prog 55 [.t x.toT, .t (.fn 64)] [(.par 100, .dat (.fix 0 oF)), (.par 101, .dat (.fix 1 oA))] (.tup [.t (.str (gEnc pkC V x).1), .t (.int .i64 (gEnc pkC V x).2)]) [(.par 100, .dat (.fix 0 oF)), (.par 101, .dat (.fix 1 oA))] := by
    have hV := Valid_spec hS x hx
    have hT := x.toT_full
    unfold gEnc
    show Spec _ _ _ _ (.tup [.t (.str (if x.validB V 8 = true then (if 65536 < x.pb.length then (eS, (3 : Int)) else (ofL x.pb, 0)) else (eS, 1)).1), .t (.int .i64 (if x.validB V 8 = true then (if 65536 < x.pb.length then (eS, (3 : Int)) else (ofL x.pb, 0)) else (eS, 1)).2)]) _
    cases hv : x.validB V 8 with
    | false =>
      rw [hv] at hV
      rw [hT] at hV ⊢
      refine spec_intro (env0 := [(0, _), (1, _)]) (st0 := [(_, some _), (_, some _)]) Tryd.func55 rfl rfl rfl rfl ?_
      repeat' (first | (with_reducible refine codeT_seq ?_) | (with_reducible refine codeT_ret ?_) | (with_reducible refine codeT_regionL ?_) | (with_reducible refine lx_nil ?_) | (with_reducible refine q_then ?_) | (with_reducible refine q_then_ret ?_) | refine c_condT rfl ?_ | ((with_reducible refine g_load ?_); first | refine lx_load_varA (r := (.t (.agg _))) rfl rfl rfl rfl rfl rfl rfl rfl rfl ?_) | ((with_reducible refine g_assign ?_); first | refine lx_assign (r := (.t _)) rfl rfl rfl rfl rfl ?_) | ((with_reducible refine g_box ?_); first | refine lx_box (r := (.t (.agg _))) (cs := (List.map .t _)) rfl rfl rfl rfl rfl rfl rfl rfl rfl ?_) | ((with_reducible refine g_unOp ?_); first | refine lx_not rfl rfl rfl rfl rfl ?_) | ((with_reducible refine g_call ?_); first | refine lx_call (r' := .t (.bool false)) [] rfl rfl hV (ArgsLE.refl _) rfl ⟨rfl, rfl, trivial⟩ rfl rfl rfl rfl rfl rfl rfl rfl rfl rfl ?_))
      exact q_ret (resT_twoE rfl rfl rfl rfl rfl) (stHas_spec ⟨rfl, rfl, trivial⟩)
    | true =>
      have hP := Spec.nilArg (pput_spec x 8 hv hin [] (by have := hsz hv; simp; omega)) rfl rfl rfl
      rw [List.nil_append] at hP
      rw [hv] at hV
      rw [hT] at hV hP ⊢
      have hlen : (u8L x.pb).length = x.pb.length := u8L_len _
      have hsz' := hsz hv
      refine spec_intro (env0 := [(0, _), (1, _)]) (st0 := [(_, some _), (_, some _)]) Tryd.func55 rfl rfl rfl rfl ?_
      repeat' (first | (with_reducible refine codeT_seq ?_) | (with_reducible refine codeT_skip ?_) | (with_reducible refine codeT_ret ?_) | (with_reducible refine codeT_regionL ?_) | (with_reducible refine lx_nil ?_) | (with_reducible refine q_then ?_) | (with_reducible refine q_then_ret ?_) | refine c_condF rfl ?_ | ((with_reducible refine g_move ?_); first | refine lx_move (r := (.t _)) rfl rfl rfl rfl rfl ?_ | refine lx_move (r := (.row _)) rfl rfl rfl rfl rfl ?_) | ((with_reducible refine g_load ?_); first | refine lx_load_varA (r := (.t (.agg _))) rfl rfl rfl rfl rfl rfl rfl rfl rfl ?_) | ((with_reducible refine g_binOp ?_); first | refine lx_arith rfl rfl rfl rfl rfl rfl rfl ?_) | ((with_reducible refine g_assign ?_); first | refine lx_assign (r := (.t _)) rfl rfl rfl rfl rfl ?_ | refine lx_assign (r := (.row _)) rfl rfl rfl rfl rfl ?_) | ((with_reducible refine g_box ?_); first | refine lx_box (r := (.t (.agg _))) (cs := (List.map .t _)) rfl rfl rfl rfl rfl rfl rfl rfl rfl ?_) | ((with_reducible refine g_unOp ?_); first | refine lx_not rfl rfl rfl rfl rfl ?_) | ((with_reducible refine g_convert ?_); first | refine lx_ofBytes_row rfl rfl rfl rfl rfl rfl ?_ ?_) | ((with_reducible refine g_len ?_); first | refine lx_len_rowmap rfl rfl rfl rfl rfl rfl ?_) | ((with_reducible refine g_call ?_); first | refine lx_call (r' := .t (.bool true)) [] rfl rfl hV (ArgsLE.refl _) rfl ⟨rfl, rfl, trivial⟩ rfl rfl rfl rfl rfl rfl rfl rfl rfl rfl ?_ | refine lx_call (r' := .row (.loc 903)) [(.res 0, .loc 903)] rfl rfl hP (ArgsLE.refl _) rfl trivial rfl rfl rfl rfl rfl rfl rfl rfl rfl rfl ?_) | refine c_condP rfl (fun hc => ?_) (fun hc => ?_))
      · exact q_ret (resT_twoE rfl rfl rfl (by rw [if_pos rfl, if_pos (by omega)]; rfl) (by rw [if_pos rfl, if_pos (by omega)])) (stHas_spec ⟨rfl, rfl, trivial⟩)
      · exact u8L_isU8 _
      · exact q_ret (resT_twoE rfl rfl rfl (by rw [if_pos rfl, if_neg (by omega), strT_u8L]) (by rw [if_pos rfl, if_neg (by omega)])) (stHas_spec ⟨rfl, rfl, trivial⟩)
  generalize (gEnc pkC V x).1 = s1 at hC ⊢
  generalize (gEnc pkC V x).2 = s2 at hC ⊢
  have hT := x.toT_full
  rw [hT] at hC ⊢
  refine spec_intro (env0 := [(0, _)]) (st0 := [(_, some _), (_, some _)]) Tryd.func43 rfl rfl rfl rfl ?_
  repeat' (first | (with_reducible refine codeT_seq ?_) | (with_reducible refine codeT_ret ?_) | (with_reducible refine codeT_regionL ?_) | (with_reducible refine lx_nil ?_) | (with_reducible refine q_then ?_) | ((with_reducible refine g_load ?_); first | refine lx_load_varA (r := (.t (.agg _))) rfl rfl rfl rfl rfl rfl rfl rfl rfl ?_) | ((with_reducible refine g_assign ?_); first | refine lx_assign (r := (.t _)) rfl rfl rfl rfl rfl ?_) | ((with_reducible refine g_box ?_); first | refine lx_box (r := (.t (.agg _))) (cs := (List.map .t _)) rfl rfl rfl rfl rfl rfl rfl rfl rfl ?_) | ((with_reducible refine g_extract ?_); first | refine lx_extract rfl rfl rfl rfl rfl rfl ?_) | ((with_reducible refine g_call ?_); first | refine lx_call (r' := .tup [.t (.str s1), .t (.int .i64 s2)]) [] rfl rfl hC (ArgsLE.refl _) rfl ⟨rfl, rfl, trivial⟩ rfl rfl rfl rfl rfl rfl rfl rfl rfl rfl ?_))
  exact q_ret (resT_twoE rfl rfl rfl rfl rfl) (stHas_spec ⟨rfl, rfl, trivial⟩)

set_option maxHeartbeats 4000000 in
theorem awake8_spec {oF oA : Obj} {V : ByteArray → Bool} (hS : VSpec oF oA V) (hV : VOk V) : Spec Tryd.prog 42 [] [(.par 100, .dat (.fix 0 oF)), (.par 101, .dat (.fix 1 oA))] (.t (.bool true)) [(.par 100, .dat (.fix 0 oF)), (.par 101, .dat (.fix 1 oA))] := by
  have v1 : (Nd.ofNum 128).validB V 8 = true := ofNum_valid hV _ _ (by decide)
  have v2 : (Nd.ofNum (-33)).validB V 8 = true := ofNum_valid hV _ _ (by decide)
  have c1 : (Nd.ofNum 128).pb = [204, 128] := by decide
  have c2 : (Nd.ofNum (-33)).pb = [208, 223] := by decide
  have h1 := pEnc_spec hS (Nd.ofNum 128) (ofNum_ok 128) (.mk (by decide) (by decide) (by simp)) (fun _ => by rw [c1]; decide)
  have h2 := pEnc_spec hS (Nd.ofNum (-33)) (ofNum_ok (-33)) (.mk (by decide) (by decide) (by simp)) (fun _ => by rw [c2]; decide)
  have e1 : gEnc pkC V (Nd.ofNum 128) = (⟨#[204, 128]⟩, 0) := by
    rw [gEnc_ok v1 (by show (Nd.ofNum 128).pb.length ≤ 65536; rw [c1]; decide)]; show (ofL (Nd.ofNum 128).pb, (0 : Int)) = _; rw [c1]; rfl
  have e2 : gEnc pkC V (Nd.ofNum (-33)) = (⟨#[208, 223]⟩, 0) := by
    rw [gEnc_ok v2 (by show (Nd.ofNum (-33)).pb.length ≤ 65536; rw [c2]; decide)]; show (ofL (Nd.ofNum (-33)).pb, (0 : Int)) = _; rw [c2]; rfl
  rw [e1] at h1; rw [e2] at h2
  simp only [Nd.ofNum, Nd.toT_eq, List.map_nil] at h1 h2
  have hA1 : ArgsLE [.t (.agg [.int .i64 2, .bool false, .int .i64 128, .str ⟨#[]⟩, .nilsl, .nilsl])] [.t (.agg [.int .i64 2, .bool false, .int .i64 128, .str eS, .sl 1 [], .sl 6 []])] := (by repeat first | exact ArgsLE.nil | refine ArgsLE.cons (AVLE.refl _) ?_ | refine ArgsLE.t (by repeat first | exact TLe.refl _ | exact TLe.nil _ | exact TLe.esl _ | refine TLe.agg ?_ | refine TLs.cons ?_ ?_ | exact TLs.nil) ?_)
  have hA2 : ArgsLE [.t (.agg [.int .i64 2, .bool false, .int .i64 (-33), .str ⟨#[]⟩, .nilsl, .nilsl])] [.t (.agg [.int .i64 2, .bool false, .int .i64 (-33), .str eS, .sl 1 [], .sl 6 []])] := (by repeat first | exact ArgsLE.nil | refine ArgsLE.cons (AVLE.refl _) ?_ | refine ArgsLE.t (by repeat first | exact TLe.refl _ | exact TLe.nil _ | exact TLe.esl _ | refine TLe.agg ?_ | refine TLs.cons ?_ ?_ | exact TLs.nil) ?_)
  refine spec_intro (env0 := []) (st0 := [(_, some _), (_, some _)]) Tryd.func42 rfl rfl rfl rfl ?_
  repeat' (first | (with_reducible refine codeT_seq ?_) | (with_reducible refine codeT_ret ?_) | (with_reducible refine codeT_regionL ?_) | (with_reducible refine lx_nil ?_) | (with_reducible refine q_then ?_) | ((with_reducible refine g_move ?_); first | refine lx_move (r := (.t _)) rfl rfl rfl rfl rfl ?_ | refine lx_move (r := (.tup _)) rfl rfl rfl rfl rfl ?_) | ((with_reducible refine g_binOp ?_); first | refine lx_arith rfl rfl rfl rfl rfl rfl rfl ?_ | refine lx_str_eq rfl rfl rfl rfl rfl rfl ?_) | ((with_reducible refine g_assign ?_); first | refine lx_assign (r := (.t _)) rfl rfl rfl rfl rfl ?_) | ((with_reducible refine g_pick ?_); first | refine lx_pickT (r := (.t _)) rfl rfl rfl rfl rfl rfl ?_) | ((with_reducible refine g_extract ?_); first | refine lx_extract rfl rfl rfl rfl rfl rfl ?_) | ((with_reducible refine g_build ?_); first | refine lx_build (r := (.t (.agg _))) rfl rfl rfl rfl rfl rfl rfl ?_) | ((with_reducible refine g_call ?_); first | refine lx_call (r' := .tup [.t (.str ⟨#[204, 128]⟩), .t (.int .i64 0)]) [] rfl rfl h1 hA1 rfl ⟨rfl, rfl, trivial⟩ rfl rfl rfl rfl rfl rfl rfl rfl rfl rfl ?_ | refine lx_call (r' := .tup [.t (.str ⟨#[208, 223]⟩), .t (.int .i64 0)]) [] rfl rfl h2 hA2 rfl ⟨rfl, rfl, trivial⟩ rfl rfl rfl rfl rfl rfl rfl rfl rfl rfl ?_))
  all_goals try (first | decide | (simp; done))
  exact q_ret (resT_oneE rfl rfl rfl) (stHas_spec ⟨rfl, rfl, trivial⟩)
end Go.AL
