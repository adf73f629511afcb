/- What the document's value of the second serialisation answers. -/
import Derived.Test.YtmidabiehblekaaDoorJne
import Derived.Test.YtmidabiehblekaaDoorJsh
import Derived.Test.YtmidabiehblekaaDoorNod3
set_option linter.unusedVariables false
namespace Go.AL
open Go Go.Proofs Go.RowKit

set_option maxHeartbeats 2000000 in
theorem rNumber_call (v : Int) : Spec Tryd.prog 67 [.t (.int .i64 v)] [] (.t (.agg [.int .i64 2, .bool false, .int .i64 v, .str ⟨#[]⟩, .sl 1 [], .sl 6 []])) [] := by
  refine spec_intro (env0 := [(0, _)]) (st0 := []) Tryd.func67 rfl rfl rfl rfl ?_
  repeat' (first | (with_reducible refine codeT_seq ?_) | (with_reducible refine codeT_ret ?_) | (with_reducible refine codeT_regionL ?_) | (with_reducible refine lx_nil ?_) | (with_reducible refine q_then ?_) | ((with_reducible refine g_move ?_); first | refine lx_move (r := (.t _)) rfl rfl rfl rfl rfl ?_) | ((with_reducible refine g_alloc ?_); first | refine lx_alloc rfl rfl rfl rfl rfl rfl rfl ?_) | ((with_reducible refine g_store ?_); first | refine lx_store_var (r := (.t (.agg _))) rfl rfl rfl rfl rfl rfl rfl rfl rfl rfl ?_) | ((with_reducible refine g_build ?_); first | refine lx_build (r := (.t (.agg _))) rfl rfl rfl rfl rfl rfl rfl ?_))
  refine q_ret ?_ (stHas_spec trivial); refine resT_cell rfl rfl rfl inferInstance rfl inferInstance rfl ?_; exact TLe.av (by repeat first | exact TLe.refl _ | exact TLe.slq _ _ | exact TLe.nil _ | exact TLe.esl _ | refine TLe.agg ?_ | refine TLs.cons ?_ ?_ | exact TLs.nil)
set_option maxHeartbeats 2000000 in
theorem rTextN_call (t : ByteArray) : Spec Tryd.prog 51 [.t (.str t)] [] (.t (.agg [.int .i64 3, .bool false, .int .i64 0, .str t, .sl 1 [], .sl 6 []])) [] := by
  refine spec_intro (env0 := [(0, _)]) (st0 := []) Tryd.func51 rfl rfl rfl rfl ?_
  repeat' (first | (with_reducible refine codeT_seq ?_) | (with_reducible refine codeT_ret ?_) | (with_reducible refine codeT_regionL ?_) | (with_reducible refine lx_nil ?_) | (with_reducible refine q_then ?_) | ((with_reducible refine g_move ?_); first | refine lx_move (r := (.t _)) rfl rfl rfl rfl rfl ?_) | ((with_reducible refine g_alloc ?_); first | refine lx_alloc rfl rfl rfl rfl rfl rfl rfl ?_) | ((with_reducible refine g_store ?_); first | refine lx_store_var (r := (.t (.agg _))) rfl rfl rfl rfl rfl rfl rfl rfl rfl rfl ?_) | ((with_reducible refine g_build ?_); first | refine lx_build (r := (.t (.agg _))) rfl rfl rfl rfl rfl rfl rfl ?_))
  refine q_ret ?_ (stHas_spec trivial); refine resT_cell rfl rfl rfl inferInstance rfl inferInstance rfl ?_; exact TLe.av (by repeat first | exact TLe.refl _ | exact TLe.slq _ _ | exact TLe.nil _ | exact TLe.esl _ | refine TLe.agg ?_ | refine TLs.cons ?_ ?_ | exact TLs.nil)
def ZT : T := .agg [.int .i64 0, .bool false, .int .i64 0, .str ⟨#[]⟩, .sl 1 [], .sl 6 []]
end Go.AL
/- What the document's reader of the first serialisation answers: has, hex. -/
set_option linter.unusedVariables false
namespace Go.AL
open Go Go.Proofs Go.RowKit

set_option maxHeartbeats 2000000 in
theorem rHas_spec (s : ByteArray) (p : Nat) (t : ByteArray) (hs : s.size ≤ 1000000000) (hp : p ≤ 1000000000) (ht : t.size ≤ 1000) : Spec Tryd.prog 49 [.t (.str s), .t (.int .i64 (p : Int)), .t (.str t)] [] (.t (.bool (jHas s p t))) [] := by
  unfold jHas
  have w1 : IntKind.i64.wrap ((s.size : Int) - (p : Int)) = (s.size : Int) - p := wrap64 (by omega) (by omega)
  have w2 : IntKind.i64.wrap ((p : Int) + (t.size : Int)) = ((p + t.size : Nat) : Int) := by rw [wrap64 (by omega) (by omega)]; omega
  by_cases h : (t.size : Int) ≤ (s.size : Int) - p
  · rw [decide_eq_true h, Bool.true_and]
    refine spec_intro (env0 := [(0, _), (1, _), (2, _)]) (st0 := []) Tryd.func49 rfl rfl rfl rfl ?_
    repeat' (first | (with_reducible refine codeT_seq ?_) | (with_reducible refine codeT_ret ?_) | (with_reducible refine codeT_regionL ?_) | (with_reducible refine lx_nil ?_) | (with_reducible refine q_then ?_) | (exfalso; omega) | ((with_reducible refine g_move ?_); first | refine lx_move (r := (.t _)) rfl rfl rfl rfl rfl ?_) | ((with_reducible refine g_binOp ?_); first | refine lx_arith rfl rfl rfl rfl rfl rfl rfl ?_ | refine lx_str_eq rfl rfl rfl rfl rfl rfl ?_) | ((with_reducible refine g_assign ?_); first | refine lx_assign (r := (.t _)) rfl rfl rfl rfl rfl ?_) | ((with_reducible refine g_pick ?_); first | refine lx_pickT (r := (.t _)) rfl rfl rfl rfl rfl rfl ?_) | ((with_reducible refine g_slice ?_); first | refine lx_slice_str rfl rfl ⟨_, rfl⟩ ⟨_, rfl⟩ rfl rfl rfl ?_ ?_ ?_ ?_) | ((with_reducible refine g_len ?_); first | refine lx_len_str rfl rfl rfl rfl rfl ?_) | refine lx_splitP rfl (fun hc => ?_) (fun hc => ?_))
    all_goals try (rw [w2]; omega)
    all_goals try omega
    all_goals exact q_ret (resT_oneE rfl rfl (by rw [w2]; rfl)) (by simp)
  · rw [decide_eq_false h, Bool.false_and]
    refine spec_intro (env0 := [(0, _), (1, _), (2, _)]) (st0 := []) Tryd.func49 rfl rfl rfl rfl ?_
    repeat' (first | (with_reducible refine codeT_seq ?_) | (with_reducible refine codeT_ret ?_) | (with_reducible refine codeT_regionL ?_) | (with_reducible refine lx_nil ?_) | (with_reducible refine q_then ?_) | (exfalso; omega) | ((with_reducible refine g_guard ?_); first | refine lx_skip rfl rfl rfl ?_) | ((with_reducible refine g_move ?_); first | refine lx_move (r := (.t _)) rfl rfl rfl rfl rfl ?_) | ((with_reducible refine g_binOp ?_); first | refine lx_arith rfl rfl rfl rfl rfl rfl rfl ?_) | ((with_reducible refine g_assign ?_); first | refine lx_assign (r := (.t _)) rfl rfl rfl rfl rfl ?_) | ((with_reducible refine g_pick ?_); first | refine lx_pickF (r := (.t _)) rfl rfl rfl rfl rfl rfl ?_) | ((with_reducible refine g_len ?_); first | refine lx_len_str rfl rfl rfl rfl rfl ?_) | refine lx_splitP rfl (fun hc => ?_) (fun hc => ?_))
    all_goals try (rw [w2]; omega)
    all_goals try omega
    all_goals exact q_ret (resT_oneE rfl rfl rfl) (by simp)
theorem hexI (i : Fin 16) (a : Fin 256) : (bAt ⟨#[48, 49, 50, 51, 52, 53, 54, 55, 56, 57, 97, 98, 99, 100, 101, 102]⟩ (i.val : Int) = (a.val : Int)) ↔ hexD (a.val : Int) = (i.val : Int) := by
  revert i a; decide +kernel
theorem hexD_range (a : Int) : -1 ≤ hexD a ∧ hexD a < 16 := by
  unfold hexD; repeat' split
  all_goals omega
/-- What was found so far. -/
def hexU (a : Int) (i : Nat) : Int := if hexD a < i then hexD a else -1
theorem hexU_succ (a : Int) (i : Nat) : hexU a (i + 1) = if hexD a = i then (i : Int) else hexU a i := by
  have := hexD_range a
  unfold hexU
  repeat' split
  all_goals omega
set_option maxHeartbeats 4000000 in
theorem rHex_spec (a b : Int) (ha : 0 ≤ a ∧ a < 256) (hb : 0 ≤ b ∧ b < 256) : Spec Tryd.prog 66 [.t (.int .u8 a), .t (.int .u8 b)] [] (.tup [.t (.int .u8 (IntKind.u8.wrap (16 * hexD a + hexD b))), .t (.bool (decide (0 ≤ hexD a) && decide (0 ≤ hexD b)))]) [] := by
  have ra := hexD_range a
  have rb := hexD_range b
  obtain ⟨na, hna⟩ : ∃ na : Nat, (na : Int) = a := ⟨a.toNat, by omega⟩
  obtain ⟨nb, hnb⟩ : ∃ nb : Nat, (nb : Int) = b := ⟨b.toNat, by omega⟩
  refine spec_intro (env0 := [(0, _), (1, _)]) (st0 := []) Tryd.func66 rfl rfl rfl rfl ?_
  repeat' (first | (with_reducible refine codeT_seq ?_) | (with_reducible refine codeT_block ?_) | (with_reducible refine codeT_regionL ?_) | (with_reducible refine lx_nil ?_) | (with_reducible refine q_then ?_) | ((with_reducible refine g_move ?_); first | refine lx_move (r := (.t _)) rfl rfl rfl rfl rfl ?_) | ((with_reducible refine g_assign ?_); first | refine lx_assign (r := (.t _)) rfl rfl rfl rfl rfl ?_))
  refine codeT_ghost (ghost_keep2 [0, 1, 6, 7, 9] [] rfl rfl) ?_
  refine codeT_loop (fun p env st => ∃ (i : Nat), i ≤ 16 ∧ p = 16 - i ∧
      env = EnvL.get [(0, .t (.int .u8 a)), (1, .t (.int .u8 b)), (6, .t (.int .i64 (hexU a i))), (7, .t (.int .i64 (hexU b i))), (9, .t (.int .i64 (i : Int)))] ∧ st = StO.get [])
    ?_ (n := 16) ⟨0, by omega, rfl, by rw [show hexU a 0 = -1 by unfold hexU; split <;> omega, show hexU b 0 = -1 by unfold hexU; split <;> omega]; rfl, rfl⟩
  rintro p env st ⟨i, hi, rfl, rfl, rfl⟩
  by_cases hlt : i < 16
  · have ea := hexI ⟨i, hlt⟩ ⟨na, by omega⟩
    have eb := hexI ⟨i, hlt⟩ ⟨nb, by omega⟩
    simp only [hna, hnb] at ea eb
    have sa := hexU_succ a i
    have sb := hexU_succ b i
    have wi : IntKind.i64.wrap ((i : Int) + 1) = ((i + 1 : Nat) : Int) := by rw [wrap64 (by omega) (by omega)]; omega
    by_cases h1 : hexD a = i <;> by_cases h2 : hexD b = i
    · rw [if_pos h1] at sa
      rw [if_pos h2] at sb
      have e1 := ea.2 h1
      have e2 := eb.2 h2
      repeat' (first | (with_reducible refine codeT_seq ?_) | (with_reducible refine codeT_block ?_) | (with_reducible refine codeT_skip ?_) | (with_reducible refine codeT_exit ?_) | (with_reducible refine codeT_regionL ?_) | (with_reducible refine lx_nil ?_) | (with_reducible refine q_then ?_) | (with_reducible refine q_then_exit ?_) | (with_reducible refine q_block ?_) | ((with_reducible refine q_block_same ?_ ?_); · rfl) | (with_reducible refine q_loop_exit ?_) | (exfalso; omega) | ((with_reducible refine g_move ?_); first | refine lx_move (r := (.t _)) rfl rfl rfl rfl rfl ?_) | ((with_reducible refine g_binOp ?_); first | refine lx_arith rfl rfl rfl rfl rfl rfl rfl ?_) | ((with_reducible refine g_assign ?_); first | refine lx_assign (r := (.t _)) rfl rfl rfl rfl rfl ?_) | ((with_reducible refine g_index ?_); first | refine lx_index_str rfl rfl rfl rfl rfl rfl ?_ ?_ ?_) | refine c_condP rfl (fun hc => ?_) (fun hc => ?_))
      all_goals try (show (i : Int) < 16; omega)
      all_goals try omega
      exact q_loop (n' := 16 - (i + 1)) (by omega) (ghost_keep2 [0, 1, 6, 7, 9] [] rfl rfl) ⟨i + 1, by omega, rfl, by rw [sa, sb, wi]; rfl, rfl⟩
    · rw [if_pos h1] at sa
      rw [if_neg h2] at sb
      have e1 := ea.2 h1
      have e2 : ¬ _ := fun h => h2 (eb.1 h)
      repeat' (first | (with_reducible refine codeT_seq ?_) | (with_reducible refine codeT_block ?_) | (with_reducible refine codeT_skip ?_) | (with_reducible refine codeT_exit ?_) | (with_reducible refine codeT_regionL ?_) | (with_reducible refine lx_nil ?_) | (with_reducible refine q_then ?_) | (with_reducible refine q_then_exit ?_) | (with_reducible refine q_block ?_) | ((with_reducible refine q_block_same ?_ ?_); · rfl) | (with_reducible refine q_loop_exit ?_) | (exfalso; omega) | ((with_reducible refine g_move ?_); first | refine lx_move (r := (.t _)) rfl rfl rfl rfl rfl ?_) | ((with_reducible refine g_binOp ?_); first | refine lx_arith rfl rfl rfl rfl rfl rfl rfl ?_) | ((with_reducible refine g_assign ?_); first | refine lx_assign (r := (.t _)) rfl rfl rfl rfl rfl ?_) | ((with_reducible refine g_index ?_); first | refine lx_index_str rfl rfl rfl rfl rfl rfl ?_ ?_ ?_) | refine c_condP rfl (fun hc => ?_) (fun hc => ?_))
      all_goals try (show (i : Int) < 16; omega)
      all_goals try omega
      exact q_loop (n' := 16 - (i + 1)) (by omega) (ghost_keep2 [0, 1, 6, 7, 9] [] rfl rfl) ⟨i + 1, by omega, rfl, by rw [sa, sb, wi]; rfl, rfl⟩
    · rw [if_neg h1] at sa
      rw [if_pos h2] at sb
      have e1 : ¬ _ := fun h => h1 (ea.1 h)
      have e2 := eb.2 h2
      repeat' (first | (with_reducible refine codeT_seq ?_) | (with_reducible refine codeT_block ?_) | (with_reducible refine codeT_skip ?_) | (with_reducible refine codeT_exit ?_) | (with_reducible refine codeT_regionL ?_) | (with_reducible refine lx_nil ?_) | (with_reducible refine q_then ?_) | (with_reducible refine q_then_exit ?_) | (with_reducible refine q_block ?_) | ((with_reducible refine q_block_same ?_ ?_); · rfl) | (with_reducible refine q_loop_exit ?_) | (exfalso; omega) | ((with_reducible refine g_move ?_); first | refine lx_move (r := (.t _)) rfl rfl rfl rfl rfl ?_) | ((with_reducible refine g_binOp ?_); first | refine lx_arith rfl rfl rfl rfl rfl rfl rfl ?_) | ((with_reducible refine g_assign ?_); first | refine lx_assign (r := (.t _)) rfl rfl rfl rfl rfl ?_) | ((with_reducible refine g_index ?_); first | refine lx_index_str rfl rfl rfl rfl rfl rfl ?_ ?_ ?_) | refine c_condP rfl (fun hc => ?_) (fun hc => ?_))
      all_goals try (show (i : Int) < 16; omega)
      all_goals try omega
      exact q_loop (n' := 16 - (i + 1)) (by omega) (ghost_keep2 [0, 1, 6, 7, 9] [] rfl rfl) ⟨i + 1, by omega, rfl, by rw [sa, sb, wi]; rfl, rfl⟩
    · rw [if_neg h1] at sa
      rw [if_neg h2] at sb
      have e1 : ¬ _ := fun h => h1 (ea.1 h)
      have e2 : ¬ _ := fun h => h2 (eb.1 h)
      repeat' (first | (with_reducible refine codeT_seq ?_) | (with_reducible refine codeT_block ?_) | (with_reducible refine codeT_skip ?_) | (with_reducible refine codeT_exit ?_) | (with_reducible refine codeT_regionL ?_) | (with_reducible refine lx_nil ?_) | (with_reducible refine q_then ?_) | (with_reducible refine q_then_exit ?_) | (with_reducible refine q_block ?_) | ((with_reducible refine q_block_same ?_ ?_); · rfl) | (with_reducible refine q_loop_exit ?_) | (exfalso; omega) | ((with_reducible refine g_move ?_); first | refine lx_move (r := (.t _)) rfl rfl rfl rfl rfl ?_) | ((with_reducible refine g_binOp ?_); first | refine lx_arith rfl rfl rfl rfl rfl rfl rfl ?_) | ((with_reducible refine g_assign ?_); first | refine lx_assign (r := (.t _)) rfl rfl rfl rfl rfl ?_) | ((with_reducible refine g_index ?_); first | refine lx_index_str rfl rfl rfl rfl rfl rfl ?_ ?_ ?_) | refine c_condP rfl (fun hc => ?_) (fun hc => ?_))
      all_goals try (show (i : Int) < 16; omega)
      all_goals try omega
      exact q_loop (n' := 16 - (i + 1)) (by omega) (ghost_keep2 [0, 1, 6, 7, 9] [] rfl rfl) ⟨i + 1, by omega, rfl, by rw [sa, sb, wi]; rfl, rfl⟩
  · obtain rfl : i = 16 := by omega
    have e1 : hexU a 16 = hexD a := by unfold hexU; rw [if_pos (by omega)]
    have e2 : hexU b 16 = hexD b := by unfold hexU; rw [if_pos (by omega)]
    rw [e1, e2]
    generalize hexD a = x at *
    generalize hexD b = y at *
    have w : IntKind.i64.wrap (IntKind.i64.wrap (16 * x) + y) = 16 * x + y := by rw [wrap64 (n := 16 * x) (by omega) (by omega), wrap64 (by omega) (by omega)]
    repeat' (first | (with_reducible refine codeT_seq ?_) | (with_reducible refine codeT_ret ?_) | (with_reducible refine codeT_exit ?_) | (with_reducible refine codeT_regionL ?_) | (with_reducible refine lx_nil ?_) | (with_reducible refine q_then ?_) | (with_reducible refine q_then_exit ?_) | ((with_reducible refine q_block_same ?_ ?_); · rfl) | (with_reducible refine q_loop_exit ?_) | refine c_condF rfl ?_ | ((with_reducible refine g_guard ?_); first | refine lx_skip rfl rfl rfl ?_) | ((with_reducible refine g_move ?_); first | refine lx_move (r := (.t _)) rfl rfl rfl rfl rfl ?_) | ((with_reducible refine g_binOp ?_); first | refine lx_arith rfl rfl rfl rfl rfl rfl rfl ?_) | ((with_reducible refine g_assign ?_); first | refine lx_assign (r := (.t _)) rfl rfl rfl rfl rfl ?_) | ((with_reducible refine g_pick ?_); first | refine lx_pickT (r := (.t _)) rfl rfl rfl rfl rfl rfl ?_ | refine lx_pickF (r := (.t _)) rfl rfl rfl rfl rfl rfl ?_) | ((with_reducible refine g_convert ?_); first | refine lx_conv_int rfl rfl rfl rfl rfl ?_) | refine lx_splitP rfl (fun hc => ?_) (fun hc => ?_))
    all_goals try omega
    all_goals exact q_ret (resT_twoE rfl rfl rfl (by rw [w]) (by first | (simp; intros; omega) | (simp; omega) | (simp_all; done))) (by simp)
end Go.AL
/- What the document's reader of the first serialisation answers: quoted. -/
set_option linter.unusedVariables false
namespace Go.AL
open Go Go.Proofs Go.RowKit

theorem let6 (i : Fin 6) (a : Fin 256) : (bAt ⟨#[98, 116, 110, 63, 102, 114]⟩ (i.val : Int) = (a.val : Int) ∧ i.val ≠ 3) ↔ letD (a.val : Int) = 8 + (i.val : Int) := by
  revert i a; decide +kernel
theorem letD_range (a : Int) : letD a = -1 ∨ (8 ≤ letD a ∧ letD a ≤ 13) := by
  unfold letD; repeat' split
  all_goals omega
/-- What was found so far. -/
def letU (a : Int) (i : Nat) : Int := if letD a < 8 + i then letD a else -1
theorem letU_succ (a : Int) (i : Nat) : letU a (i + 1) = if letD a = 8 + i then 8 + (i : Int) else letU a i := by
  have := letD_range a
  unfold letU
  repeat' split
  all_goals omega
theorem jqQuo_end (s : ByteArray) (f : Nat) (out : List UInt8) (p : Nat) (h : s.size ≤ p) : jqQuo s f out p = (eS, -1) := by
  cases f with
  | zero => rfl
  | succ f => rw [jqQuo, if_pos h]
set_option maxHeartbeats 16000000 in
theorem rQuoted_spec (s : ByteArray) (p : Nat) (hs : s.size ≤ 1000000) (hp : p ≤ 1000000) : Spec Tryd.prog 50 [.t (.str s), .t (.int .i64 (p : Int))] [] (.tup [.t (.str (jqQuoted s p).1), .t (.int .i64 (jqQuoted s p).2)]) [] := by
  obtain ⟨res, hres⟩ : ∃ res, res = jqQuoted s p := ⟨_, rfl⟩
  rw [← hres]
  unfold jqQuoted at hres
  have wp : IntKind.i64.wrap ((p : Int) + 1) = ((p + 1 : Nat) : Int) := by rw [wrap64 (by omega) (by omega)]; omega
  refine spec_introG (env0 := [(0, _), (1, _)]) (st0 := []) Tryd.func50 rfl rfl rfl rfl ?_
  repeat' (first | (with_reducible refine codeT_seq ?_) | (with_reducible refine codeT_block ?_) | (with_reducible refine codeT_regionL ?_) | (with_reducible refine lx_nil ?_) | (with_reducible refine q_then ?_) | ((with_reducible refine g_move ?_); first | refine lx_move (r := (.t _)) rfl rfl rfl rfl rfl ?_) | ((with_reducible refine g_binOp ?_); first | refine lx_arith rfl rfl rfl rfl rfl rfl rfl ?_) | ((with_reducible refine g_assign ?_); first | refine lx_assign (r := (.t _)) rfl rfl rfl rfl rfl ?_))
  refine codeT_ghost (ghost_nilL 6 (.loc 1000) 5 1 rfl rfl rfl) ?_
  rw [wp]
  refine codeT_ghost (ghost_keep2 [0, 1, 6] [.loc 1000] rfl rfl) ?_
  refine codeT_loop (fun m env st => ∃ (out : List UInt8) (q : Nat), q ≤ 1000010 ∧ s.size + 2 ≤ m + q ∧ out.length ≤ q ∧ res = jqQuo s m out q ∧
      env = EnvL.get [(0, .t (.str s)), (1, .t (.int .i64 (q : Int))), (6, .row (.loc 1000))] ∧
      st = StO.get [(.loc 1000, some (.slt 5 1 (u8L out)))])
    ?_ (n := s.size + 1) ⟨[], p + 1, by omega, by omega, by simp, hres, rfl, rfl⟩
  rintro m env st ⟨out, q, hq, hm, hol, hi, rfl, rfl⟩
  clear hres wp
  by_cases hlt : q < s.size
  · obtain ⟨m, rfl⟩ : ∃ k, m = k + 1 := ⟨m - 1, by omega⟩
    have W1 : IntKind.i64.wrap ((q : Int) + 1) = ((q + 1 : Nat) : Int) := by rw [wrap64 (by omega) (by omega)]; omega
    have W2 : IntKind.i64.wrap (IntKind.i64.wrap ((q : Int) + 1) + 1) = ((q + 2 : Nat) : Int) := by rw [W1, wrap64 (by omega) (by omega)]; omega
    have W4 : IntKind.i64.wrap (IntKind.i64.wrap ((q : Int) + 1) + 3) = ((q + 4 : Nat) : Int) := by rw [W1, wrap64 (by omega) (by omega)]; omega
    have W5 : IntKind.i64.wrap (IntKind.i64.wrap ((q : Int) + 1) + 4) = ((q + 5 : Nat) : Int) := by rw [W1, wrap64 (by omega) (by omega)]; omega
    have W6 : IntKind.i64.wrap (IntKind.i64.wrap (IntKind.i64.wrap ((q : Int) + 1) + 4) + 1) = ((q + 6 : Nat) : Int) := by rw [W5, wrap64 (by omega) (by omega)]; omega
    have r0 := bAt_range s (q : Nat)
    rw [jqQuo, if_neg (by omega)] at hi
    by_cases h34 : bAt s (q : Nat) = 34
    · rw [if_pos h34] at hi
      repeat' (first | (with_reducible refine codeT_seq ?_) | (with_reducible refine codeT_block ?_) | (with_reducible refine codeT_skip ?_) | (with_reducible refine codeT_ret ?_) | (with_reducible refine codeT_exit ?_) | (with_reducible refine codeT_regionL ?_) | (with_reducible refine lx_nil ?_) | (with_reducible refine q_then ?_) | (with_reducible refine q_then_exit ?_) | (with_reducible refine q_then_ret ?_) | (with_reducible refine q_block_ret ?_) | ((with_reducible refine q_block_same ?_ ?_); · rfl) | (with_reducible refine q_loop_exit ?_) | (with_reducible refine q_loop_ret ?_) | (exfalso; omega) | ((with_reducible refine g_move ?_); first | refine lx_move (r := (.t _)) rfl rfl rfl rfl rfl ?_ | refine lx_move (r := (.row _)) rfl rfl rfl rfl rfl ?_) | ((with_reducible refine g_binOp ?_); first | refine lx_arith rfl rfl rfl rfl rfl rfl rfl ?_) | ((with_reducible refine g_assign ?_); first | refine lx_assign (r := (.t _)) rfl rfl rfl rfl rfl ?_) | ((with_reducible refine g_index ?_); first | refine lx_index_str rfl rfl rfl rfl rfl rfl ?_ ?_ ?_) | ((with_reducible refine g_convert ?_); first | refine lx_ofBytes_row rfl rfl rfl rfl rfl rfl ?_ ?_) | ((with_reducible refine g_len ?_); first | refine lx_len_str rfl rfl rfl rfl rfl ?_) | refine c_condP rfl (fun hc => ?_) (fun hc => ?_))
      all_goals try omega
      all_goals try exact u8L_isU8 _
      all_goals exact q_done (q_ret (resT_twoE rfl rfl rfl (by rw [hi, strT_u8L]) (by rw [hi, W1]; simp)) (by simp))
    rw [if_neg h34] at hi
    by_cases h92 : bAt s (q : Nat) = 92
    · rw [if_neg (fun h => h h92)] at hi
      have hH := rHas_spec s (q + 1) uS (by omega) (by omega) (by decide)
      have hle : jHas s (q + 1) uS = true → q + 4 ≤ s.size := fun h => by
        have h1 := jHas_le h
        have h2 : uS.size = 3 := rfl
        omega
      generalize jHas s (q + 1) uS = hu at *
      rw [← W1] at hH
      rw [← W4, ← W5] at hi
      rw [← W1] at hi
      obtain ⟨A1, hA1⟩ : ∃ A1, A1 = IntKind.i64.wrap ((q : Int) + 1) := ⟨_, rfl⟩
      obtain ⟨A4, hA4⟩ : ∃ A4, A4 = IntKind.i64.wrap (IntKind.i64.wrap ((q : Int) + 1) + 3) := ⟨_, rfl⟩
      obtain ⟨A5, hA5⟩ : ∃ A5, A5 = IntKind.i64.wrap (IntKind.i64.wrap ((q : Int) + 1) + 4) := ⟨_, rfl⟩
      have r1 := bAt_range s A1
      have r4 := bAt_range s A4
      have r5 := bAt_range s A5
      have d1 := letD_range (bAt s A1)
      have d4 := hexD_range (bAt s A4)
      have d5 := hexD_range (bAt s A5)
      have hX := rHex_spec (bAt s A4) (bAt s A5) r4 r5
      have hL := fun (i : Nat) (hi : i < 6) => let6 ⟨i, hi⟩ ⟨(bAt s A1).toNat, by omega⟩
      simp only [Int.toNat_of_nonneg r1.1] at hL
      rw [← hA4, ← hA5, ← hA1] at hi
      by_cases hux : hu = true ∧ q + 5 < s.size
      · rw [if_pos hux] at hi
        obtain ⟨rfl, h5⟩ := hux
        have h16 : hexD (bAt s A4) ≥ 0 → hexD (bAt s A5) ≥ 0 → IntKind.u8.wrap (16 * hexD (bAt s A4) + hexD (bAt s A5)) = 16 * hexD (bAt s A4) + hexD (bAt s A5) := fun a b => wrapU8 (by omega) (by omega)
        by_cases hbad : hexD (bAt s A4) < 0 ∨ hexD (bAt s A5) < 0
        · rw [if_pos hbad] at hi
          have eb : (decide (0 ≤ hexD (bAt s A4)) && decide (0 ≤ hexD (bAt s A5))) = false := by simp; omega
          rw [eb] at hX
          rw [hi]
          clear h16 hL
          subst hA4 hA5
          repeat' (first | (with_reducible refine codeT_seq ?_) | (with_reducible refine codeT_block ?_) | (with_reducible refine codeT_skip ?_) | (with_reducible refine codeT_ret ?_) | (with_reducible refine codeT_exit ?_) | (with_reducible refine codeT_regionL ?_) | ((with_reducible refine codeT_region_drawL ?_ ?_); · rfl) | (with_reducible refine lx_nil ?_) | (with_reducible refine q_then ?_) | (with_reducible refine q_then_exit ?_) | (with_reducible refine q_then_ret ?_) | (with_reducible refine q_block ?_) | (with_reducible refine q_block_ret ?_) | ((with_reducible refine q_block_same ?_ ?_); · rfl) | (with_reducible refine q_loop_exit ?_) | (with_reducible refine q_loop_ret ?_) | ((with_reducible refine q_region_draw ?_ ?_); · rfl) | refine c_condT rfl ?_ | (exfalso; omega) | ((with_reducible refine g_move ?_); first | refine lx_move (r := (.t _)) rfl rfl rfl rfl rfl ?_ | refine lx_move (r := (.tup _)) rfl rfl rfl rfl rfl ?_) | ((with_reducible refine g_binOp ?_); first | refine lx_arith rfl rfl rfl rfl rfl rfl rfl ?_) | ((with_reducible refine g_assign ?_); first | refine lx_assign (r := (.t _)) rfl rfl rfl rfl rfl ?_) | ((with_reducible refine g_pick ?_); first | refine lx_pickT (r := (.t _)) rfl rfl rfl rfl rfl rfl ?_) | ((with_reducible refine g_index ?_); first | refine lx_index_str rfl rfl rfl rfl rfl rfl ?_ ?_ ?_) | ((with_reducible refine g_unOp ?_); first | refine lx_not rfl rfl rfl rfl rfl ?_) | ((with_reducible refine g_extract ?_); first | refine lx_extract rfl rfl rfl rfl rfl rfl ?_) | ((with_reducible refine g_len ?_); first | refine lx_len_str rfl rfl rfl rfl rfl ?_) | ((with_reducible refine g_call ?_); first | refine lx_callT rfl rfl hH rfl rfl (ArgsLE.refl _) rfl rfl rfl rfl rfl ?_ | refine lx_callT rfl rfl hX rfl rfl (ArgsLE.refl _) rfl rfl rfl rfl rfl ?_) | refine c_condP rfl (fun hc => ?_) (fun hc => ?_) | refine c_condN rfl (fun hc => ?_) (fun hc => ?_))
          all_goals try omega
          all_goals exact q_done (q_ret (resT_twoE rfl rfl rfl rfl rfl) (by simp))
        · rw [if_neg hbad] at hi
          have eb : (decide (0 ≤ hexD (bAt s A4)) && decide (0 ≤ hexD (bAt s A5))) = true := by simp; omega
          rw [eb, h16 (by omega) (by omega)] at hX
          clear h16 hL
          generalize hv : 16 * hexD (bAt s A4) + hexD (bAt s A5) = v at hi hX
          have rv : 0 ≤ v ∧ v < 256 := by omega
          clear hv hbad eb
          subst hA4 hA5
          repeat' (first | (with_reducible refine codeT_seq ?_) | (with_reducible refine codeT_block ?_) | (with_reducible refine codeT_skip ?_) | (with_reducible refine codeT_exit ?_) | (with_reducible refine codeT_regionL ?_) | ((with_reducible refine codeT_region_drawL ?_ ?_); · rfl) | (with_reducible refine lx_nil ?_) | (with_reducible refine q_then ?_) | (with_reducible refine q_then_exit ?_) | (with_reducible refine q_block ?_) | ((with_reducible refine q_block_same ?_ ?_); · rfl) | (with_reducible refine q_loop_exit ?_) | ((with_reducible refine q_region_draw ?_ ?_); · rfl) | refine c_condF rfl ?_ | (exfalso; omega) | ((with_reducible refine g_move ?_); first | refine lx_move (r := (.t _)) rfl rfl rfl rfl rfl ?_ | refine lx_move (r := (.row _)) rfl rfl rfl rfl rfl ?_ | refine lx_move (r := (.tup _)) rfl rfl rfl rfl rfl ?_) | ((with_reducible refine g_binOp ?_); first | refine lx_arith rfl rfl rfl rfl rfl rfl rfl ?_) | ((with_reducible refine g_assign ?_); first | refine lx_assign (r := (.t _)) rfl rfl rfl rfl rfl ?_ | refine lx_assign (r := (.row _)) rfl rfl rfl rfl rfl ?_) | ((with_reducible refine g_pick ?_); first | refine lx_pickT (r := (.t _)) rfl rfl rfl rfl rfl rfl ?_) | ((with_reducible refine g_index ?_); first | refine lx_index_str rfl rfl rfl rfl rfl rfl ?_ ?_ ?_) | ((with_reducible refine g_unOp ?_); first | refine lx_not rfl rfl rfl rfl rfl ?_) | ((with_reducible refine g_extract ?_); first | refine lx_extract rfl rfl rfl rfl rfl rfl ?_) | ((with_reducible refine g_buildSlice ?_); first | refine lx_buildSlice rfl rfl rfl rfl rfl rfl rfl ?_) | ((with_reducible refine g_len ?_); first | refine lx_len_str rfl rfl rfl rfl rfl ?_) | ((with_reducible refine g_append ?_); first | refine lx_append_row rfl rfl rfl rfl rfl rfl rfl rfl rfl rfl ?_ ?_ ?_) | ((with_reducible refine g_call ?_); first | refine lx_callT rfl rfl hH rfl rfl (ArgsLE.refl _) rfl rfl rfl rfl rfl ?_ | refine lx_callT rfl rfl hX rfl rfl (ArgsLE.refl _) rfl rfl rfl rfl rfl ?_) | refine c_condP rfl (fun hc => ?_) (fun hc => ?_) | refine c_condN rfl (fun hc => ?_) (fun hc => ?_))
          all_goals try (simp only [u8L_len, List.length_singleton]; omega)
          all_goals try omega
          all_goals exact q_loop (n' := m) (by omega) ((ghost_keep2 [0, 1, 6] [.loc 96] rfl rfl).trans (ghost_renL2 (.loc 96) (.loc 1000) rfl rfl rfl rfl)) ⟨_, q + 6, by omega, by omega, by simp; omega, hi, by rw [W6]; rfl, by rw [← u8L_snocI out _ rv.1 rv.2]; rfl⟩
      · rw [if_neg hux] at hi
        clear hX d4 d5 r4 r5
        by_cases hq : q + 1 < s.size ∧ (bAt s A1 = 34 ∨ bAt s A1 = 92)
        · rw [if_pos hq] at hi
          clear hL
          subst hA1
          cases hu with
          | true =>
            have h5 : ¬ q + 5 < s.size := fun h => hux ⟨rfl, h⟩
            repeat' (first | (with_reducible refine codeT_seq ?_) | (with_reducible refine codeT_block ?_) | (with_reducible refine codeT_skip ?_) | (with_reducible refine codeT_exit ?_) | (with_reducible refine codeT_regionL ?_) | ((with_reducible refine codeT_region_drawL ?_ ?_); · rfl) | (with_reducible refine lx_nil ?_) | (with_reducible refine q_then ?_) | (with_reducible refine q_then_exit ?_) | (with_reducible refine q_block ?_) | ((with_reducible refine q_block_same ?_ ?_); · rfl) | (with_reducible refine q_loop_exit ?_) | refine c_condT rfl ?_ | (exfalso; omega) | ((with_reducible refine g_guard ?_); first | refine lx_skip rfl rfl rfl ?_) | ((with_reducible refine g_move ?_); first | refine lx_move (r := (.t _)) rfl rfl rfl rfl rfl ?_ | refine lx_move (r := (.row _)) rfl rfl rfl rfl rfl ?_) | ((with_reducible refine g_binOp ?_); first | refine lx_arith rfl rfl rfl rfl rfl rfl rfl ?_) | ((with_reducible refine g_assign ?_); first | refine lx_assign (r := (.t _)) rfl rfl rfl rfl rfl ?_ | refine lx_assign (r := (.row _)) rfl rfl rfl rfl rfl ?_) | ((with_reducible refine g_pick ?_); first | refine lx_pickT (r := (.t _)) rfl rfl rfl rfl rfl rfl ?_ | refine lx_pickF (r := (.t _)) rfl rfl rfl rfl rfl rfl ?_) | ((with_reducible refine g_index ?_); first | refine lx_index_str rfl rfl rfl rfl rfl rfl ?_ ?_ ?_) | ((with_reducible refine g_buildSlice ?_); first | refine lx_buildSlice rfl rfl rfl rfl rfl rfl rfl ?_) | ((with_reducible refine g_len ?_); first | refine lx_len_str rfl rfl rfl rfl rfl ?_) | ((with_reducible refine g_append ?_); first | refine lx_append_row rfl rfl rfl rfl rfl rfl rfl rfl rfl rfl ?_ ?_ ?_) | ((with_reducible refine g_call ?_); first | refine lx_callT rfl rfl hH rfl rfl (ArgsLE.refl _) rfl rfl rfl rfl rfl ?_) | refine c_condP rfl (fun hc => ?_) (fun hc => ?_) | refine c_condN rfl (fun hc => ?_) (fun hc => ?_) | refine lx_splitP rfl (fun hc => ?_) (fun hc => ?_))
            all_goals try (simp only [u8L_len, List.length_singleton]; omega)
            all_goals try omega
            all_goals exact q_loop (n' := m) (by omega) ((ghost_keep2 [0, 1, 6] [.loc 121] rfl rfl).trans (ghost_renL2 (.loc 121) (.loc 1000) rfl rfl rfl rfl)) ⟨_, q + 2, by omega, by omega, by simp; omega, hi, by rw [W2]; rfl, by rw [← u8L_snocI out _ r1.1 r1.2]; rfl⟩
          | false =>
            repeat' (first | (with_reducible refine codeT_seq ?_) | (with_reducible refine codeT_block ?_) | (with_reducible refine codeT_skip ?_) | (with_reducible refine codeT_exit ?_) | (with_reducible refine codeT_regionL ?_) | (with_reducible refine lx_nil ?_) | (with_reducible refine q_then ?_) | (with_reducible refine q_then_exit ?_) | (with_reducible refine q_block ?_) | ((with_reducible refine q_block_same ?_ ?_); · rfl) | (with_reducible refine q_loop_exit ?_) | refine c_condT rfl ?_ | refine c_condF rfl ?_ | (exfalso; omega) | ((with_reducible refine g_guard ?_); first | refine lx_skip rfl rfl rfl ?_) | ((with_reducible refine g_move ?_); first | refine lx_move (r := (.t _)) rfl rfl rfl rfl rfl ?_ | refine lx_move (r := (.row _)) rfl rfl rfl rfl rfl ?_) | ((with_reducible refine g_binOp ?_); first | refine lx_arith rfl rfl rfl rfl rfl rfl rfl ?_) | ((with_reducible refine g_assign ?_); first | refine lx_assign (r := (.t _)) rfl rfl rfl rfl rfl ?_ | refine lx_assign (r := (.row _)) rfl rfl rfl rfl rfl ?_) | ((with_reducible refine g_pick ?_); first | refine lx_pickT (r := (.t _)) rfl rfl rfl rfl rfl rfl ?_ | refine lx_pickF (r := (.t _)) rfl rfl rfl rfl rfl rfl ?_) | ((with_reducible refine g_index ?_); first | refine lx_index_str rfl rfl rfl rfl rfl rfl ?_ ?_ ?_) | ((with_reducible refine g_buildSlice ?_); first | refine lx_buildSlice rfl rfl rfl rfl rfl rfl rfl ?_) | ((with_reducible refine g_len ?_); first | refine lx_len_str rfl rfl rfl rfl rfl ?_) | ((with_reducible refine g_append ?_); first | refine lx_append_row rfl rfl rfl rfl rfl rfl rfl rfl rfl rfl ?_ ?_ ?_) | ((with_reducible refine g_call ?_); first | refine lx_callT rfl rfl hH rfl rfl (ArgsLE.refl _) rfl rfl rfl rfl rfl ?_) | refine c_condP rfl (fun hc => ?_) (fun hc => ?_) | refine c_condN rfl (fun hc => ?_) (fun hc => ?_) | refine lx_splitP rfl (fun hc => ?_) (fun hc => ?_))
            all_goals try (simp only [u8L_len, List.length_singleton]; omega)
            all_goals try omega
            all_goals exact q_loop (n' := m) (by omega) ((ghost_keep2 [0, 1, 6] [.loc 121] rfl rfl).trans (ghost_renL2 (.loc 121) (.loc 1000) rfl rfl rfl rfl)) ⟨_, q + 2, by omega, by omega, by simp; omega, hi, by rw [W2]; rfl, by rw [← u8L_snocI out _ r1.1 r1.2]; rfl⟩
        · rw [if_neg hq] at hi
          subst hA1
          cases hu with
          | true =>
            have h5 : ¬ q + 5 < s.size := fun h => hux ⟨rfl, h⟩
            repeat' (first | (with_reducible refine codeT_seq ?_) | (with_reducible refine codeT_block ?_) | (with_reducible refine codeT_skip ?_) | (with_reducible refine codeT_exit ?_) | (with_reducible refine codeT_regionL ?_) | ((with_reducible refine codeT_region_drawL ?_ ?_); · rfl) | (with_reducible refine lx_nil ?_) | (with_reducible refine q_then ?_) | (with_reducible refine q_then_exit ?_) | (with_reducible refine q_block ?_) | ((with_reducible refine q_block_same ?_ ?_); · rfl) | (with_reducible refine q_loop_exit ?_) | refine c_condF rfl ?_ | (exfalso; omega) | ((with_reducible refine g_guard ?_); first | refine lx_skip rfl rfl rfl ?_) | ((with_reducible refine g_move ?_); first | refine lx_move (r := (.t _)) rfl rfl rfl rfl rfl ?_) | ((with_reducible refine g_binOp ?_); first | refine lx_arith rfl rfl rfl rfl rfl rfl rfl ?_) | ((with_reducible refine g_assign ?_); first | refine lx_assign (r := (.t _)) rfl rfl rfl rfl rfl ?_) | ((with_reducible refine g_pick ?_); first | refine lx_pickT (r := (.t _)) rfl rfl rfl rfl rfl rfl ?_ | refine lx_pickF (r := (.t _)) rfl rfl rfl rfl rfl rfl ?_) | ((with_reducible refine g_index ?_); first | refine lx_index_str rfl rfl rfl rfl rfl rfl ?_ ?_ ?_) | ((with_reducible refine g_len ?_); first | refine lx_len_str rfl rfl rfl rfl rfl ?_) | ((with_reducible refine g_call ?_); first | refine lx_callT rfl rfl hH rfl rfl (ArgsLE.refl _) rfl rfl rfl rfl rfl ?_) | refine c_condP rfl (fun hc => ?_) (fun hc => ?_) | refine c_condN rfl (fun hc => ?_) (fun hc => ?_) | refine lx_splitP rfl (fun hc => ?_) (fun hc => ?_))
            all_goals try omega
            all_goals
              refine codeT_ghost (ghost_keep2 [0, 1, 6, 10, 39] [.loc 1000] rfl rfl) ?_
              refine codeT_loop (fun p env st => ∃ (i : Nat), i ≤ 6 ∧ p = 6 - i ∧
                  env = EnvL.get [(0, .t (.str s)), (1, .t (.int .i64 (IntKind.i64.wrap ((q : Int) + 1)))), (6, .row (.loc 1000)), (10, .t (.int .i64 (if q + 1 < s.size then letU (bAt s (IntKind.i64.wrap ((q : Int) + 1))) i else -1))), (39, .t (.int .i64 (i : Int)))] ∧ st = StO.get [(.loc 1000, some (.slt 5 1 (u8L out)))])
                ?_ (n := 6) ⟨0, by omega, rfl, by rw [show (if q + 1 < s.size then letU (bAt s (IntKind.i64.wrap ((q : Int) + 1))) 0 else -1) = -1 by unfold letU; repeat' split; all_goals omega]; rfl, rfl⟩
              rintro p env st ⟨i, hi6, rfl, rfl, rfl⟩
              by_cases hlt6 : i < 6
              · have wi : IntKind.i64.wrap ((i : Int) + 1) = ((i + 1 : Nat) : Int) := by rw [wrap64 (by omega) (by omega)]; omega
                have w8 : IntKind.i64.wrap (8 + (i : Int)) = 8 + (i : Int) := wrap64 (by omega) (by omega)
                by_cases hs1 : q + 1 < s.size
                · have hLi := hL i hlt6
                  have hsu := letU_succ (bAt s (IntKind.i64.wrap ((q : Int) + 1))) i
                  rw [if_pos hs1]
                  generalize letU (bAt s (IntKind.i64.wrap ((q : Int) + 1))) i = du at *
                  by_cases hm : letD (bAt s (IntKind.i64.wrap ((q : Int) + 1))) = 8 + (i : Int)
                  · rw [if_pos hm] at hsu
                    obtain ⟨e1, e2⟩ := hLi.2 hm
                    have e1' := e1.symm
                    clear hLi hm hL e1
                    repeat' (first | (with_reducible refine codeT_seq ?_) | (with_reducible refine codeT_block ?_) | (with_reducible refine codeT_skip ?_) | (with_reducible refine codeT_exit ?_) | (with_reducible refine codeT_regionL ?_) | ((with_reducible refine codeT_region_drawL ?_ ?_); · rfl) | (with_reducible refine lx_nil ?_) | (with_reducible refine q_then ?_) | (with_reducible refine q_then_exit ?_) | (with_reducible refine q_block ?_) | ((with_reducible refine q_block_same ?_ ?_); · rfl) | (with_reducible refine q_loop_exit ?_) | ((with_reducible refine q_region_draw ?_ ?_); · rfl) | (exfalso; omega) | ((with_reducible refine g_move ?_); first | refine lx_move (r := (.t _)) rfl rfl rfl rfl rfl ?_) | ((with_reducible refine g_binOp ?_); first | refine lx_arith rfl rfl rfl rfl rfl rfl rfl ?_) | ((with_reducible refine g_assign ?_); first | refine lx_assign (r := (.t _)) rfl rfl rfl rfl rfl ?_) | ((with_reducible refine g_pick ?_); first | refine lx_pickT (r := (.t _)) rfl rfl rfl rfl rfl rfl ?_) | ((with_reducible refine g_index ?_); first | refine lx_index_str rfl rfl rfl rfl rfl rfl ?_ ?_ ?_) | ((with_reducible refine g_len ?_); first | refine lx_len_str rfl rfl rfl rfl rfl ?_) | refine c_condP rfl (fun hc => ?_) (fun hc => ?_) | refine c_condN rfl (fun hc => ?_) (fun hc => ?_) | refine lx_splitP rfl (fun hc => ?_) (fun hc => ?_))
                    all_goals try (show (i : Int) < 6; omega)
                    all_goals try omega
                    all_goals exact q_loop (n' := 6 - (i + 1)) (by omega) (ghost_keep2 [0, 1, 6, 10, 39] [.loc 1000] rfl rfl) ⟨i + 1, by omega, rfl, by rw [if_pos hs1, hsu, wi, w8]; rfl, rfl⟩
                  · rw [if_neg hm] at hsu
                    have e1 : ¬ (bAt ⟨#[98, 116, 110, 63, 102, 114]⟩ (i : Int) = bAt s (IntKind.i64.wrap ((q : Int) + 1)) ∧ i ≠ 3) := fun h => hm (hLi.1 h)
                    have e1' : ¬ (i = 3) → ¬ (bAt s (IntKind.i64.wrap ((q : Int) + 1)) = bAt ⟨#[98, 116, 110, 63, 102, 114]⟩ (i : Int)) := fun h h2 => e1 ⟨h2.symm, h⟩
                    clear hLi hm hL e1
                    repeat' (first | (with_reducible refine codeT_seq ?_) | (with_reducible refine codeT_block ?_) | (with_reducible refine codeT_skip ?_) | (with_reducible refine codeT_exit ?_) | (with_reducible refine codeT_regionL ?_) | ((with_reducible refine codeT_region_drawL ?_ ?_); · rfl) | (with_reducible refine lx_nil ?_) | (with_reducible refine q_then ?_) | (with_reducible refine q_then_exit ?_) | (with_reducible refine q_block ?_) | ((with_reducible refine q_block_same ?_ ?_); · rfl) | (with_reducible refine q_loop_exit ?_) | ((with_reducible refine q_region_draw ?_ ?_); · rfl) | refine c_condF rfl ?_ | (exfalso; omega) | ((with_reducible refine g_guard ?_); first | refine lx_skip rfl rfl rfl ?_) | ((with_reducible refine g_move ?_); first | refine lx_move (r := (.t _)) rfl rfl rfl rfl rfl ?_) | ((with_reducible refine g_binOp ?_); first | refine lx_arith rfl rfl rfl rfl rfl rfl rfl ?_) | ((with_reducible refine g_assign ?_); first | refine lx_assign (r := (.t _)) rfl rfl rfl rfl rfl ?_) | ((with_reducible refine g_pick ?_); first | refine lx_pickT (r := (.t _)) rfl rfl rfl rfl rfl rfl ?_ | refine lx_pickF (r := (.t _)) rfl rfl rfl rfl rfl rfl ?_) | ((with_reducible refine g_index ?_); first | refine lx_index_str rfl rfl rfl rfl rfl rfl ?_ ?_ ?_) | ((with_reducible refine g_len ?_); first | refine lx_len_str rfl rfl rfl rfl rfl ?_) | refine c_condP rfl (fun hc => ?_) (fun hc => ?_) | refine c_condN rfl (fun hc => ?_) (fun hc => ?_) | refine lx_splitP rfl (fun hc => ?_) (fun hc => ?_))
                    all_goals try (show (i : Int) < 6; omega)
                    all_goals try (exact absurd ‹_› (e1' (by omega)))
                    all_goals try omega
                    all_goals exact q_loop (n' := 6 - (i + 1)) (by omega) (ghost_keep2 [0, 1, 6, 10, 39] [.loc 1000] rfl rfl) ⟨i + 1, by omega, rfl, by rw [if_pos hs1, hsu, wi]; rfl, rfl⟩
                · rw [if_neg hs1]
                  clear hL
                  repeat' (first | (with_reducible refine codeT_seq ?_) | (with_reducible refine codeT_block ?_) | (with_reducible refine codeT_skip ?_) | (with_reducible refine codeT_exit ?_) | (with_reducible refine codeT_regionL ?_) | ((with_reducible refine codeT_region_drawL ?_ ?_); · rfl) | (with_reducible refine lx_nil ?_) | (with_reducible refine q_then ?_) | (with_reducible refine q_then_exit ?_) | (with_reducible refine q_block ?_) | ((with_reducible refine q_block_same ?_ ?_); · rfl) | (with_reducible refine q_loop_exit ?_) | ((with_reducible refine q_region_draw ?_ ?_); · rfl) | refine c_condF rfl ?_ | (exfalso; omega) | ((with_reducible refine g_guard ?_); first | refine lx_skip rfl rfl rfl ?_) | ((with_reducible refine g_move ?_); first | refine lx_move (r := (.t _)) rfl rfl rfl rfl rfl ?_) | ((with_reducible refine g_binOp ?_); first | refine lx_arith rfl rfl rfl rfl rfl rfl rfl ?_) | ((with_reducible refine g_assign ?_); first | refine lx_assign (r := (.t _)) rfl rfl rfl rfl rfl ?_) | ((with_reducible refine g_pick ?_); first | refine lx_pickF (r := (.t _)) rfl rfl rfl rfl rfl rfl ?_) | ((with_reducible refine g_len ?_); first | refine lx_len_str rfl rfl rfl rfl rfl ?_) | refine c_condP rfl (fun hc => ?_) (fun hc => ?_) | refine lx_splitP rfl (fun hc => ?_) (fun hc => ?_))
                  all_goals try omega
                  all_goals exact q_loop (n' := 6 - (i + 1)) (by omega) (ghost_keep2 [0, 1, 6, 10, 39] [.loc 1000] rfl rfl) ⟨i + 1, by omega, rfl, by rw [if_neg hs1, wi]; rfl, rfl⟩
              · obtain rfl : i = 6 := by omega
                clear hL
                by_cases hs1 : q + 1 < s.size
                · rw [if_pos hs1, show letU (bAt s (IntKind.i64.wrap ((q : Int) + 1))) 6 = letD (bAt s (IntKind.i64.wrap ((q : Int) + 1))) by unfold letU; rw [if_pos (by omega)]]
                  generalize letD (bAt s (IntKind.i64.wrap ((q : Int) + 1))) = dd at *
                  by_cases hdd : 0 ≤ dd
                  · rw [if_pos ⟨hs1, hdd⟩] at hi
                    have wd : IntKind.u8.wrap dd = dd := wrapU8 (by omega) (by omega)
                    repeat' (first | (with_reducible refine codeT_seq ?_) | (with_reducible refine codeT_skip ?_) | (with_reducible refine codeT_exit ?_) | (with_reducible refine codeT_regionL ?_) | (with_reducible refine lx_nil ?_) | (with_reducible refine q_then ?_) | (with_reducible refine q_then_exit ?_) | (with_reducible refine q_block ?_) | ((with_reducible refine q_block_same ?_ ?_); · rfl) | (with_reducible refine q_loop_exit ?_) | refine c_condF rfl ?_ | (exfalso; omega) | ((with_reducible refine g_move ?_); first | refine lx_move (r := (.t _)) rfl rfl rfl rfl rfl ?_ | refine lx_move (r := (.row _)) rfl rfl rfl rfl rfl ?_) | ((with_reducible refine g_binOp ?_); first | refine lx_arith rfl rfl rfl rfl rfl rfl rfl ?_) | ((with_reducible refine g_assign ?_); first | refine lx_assign (r := (.t _)) rfl rfl rfl rfl rfl ?_ | refine lx_assign (r := (.row _)) rfl rfl rfl rfl rfl ?_) | ((with_reducible refine g_convert ?_); first | refine lx_conv_int rfl rfl rfl rfl rfl ?_) | ((with_reducible refine g_buildSlice ?_); first | refine lx_buildSlice rfl rfl rfl rfl rfl rfl rfl ?_) | ((with_reducible refine g_append ?_); first | refine lx_append_row rfl rfl rfl rfl rfl rfl rfl rfl rfl rfl ?_ ?_ ?_) | refine c_condP rfl (fun hc => ?_) (fun hc => ?_))
                    all_goals try (simp only [u8L_len, List.length_singleton]; omega)
                    all_goals try omega
                    all_goals exact q_loop (n' := m) (by omega) ((ghost_keep2 [0, 1, 6] [.loc 67] rfl rfl).trans (ghost_renL2 (.loc 67) (.loc 1000) rfl rfl rfl rfl)) ⟨_, q + 2, by omega, by omega, by simp; omega, hi, by rw [W2]; rfl, by rw [← u8L_snocI out _ (by omega) (by omega), wd]; rfl⟩
                  · rw [if_neg (fun h => hdd h.2)] at hi
                    rw [hi]
                    repeat' (first | (with_reducible refine codeT_seq ?_) | (with_reducible refine codeT_skip ?_) | (with_reducible refine codeT_ret ?_) | (with_reducible refine codeT_exit ?_) | (with_reducible refine codeT_regionL ?_) | (with_reducible refine lx_nil ?_) | (with_reducible refine q_then ?_) | (with_reducible refine q_then_exit ?_) | (with_reducible refine q_then_ret ?_) | (with_reducible refine q_block_ret ?_) | ((with_reducible refine q_block_same ?_ ?_); · rfl) | (with_reducible refine q_loop_exit ?_) | (with_reducible refine q_loop_ret ?_) | refine c_condF rfl ?_ | (exfalso; omega) | ((with_reducible refine g_move ?_); first | refine lx_move (r := (.t _)) rfl rfl rfl rfl rfl ?_) | ((with_reducible refine g_binOp ?_); first | refine lx_arith rfl rfl rfl rfl rfl rfl rfl ?_) | ((with_reducible refine g_assign ?_); first | refine lx_assign (r := (.t _)) rfl rfl rfl rfl rfl ?_) | refine c_condP rfl (fun hc => ?_) (fun hc => ?_))
                    all_goals try omega
                    all_goals exact q_done (q_ret (resT_twoE rfl rfl rfl rfl rfl) (by simp))
                · rw [if_neg hs1]
                  rw [if_neg (fun h => hs1 h.1)] at hi
                  rw [hi]
                  repeat' (first | (with_reducible refine codeT_seq ?_) | (with_reducible refine codeT_ret ?_) | (with_reducible refine codeT_exit ?_) | (with_reducible refine codeT_regionL ?_) | (with_reducible refine lx_nil ?_) | (with_reducible refine q_then ?_) | (with_reducible refine q_then_exit ?_) | (with_reducible refine q_then_ret ?_) | (with_reducible refine q_block_ret ?_) | ((with_reducible refine q_block_same ?_ ?_); · rfl) | (with_reducible refine q_loop_exit ?_) | (with_reducible refine q_loop_ret ?_) | refine c_condT rfl ?_ | refine c_condF rfl ?_ | (exfalso; omega) | ((with_reducible refine g_move ?_); first | refine lx_move (r := (.t _)) rfl rfl rfl rfl rfl ?_) | ((with_reducible refine g_binOp ?_); first | refine lx_arith rfl rfl rfl rfl rfl rfl rfl ?_) | ((with_reducible refine g_assign ?_); first | refine lx_assign (r := (.t _)) rfl rfl rfl rfl rfl ?_))
                  all_goals try omega
                  all_goals exact q_done (q_ret (resT_twoE rfl rfl rfl rfl rfl) (by simp))
          | false =>
            repeat' (first | (with_reducible refine codeT_seq ?_) | (with_reducible refine codeT_block ?_) | (with_reducible refine codeT_skip ?_) | (with_reducible refine codeT_exit ?_) | (with_reducible refine codeT_regionL ?_) | (with_reducible refine lx_nil ?_) | (with_reducible refine q_then ?_) | (with_reducible refine q_then_exit ?_) | (with_reducible refine q_block ?_) | ((with_reducible refine q_block_same ?_ ?_); · rfl) | (with_reducible refine q_loop_exit ?_) | refine c_condF rfl ?_ | (exfalso; omega) | ((with_reducible refine g_guard ?_); first | refine lx_skip rfl rfl rfl ?_) | ((with_reducible refine g_move ?_); first | refine lx_move (r := (.t _)) rfl rfl rfl rfl rfl ?_) | ((with_reducible refine g_binOp ?_); first | refine lx_arith rfl rfl rfl rfl rfl rfl rfl ?_) | ((with_reducible refine g_assign ?_); first | refine lx_assign (r := (.t _)) rfl rfl rfl rfl rfl ?_) | ((with_reducible refine g_pick ?_); first | refine lx_pickT (r := (.t _)) rfl rfl rfl rfl rfl rfl ?_ | refine lx_pickF (r := (.t _)) rfl rfl rfl rfl rfl rfl ?_) | ((with_reducible refine g_index ?_); first | refine lx_index_str rfl rfl rfl rfl rfl rfl ?_ ?_ ?_) | ((with_reducible refine g_len ?_); first | refine lx_len_str rfl rfl rfl rfl rfl ?_) | ((with_reducible refine g_call ?_); first | refine lx_callT rfl rfl hH rfl rfl (ArgsLE.refl _) rfl rfl rfl rfl rfl ?_) | refine c_condP rfl (fun hc => ?_) (fun hc => ?_) | refine c_condN rfl (fun hc => ?_) (fun hc => ?_) | refine lx_splitP rfl (fun hc => ?_) (fun hc => ?_))
            all_goals try omega
            all_goals
              refine codeT_ghost (ghost_keep2 [0, 1, 6, 10, 39] [.loc 1000] rfl rfl) ?_
              refine codeT_loop (fun p env st => ∃ (i : Nat), i ≤ 6 ∧ p = 6 - i ∧
                  env = EnvL.get [(0, .t (.str s)), (1, .t (.int .i64 (IntKind.i64.wrap ((q : Int) + 1)))), (6, .row (.loc 1000)), (10, .t (.int .i64 (if q + 1 < s.size then letU (bAt s (IntKind.i64.wrap ((q : Int) + 1))) i else -1))), (39, .t (.int .i64 (i : Int)))] ∧ st = StO.get [(.loc 1000, some (.slt 5 1 (u8L out)))])
                ?_ (n := 6) ⟨0, by omega, rfl, by rw [show (if q + 1 < s.size then letU (bAt s (IntKind.i64.wrap ((q : Int) + 1))) 0 else -1) = -1 by unfold letU; repeat' split; all_goals omega]; rfl, rfl⟩
              rintro p env st ⟨i, hi6, rfl, rfl, rfl⟩
              by_cases hlt6 : i < 6
              · have wi : IntKind.i64.wrap ((i : Int) + 1) = ((i + 1 : Nat) : Int) := by rw [wrap64 (by omega) (by omega)]; omega
                have w8 : IntKind.i64.wrap (8 + (i : Int)) = 8 + (i : Int) := wrap64 (by omega) (by omega)
                by_cases hs1 : q + 1 < s.size
                · have hLi := hL i hlt6
                  have hsu := letU_succ (bAt s (IntKind.i64.wrap ((q : Int) + 1))) i
                  rw [if_pos hs1]
                  generalize letU (bAt s (IntKind.i64.wrap ((q : Int) + 1))) i = du at *
                  by_cases hm : letD (bAt s (IntKind.i64.wrap ((q : Int) + 1))) = 8 + (i : Int)
                  · rw [if_pos hm] at hsu
                    obtain ⟨e1, e2⟩ := hLi.2 hm
                    have e1' := e1.symm
                    clear hLi hm hL e1
                    repeat' (first | (with_reducible refine codeT_seq ?_) | (with_reducible refine codeT_block ?_) | (with_reducible refine codeT_skip ?_) | (with_reducible refine codeT_exit ?_) | (with_reducible refine codeT_regionL ?_) | ((with_reducible refine codeT_region_drawL ?_ ?_); · rfl) | (with_reducible refine lx_nil ?_) | (with_reducible refine q_then ?_) | (with_reducible refine q_then_exit ?_) | (with_reducible refine q_block ?_) | ((with_reducible refine q_block_same ?_ ?_); · rfl) | (with_reducible refine q_loop_exit ?_) | ((with_reducible refine q_region_draw ?_ ?_); · rfl) | (exfalso; omega) | ((with_reducible refine g_move ?_); first | refine lx_move (r := (.t _)) rfl rfl rfl rfl rfl ?_) | ((with_reducible refine g_binOp ?_); first | refine lx_arith rfl rfl rfl rfl rfl rfl rfl ?_) | ((with_reducible refine g_assign ?_); first | refine lx_assign (r := (.t _)) rfl rfl rfl rfl rfl ?_) | ((with_reducible refine g_pick ?_); first | refine lx_pickT (r := (.t _)) rfl rfl rfl rfl rfl rfl ?_) | ((with_reducible refine g_index ?_); first | refine lx_index_str rfl rfl rfl rfl rfl rfl ?_ ?_ ?_) | ((with_reducible refine g_len ?_); first | refine lx_len_str rfl rfl rfl rfl rfl ?_) | refine c_condP rfl (fun hc => ?_) (fun hc => ?_) | refine c_condN rfl (fun hc => ?_) (fun hc => ?_) | refine lx_splitP rfl (fun hc => ?_) (fun hc => ?_))
                    all_goals try (show (i : Int) < 6; omega)
                    all_goals try omega
                    all_goals exact q_loop (n' := 6 - (i + 1)) (by omega) (ghost_keep2 [0, 1, 6, 10, 39] [.loc 1000] rfl rfl) ⟨i + 1, by omega, rfl, by rw [if_pos hs1, hsu, wi, w8]; rfl, rfl⟩
                  · rw [if_neg hm] at hsu
                    have e1 : ¬ (bAt ⟨#[98, 116, 110, 63, 102, 114]⟩ (i : Int) = bAt s (IntKind.i64.wrap ((q : Int) + 1)) ∧ i ≠ 3) := fun h => hm (hLi.1 h)
                    have e1' : ¬ (i = 3) → ¬ (bAt s (IntKind.i64.wrap ((q : Int) + 1)) = bAt ⟨#[98, 116, 110, 63, 102, 114]⟩ (i : Int)) := fun h h2 => e1 ⟨h2.symm, h⟩
                    clear hLi hm hL e1
                    repeat' (first | (with_reducible refine codeT_seq ?_) | (with_reducible refine codeT_block ?_) | (with_reducible refine codeT_skip ?_) | (with_reducible refine codeT_exit ?_) | (with_reducible refine codeT_regionL ?_) | ((with_reducible refine codeT_region_drawL ?_ ?_); · rfl) | (with_reducible refine lx_nil ?_) | (with_reducible refine q_then ?_) | (with_reducible refine q_then_exit ?_) | (with_reducible refine q_block ?_) | ((with_reducible refine q_block_same ?_ ?_); · rfl) | (with_reducible refine q_loop_exit ?_) | ((with_reducible refine q_region_draw ?_ ?_); · rfl) | refine c_condF rfl ?_ | (exfalso; omega) | ((with_reducible refine g_guard ?_); first | refine lx_skip rfl rfl rfl ?_) | ((with_reducible refine g_move ?_); first | refine lx_move (r := (.t _)) rfl rfl rfl rfl rfl ?_) | ((with_reducible refine g_binOp ?_); first | refine lx_arith rfl rfl rfl rfl rfl rfl rfl ?_) | ((with_reducible refine g_assign ?_); first | refine lx_assign (r := (.t _)) rfl rfl rfl rfl rfl ?_) | ((with_reducible refine g_pick ?_); first | refine lx_pickT (r := (.t _)) rfl rfl rfl rfl rfl rfl ?_ | refine lx_pickF (r := (.t _)) rfl rfl rfl rfl rfl rfl ?_) | ((with_reducible refine g_index ?_); first | refine lx_index_str rfl rfl rfl rfl rfl rfl ?_ ?_ ?_) | ((with_reducible refine g_len ?_); first | refine lx_len_str rfl rfl rfl rfl rfl ?_) | refine c_condP rfl (fun hc => ?_) (fun hc => ?_) | refine c_condN rfl (fun hc => ?_) (fun hc => ?_) | refine lx_splitP rfl (fun hc => ?_) (fun hc => ?_))
                    all_goals try (show (i : Int) < 6; omega)
                    all_goals try (exact absurd ‹_› (e1' (by omega)))
                    all_goals try omega
                    all_goals exact q_loop (n' := 6 - (i + 1)) (by omega) (ghost_keep2 [0, 1, 6, 10, 39] [.loc 1000] rfl rfl) ⟨i + 1, by omega, rfl, by rw [if_pos hs1, hsu, wi]; rfl, rfl⟩
                · rw [if_neg hs1]
                  clear hL
                  repeat' (first | (with_reducible refine codeT_seq ?_) | (with_reducible refine codeT_block ?_) | (with_reducible refine codeT_skip ?_) | (with_reducible refine codeT_exit ?_) | (with_reducible refine codeT_regionL ?_) | ((with_reducible refine codeT_region_drawL ?_ ?_); · rfl) | (with_reducible refine lx_nil ?_) | (with_reducible refine q_then ?_) | (with_reducible refine q_then_exit ?_) | (with_reducible refine q_block ?_) | ((with_reducible refine q_block_same ?_ ?_); · rfl) | (with_reducible refine q_loop_exit ?_) | ((with_reducible refine q_region_draw ?_ ?_); · rfl) | refine c_condF rfl ?_ | (exfalso; omega) | ((with_reducible refine g_guard ?_); first | refine lx_skip rfl rfl rfl ?_) | ((with_reducible refine g_move ?_); first | refine lx_move (r := (.t _)) rfl rfl rfl rfl rfl ?_) | ((with_reducible refine g_binOp ?_); first | refine lx_arith rfl rfl rfl rfl rfl rfl rfl ?_) | ((with_reducible refine g_assign ?_); first | refine lx_assign (r := (.t _)) rfl rfl rfl rfl rfl ?_) | ((with_reducible refine g_pick ?_); first | refine lx_pickF (r := (.t _)) rfl rfl rfl rfl rfl rfl ?_) | ((with_reducible refine g_len ?_); first | refine lx_len_str rfl rfl rfl rfl rfl ?_) | refine c_condP rfl (fun hc => ?_) (fun hc => ?_) | refine lx_splitP rfl (fun hc => ?_) (fun hc => ?_))
                  all_goals try omega
                  all_goals exact q_loop (n' := 6 - (i + 1)) (by omega) (ghost_keep2 [0, 1, 6, 10, 39] [.loc 1000] rfl rfl) ⟨i + 1, by omega, rfl, by rw [if_neg hs1, wi]; rfl, rfl⟩
              · obtain rfl : i = 6 := by omega
                clear hL
                by_cases hs1 : q + 1 < s.size
                · rw [if_pos hs1, show letU (bAt s (IntKind.i64.wrap ((q : Int) + 1))) 6 = letD (bAt s (IntKind.i64.wrap ((q : Int) + 1))) by unfold letU; rw [if_pos (by omega)]]
                  generalize letD (bAt s (IntKind.i64.wrap ((q : Int) + 1))) = dd at *
                  by_cases hdd : 0 ≤ dd
                  · rw [if_pos ⟨hs1, hdd⟩] at hi
                    have wd : IntKind.u8.wrap dd = dd := wrapU8 (by omega) (by omega)
                    repeat' (first | (with_reducible refine codeT_seq ?_) | (with_reducible refine codeT_skip ?_) | (with_reducible refine codeT_exit ?_) | (with_reducible refine codeT_regionL ?_) | (with_reducible refine lx_nil ?_) | (with_reducible refine q_then ?_) | (with_reducible refine q_then_exit ?_) | (with_reducible refine q_block ?_) | ((with_reducible refine q_block_same ?_ ?_); · rfl) | (with_reducible refine q_loop_exit ?_) | refine c_condF rfl ?_ | (exfalso; omega) | ((with_reducible refine g_move ?_); first | refine lx_move (r := (.t _)) rfl rfl rfl rfl rfl ?_ | refine lx_move (r := (.row _)) rfl rfl rfl rfl rfl ?_) | ((with_reducible refine g_binOp ?_); first | refine lx_arith rfl rfl rfl rfl rfl rfl rfl ?_) | ((with_reducible refine g_assign ?_); first | refine lx_assign (r := (.t _)) rfl rfl rfl rfl rfl ?_ | refine lx_assign (r := (.row _)) rfl rfl rfl rfl rfl ?_) | ((with_reducible refine g_convert ?_); first | refine lx_conv_int rfl rfl rfl rfl rfl ?_) | ((with_reducible refine g_buildSlice ?_); first | refine lx_buildSlice rfl rfl rfl rfl rfl rfl rfl ?_) | ((with_reducible refine g_append ?_); first | refine lx_append_row rfl rfl rfl rfl rfl rfl rfl rfl rfl rfl ?_ ?_ ?_) | refine c_condP rfl (fun hc => ?_) (fun hc => ?_))
                    all_goals try (simp only [u8L_len, List.length_singleton]; omega)
                    all_goals try omega
                    all_goals exact q_loop (n' := m) (by omega) ((ghost_keep2 [0, 1, 6] [.loc 67] rfl rfl).trans (ghost_renL2 (.loc 67) (.loc 1000) rfl rfl rfl rfl)) ⟨_, q + 2, by omega, by omega, by simp; omega, hi, by rw [W2]; rfl, by rw [← u8L_snocI out _ (by omega) (by omega), wd]; rfl⟩
                  · rw [if_neg (fun h => hdd h.2)] at hi
                    rw [hi]
                    repeat' (first | (with_reducible refine codeT_seq ?_) | (with_reducible refine codeT_skip ?_) | (with_reducible refine codeT_ret ?_) | (with_reducible refine codeT_exit ?_) | (with_reducible refine codeT_regionL ?_) | (with_reducible refine lx_nil ?_) | (with_reducible refine q_then ?_) | (with_reducible refine q_then_exit ?_) | (with_reducible refine q_then_ret ?_) | (with_reducible refine q_block_ret ?_) | ((with_reducible refine q_block_same ?_ ?_); · rfl) | (with_reducible refine q_loop_exit ?_) | (with_reducible refine q_loop_ret ?_) | refine c_condF rfl ?_ | (exfalso; omega) | ((with_reducible refine g_move ?_); first | refine lx_move (r := (.t _)) rfl rfl rfl rfl rfl ?_) | ((with_reducible refine g_binOp ?_); first | refine lx_arith rfl rfl rfl rfl rfl rfl rfl ?_) | ((with_reducible refine g_assign ?_); first | refine lx_assign (r := (.t _)) rfl rfl rfl rfl rfl ?_) | refine c_condP rfl (fun hc => ?_) (fun hc => ?_))
                    all_goals try omega
                    all_goals exact q_done (q_ret (resT_twoE rfl rfl rfl rfl rfl) (by simp))
                · rw [if_neg hs1]
                  rw [if_neg (fun h => hs1 h.1)] at hi
                  rw [hi]
                  repeat' (first | (with_reducible refine codeT_seq ?_) | (with_reducible refine codeT_ret ?_) | (with_reducible refine codeT_exit ?_) | (with_reducible refine codeT_regionL ?_) | (with_reducible refine lx_nil ?_) | (with_reducible refine q_then ?_) | (with_reducible refine q_then_exit ?_) | (with_reducible refine q_then_ret ?_) | (with_reducible refine q_block_ret ?_) | ((with_reducible refine q_block_same ?_ ?_); · rfl) | (with_reducible refine q_loop_exit ?_) | (with_reducible refine q_loop_ret ?_) | refine c_condT rfl ?_ | refine c_condF rfl ?_ | (exfalso; omega) | ((with_reducible refine g_move ?_); first | refine lx_move (r := (.t _)) rfl rfl rfl rfl rfl ?_) | ((with_reducible refine g_binOp ?_); first | refine lx_arith rfl rfl rfl rfl rfl rfl rfl ?_) | ((with_reducible refine g_assign ?_); first | refine lx_assign (r := (.t _)) rfl rfl rfl rfl rfl ?_))
                  all_goals try omega
                  all_goals exact q_done (q_ret (resT_twoE rfl rfl rfl rfl rfl) (by simp))
    · rw [if_pos h92] at hi
      repeat' (first | (with_reducible refine codeT_seq ?_) | (with_reducible refine codeT_block ?_) | (with_reducible refine codeT_skip ?_) | (with_reducible refine codeT_exit ?_) | (with_reducible refine codeT_regionL ?_) | (with_reducible refine lx_nil ?_) | (with_reducible refine q_then ?_) | (with_reducible refine q_then_exit ?_) | (with_reducible refine q_block ?_) | ((with_reducible refine q_block_same ?_ ?_); · rfl) | ((with_reducible refine q_block_other ?_ ?_); · rfl) | (with_reducible refine q_loop_exit ?_) | (exfalso; omega) | ((with_reducible refine g_move ?_); first | refine lx_move (r := (.t _)) rfl rfl rfl rfl rfl ?_ | refine lx_move (r := (.row _)) rfl rfl rfl rfl rfl ?_) | ((with_reducible refine g_binOp ?_); first | refine lx_arith rfl rfl rfl rfl rfl rfl rfl ?_) | ((with_reducible refine g_assign ?_); first | refine lx_assign (r := (.t _)) rfl rfl rfl rfl rfl ?_ | refine lx_assign (r := (.row _)) rfl rfl rfl rfl rfl ?_) | ((with_reducible refine g_index ?_); first | refine lx_index_str rfl rfl rfl rfl rfl rfl ?_ ?_ ?_) | ((with_reducible refine g_buildSlice ?_); first | refine lx_buildSlice rfl rfl rfl rfl rfl rfl rfl ?_) | ((with_reducible refine g_len ?_); first | refine lx_len_str rfl rfl rfl rfl rfl ?_) | ((with_reducible refine g_append ?_); first | refine lx_append_row rfl rfl rfl rfl rfl rfl rfl rfl rfl rfl ?_ ?_ ?_) | refine c_condP rfl (fun hc => ?_) (fun hc => ?_) | refine c_condN rfl (fun hc => ?_) (fun hc => ?_))
      all_goals try (simp only [u8L_len, List.length_singleton]; omega)
      all_goals try omega
      all_goals exact q_loop (n' := m) (by omega) ((ghost_keep2 [0, 1, 6] [.loc 36] rfl rfl).trans (ghost_renL2 (.loc 36) (.loc 1000) rfl rfl rfl rfl)) ⟨out ++ [UInt8.ofNat (bAt s (q : Nat)).toNat], q + 1, by omega, by omega, by simp; omega, hi, by rw [W1]; rfl, by rw [← u8L_snocI out _ r0.1 r0.2]; rfl⟩
  · rw [jqQuo_end s m out q (by omega)] at hi
    rw [hi]
    repeat' (first | (with_reducible refine codeT_seq ?_) | (with_reducible refine codeT_block ?_) | (with_reducible refine codeT_skip ?_) | (with_reducible refine codeT_ret ?_) | (with_reducible refine codeT_exit ?_) | (with_reducible refine codeT_regionL ?_) | (with_reducible refine lx_nil ?_) | (with_reducible refine q_then ?_) | (with_reducible refine q_then_exit ?_) | ((with_reducible refine q_block_same ?_ ?_); · rfl) | (with_reducible refine q_loop_exit ?_) | (exfalso; omega) | ((with_reducible refine g_move ?_); first | refine lx_move (r := (.t _)) rfl rfl rfl rfl rfl ?_) | ((with_reducible refine g_binOp ?_); first | refine lx_arith rfl rfl rfl rfl rfl rfl rfl ?_) | ((with_reducible refine g_assign ?_); first | refine lx_assign (r := (.t _)) rfl rfl rfl rfl rfl ?_) | ((with_reducible refine g_len ?_); first | refine lx_len_str rfl rfl rfl rfl rfl ?_) | refine c_condP rfl (fun hc => ?_) (fun hc => ?_))
    all_goals exact q_done (q_ret (resT_twoE rfl rfl rfl rfl rfl) (by simp))
end Go.AL
