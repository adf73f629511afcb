/- What the document's reader of the first serialisation answers: value. -/
import Derived.Test.YtmidabiehblekaaDoorJsj
import Derived.Test.YtmidabiehblekaaDoorJsc
import Derived.Test.YtmidabiehblekaaDoorJsh
set_option linter.unusedVariables false
namespace Go.AL
open Go Go.Proofs Go.RowKit

set_option maxHeartbeats 32000000 in
theorem rVal_call (s : ByteArray) (hs : s.size ≤ 1000000) : ∀ (d : Nat), d ≤ 1000 → ∀ p : Nat, p ≤ 1000000 → Spec Tryd.prog 35 [.t (.str s), .t (.int .i64 (p : Int)), .t (.int .i64 (d : Int))] [] (.tup [.t (jqVal s d p).1.toT, .t (.int .i64 (jqVal s d p).2)]) []
  | 0, hd, p, hp => by
    rw [jqVal]
    simp only
    rw [zero_toT]
    refine spec_intro (env0 := [(0, _), (1, _), (2, _)]) (st0 := []) Tryd.func35 rfl rfl rfl rfl ?_
    repeat' (first | (with_reducible refine codeT_seq ?_) | (with_reducible refine codeT_block ?_) | (with_reducible refine codeT_ret ?_) | (with_reducible refine codeT_regionL ?_) | (with_reducible refine lx_nil ?_) | (with_reducible refine q_then ?_) | (with_reducible refine q_then_ret ?_) | (with_reducible refine q_block_ret ?_) | refine c_condT rfl ?_ | ((with_reducible refine g_guard ?_); first | refine lx_skip rfl rfl rfl ?_) | ((with_reducible refine g_move ?_); first | refine lx_move (r := (.t _)) rfl rfl rfl rfl rfl ?_) | ((with_reducible refine g_binOp ?_); first | refine lx_arith rfl rfl rfl rfl rfl rfl rfl ?_) | ((with_reducible refine g_assign ?_); first | refine lx_assign (r := (.t _)) rfl rfl rfl rfl rfl ?_) | ((with_reducible refine g_pick ?_); first | refine lx_pickT (r := (.t _)) rfl rfl rfl rfl rfl rfl ?_) | ((with_reducible refine g_alloc ?_); first | refine lx_alloc rfl rfl rfl rfl rfl rfl rfl ?_) | ((with_reducible refine g_store ?_); first | refine lx_store_var (r := (.t (.agg _))) rfl rfl rfl rfl rfl rfl rfl rfl rfl rfl ?_) | ((with_reducible refine g_build ?_); first | refine lx_build (r := (.t (.agg _))) rfl rfl rfl rfl rfl rfl rfl ?_))
    all_goals try (exfalso; omega)
    all_goals refine q_ret ?_ (stHas_spec trivial); refine resT_cell_tmp rfl rfl rfl inferInstance rfl inferInstance rfl ?_ ?_; exact TLe.av (by repeat first | exact TLe.refl _ | exact TLe.slq _ _ | exact TLe.nil _ | exact TLe.esl _ | refine TLe.agg ?_ | refine TLs.cons ?_ ?_ | exact TLs.nil); exact AVLE.refl _
  | d + 1, hd, p, hp => by
    have IH := rVal_call s hs d (by omega)
    have hz : Nd.zero.toT = .agg [.int .i64 0, .bool false, .int .i64 0, .str ⟨#[]⟩, .sl 1 [], .sl 6 []] := zero_toT
    have w4 : IntKind.i64.wrap ((p : Int) + 4) = (p : Int) + 4 := wrap64 (by omega) (by omega)
    have w5 : IntKind.i64.wrap ((p : Int) + 5) = (p : Int) + 5 := wrap64 (by omega) (by omega)
    rw [jqVal]
    by_cases h0 : s.size ≤ p
    · rw [if_pos h0]
      clear IH
      simp only
      rw [hz]
      refine spec_intro (env0 := [(0, _), (1, _), (2, _)]) (st0 := []) Tryd.func35 rfl rfl rfl rfl ?_
      repeat' (first | (with_reducible refine codeT_seq ?_) | (with_reducible refine codeT_block ?_) | (with_reducible refine codeT_ret ?_) | (with_reducible refine codeT_regionL ?_) | (with_reducible refine lx_nil ?_) | (with_reducible refine q_then ?_) | (with_reducible refine q_then_ret ?_) | (with_reducible refine q_block_ret ?_) | (exfalso; omega) | ((with_reducible refine g_move ?_); first | refine lx_move (r := (.t _)) rfl rfl rfl rfl rfl ?_) | ((with_reducible refine g_binOp ?_); first | refine lx_arith rfl rfl rfl rfl rfl rfl rfl ?_) | ((with_reducible refine g_assign ?_); first | refine lx_assign (r := (.t _)) rfl rfl rfl rfl rfl ?_) | ((with_reducible refine g_pick ?_); first | refine lx_pickF (r := (.t _)) rfl rfl rfl rfl rfl rfl ?_) | ((with_reducible refine g_alloc ?_); first | refine lx_alloc rfl rfl rfl rfl rfl rfl rfl ?_) | ((with_reducible refine g_store ?_); first | refine lx_store_var (r := (.t (.agg _))) rfl rfl rfl rfl rfl rfl rfl rfl rfl rfl ?_) | ((with_reducible refine g_build ?_); first | refine lx_build (r := (.t (.agg _))) rfl rfl rfl rfl rfl rfl rfl ?_) | ((with_reducible refine g_len ?_); first | refine lx_len_str rfl rfl rfl rfl rfl ?_) | refine c_condP rfl (fun hc => ?_) (fun hc => ?_))
      all_goals try (exfalso; omega)
      all_goals refine q_ret ?_ (stHas_spec trivial); refine resT_cell_tmp rfl rfl rfl inferInstance rfl inferInstance rfl ?_ ?_; exact TLe.av (by repeat first | exact TLe.refl _ | exact TLe.slq _ _ | exact TLe.nil _ | exact TLe.esl _ | refine TLe.agg ?_ | refine TLs.cons ?_ ?_ | exact TLs.nil); exact AVLE.refl _
    rw [if_neg h0]
    have n0 : Spec Tryd.prog 49 [.t (.str s), .t (.int .i64 (p : Int)), .t (.str ⟨#[110, 117, 108, 108]⟩)] [] (.t (.bool (jHas s p nullS))) [] := rHas_spec s p nullS (by omega) (by omega) (by decide)
    cases e0 : jHas s p nullS with
    | true =>
      rw [if_pos rfl]
      rw [e0] at n0
      clear IH
      simp only
      rw [hz, ← w4]
      refine spec_intro (env0 := [(0, _), (1, _), (2, _)]) (st0 := []) Tryd.func35 rfl rfl rfl rfl ?_
      repeat' (first | (with_reducible refine codeT_seq ?_) | (with_reducible refine codeT_block ?_) | (with_reducible refine codeT_ret ?_) | (with_reducible refine codeT_regionL ?_) | (with_reducible refine lx_nil ?_) | (with_reducible refine q_then ?_) | (with_reducible refine q_then_ret ?_) | (with_reducible refine q_block_ret ?_) | refine c_condT rfl ?_ | (exfalso; omega) | ((with_reducible refine g_move ?_); first | refine lx_move (r := (.t _)) rfl rfl rfl rfl rfl ?_) | ((with_reducible refine g_binOp ?_); first | refine lx_arith rfl rfl rfl rfl rfl rfl rfl ?_) | ((with_reducible refine g_assign ?_); first | refine lx_assign (r := (.t _)) rfl rfl rfl rfl rfl ?_) | ((with_reducible refine g_pick ?_); first | refine lx_pickF (r := (.t _)) rfl rfl rfl rfl rfl rfl ?_) | ((with_reducible refine g_alloc ?_); first | refine lx_alloc rfl rfl rfl rfl rfl rfl rfl ?_) | ((with_reducible refine g_store ?_); first | refine lx_store_var (r := (.t (.agg _))) rfl rfl rfl rfl rfl rfl rfl rfl rfl rfl ?_) | ((with_reducible refine g_build ?_); first | refine lx_build (r := (.t (.agg _))) rfl rfl rfl rfl rfl rfl rfl ?_) | ((with_reducible refine g_len ?_); first | refine lx_len_str rfl rfl rfl rfl rfl ?_) | ((with_reducible refine g_call ?_); first | refine lx_callT rfl rfl n0 rfl rfl (ArgsLE.refl _) rfl rfl rfl rfl rfl ?_) | refine c_condP rfl (fun hc => ?_) (fun hc => ?_))
      all_goals try (exfalso; omega)
      all_goals refine q_ret ?_ (stHas_spec trivial); refine resT_cell_tmp rfl rfl rfl inferInstance rfl inferInstance rfl ?_ ?_; exact TLe.av (by repeat first | exact TLe.refl _ | exact TLe.slq _ _ | exact TLe.nil _ | exact TLe.esl _ | refine TLe.agg ?_ | refine TLs.cons ?_ ?_ | exact TLs.nil); exact AVLE.refl _
    | false =>
    rw [if_neg (by simp)]
    rw [e0] at n0
    clear e0
    have n1 : Spec Tryd.prog 49 [.t (.str s), .t (.int .i64 (p : Int)), .t (.str ⟨#[116, 114, 117, 101]⟩)] [] (.t (.bool (jHas s p trueS))) [] := rHas_spec s p trueS (by omega) (by omega) (by decide)
    cases e1 : jHas s p trueS with
    | true =>
      rw [if_pos rfl]
      rw [e1] at n1
      clear IH
      simp only
      rw [Nd.toT_eq, ← w4]
      refine spec_intro (env0 := [(0, _), (1, _), (2, _)]) (st0 := []) Tryd.func35 rfl rfl rfl rfl ?_
      repeat' (first | (with_reducible refine codeT_seq ?_) | (with_reducible refine codeT_block ?_) | (with_reducible refine codeT_ret ?_) | (with_reducible refine codeT_regionL ?_) | (with_reducible refine lx_nil ?_) | (with_reducible refine q_then ?_) | (with_reducible refine q_then_ret ?_) | (with_reducible refine q_block_ret ?_) | refine c_condT rfl ?_ | refine c_condF rfl ?_ | (exfalso; omega) | ((with_reducible refine g_move ?_); first | refine lx_move (r := (.t _)) rfl rfl rfl rfl rfl ?_) | ((with_reducible refine g_binOp ?_); first | refine lx_arith rfl rfl rfl rfl rfl rfl rfl ?_) | ((with_reducible refine g_assign ?_); first | refine lx_assign (r := (.t _)) rfl rfl rfl rfl rfl ?_) | ((with_reducible refine g_pick ?_); first | refine lx_pickF (r := (.t _)) rfl rfl rfl rfl rfl rfl ?_) | ((with_reducible refine g_alloc ?_); first | refine lx_alloc rfl rfl rfl rfl rfl rfl rfl ?_) | ((with_reducible refine g_store ?_); first | refine lx_store_var (r := (.t (.agg _))) rfl rfl rfl rfl rfl rfl rfl rfl rfl rfl ?_) | ((with_reducible refine g_build ?_); first | refine lx_build (r := (.t (.agg _))) rfl rfl rfl rfl rfl rfl rfl ?_) | ((with_reducible refine g_len ?_); first | refine lx_len_str rfl rfl rfl rfl rfl ?_) | ((with_reducible refine g_call ?_); first | refine lx_callT rfl rfl n0 rfl rfl (ArgsLE.refl _) rfl rfl rfl rfl rfl ?_ | refine lx_callT rfl rfl n1 rfl rfl (ArgsLE.refl _) rfl rfl rfl rfl rfl ?_) | refine c_condP rfl (fun hc => ?_) (fun hc => ?_))
      all_goals try (exfalso; omega)
      all_goals refine q_ret ?_ (stHas_spec trivial); refine resT_cell_tmp rfl rfl rfl inferInstance rfl inferInstance rfl ?_ ?_; exact TLe.av (by repeat first | exact TLe.refl _ | exact TLe.slq _ _ | exact TLe.nil _ | exact TLe.esl _ | refine TLe.agg ?_ | refine TLs.cons ?_ ?_ | exact TLs.nil); exact AVLE.refl _
    | false =>
    rw [if_neg (by simp)]
    rw [e1] at n1
    clear e1
    have n2 : Spec Tryd.prog 49 [.t (.str s), .t (.int .i64 (p : Int)), .t (.str ⟨#[102, 97, 108, 115, 101]⟩)] [] (.t (.bool (jHas s p falseS))) [] := rHas_spec s p falseS (by omega) (by omega) (by decide)
    cases e2 : jHas s p falseS with
    | true =>
      rw [if_pos rfl]
      rw [e2] at n2
      clear IH
      simp only
      rw [Nd.toT_eq, ← w5]
      refine spec_intro (env0 := [(0, _), (1, _), (2, _)]) (st0 := []) Tryd.func35 rfl rfl rfl rfl ?_
      repeat' (first | (with_reducible refine codeT_seq ?_) | (with_reducible refine codeT_block ?_) | (with_reducible refine codeT_ret ?_) | (with_reducible refine codeT_regionL ?_) | (with_reducible refine lx_nil ?_) | (with_reducible refine q_then ?_) | (with_reducible refine q_then_ret ?_) | (with_reducible refine q_block_ret ?_) | refine c_condT rfl ?_ | refine c_condF rfl ?_ | (exfalso; omega) | ((with_reducible refine g_move ?_); first | refine lx_move (r := (.t _)) rfl rfl rfl rfl rfl ?_) | ((with_reducible refine g_binOp ?_); first | refine lx_arith rfl rfl rfl rfl rfl rfl rfl ?_) | ((with_reducible refine g_assign ?_); first | refine lx_assign (r := (.t _)) rfl rfl rfl rfl rfl ?_) | ((with_reducible refine g_pick ?_); first | refine lx_pickF (r := (.t _)) rfl rfl rfl rfl rfl rfl ?_) | ((with_reducible refine g_alloc ?_); first | refine lx_alloc rfl rfl rfl rfl rfl rfl rfl ?_) | ((with_reducible refine g_store ?_); first | refine lx_store_var (r := (.t (.agg _))) rfl rfl rfl rfl rfl rfl rfl rfl rfl rfl ?_) | ((with_reducible refine g_build ?_); first | refine lx_build (r := (.t (.agg _))) rfl rfl rfl rfl rfl rfl rfl ?_) | ((with_reducible refine g_len ?_); first | refine lx_len_str rfl rfl rfl rfl rfl ?_) | ((with_reducible refine g_call ?_); first | refine lx_callT rfl rfl n0 rfl rfl (ArgsLE.refl _) rfl rfl rfl rfl rfl ?_ | refine lx_callT rfl rfl n1 rfl rfl (ArgsLE.refl _) rfl rfl rfl rfl rfl ?_ | refine lx_callT rfl rfl n2 rfl rfl (ArgsLE.refl _) rfl rfl rfl rfl rfl ?_) | refine c_condP rfl (fun hc => ?_) (fun hc => ?_))
      all_goals try (exfalso; omega)
      all_goals refine q_ret ?_ (stHas_spec trivial); refine resT_cell_tmp rfl rfl rfl inferInstance rfl inferInstance rfl ?_ ?_; exact TLe.av (by repeat first | exact TLe.refl _ | exact TLe.slq _ _ | exact TLe.nil _ | exact TLe.esl _ | refine TLe.agg ?_ | refine TLs.cons ?_ ?_ | exact TLs.nil); exact AVLE.refl _
    | false =>
    rw [if_neg (by simp)]
    rw [e2] at n2
    clear e2
    by_cases h34 : bAt s (p : Nat) = 34
    · rw [if_pos h34]
      clear IH
      have hQ := rQuoted_spec s p hs hp
      generalize jqQuoted s p = T at hQ ⊢
      obtain ⟨t, q⟩ := T
      have hX := rTextN_call t
      simp only at hQ ⊢
      rw [(Nd.mk 3 false 0 t [] []).toT_full]
      refine spec_intro (env0 := [(0, _), (1, _), (2, _)]) (st0 := []) Tryd.func35 rfl rfl rfl rfl ?_
      repeat' (first | (with_reducible refine codeT_seq ?_) | (with_reducible refine codeT_block ?_) | (with_reducible refine codeT_ret ?_) | (with_reducible refine codeT_regionL ?_) | (with_reducible refine lx_nil ?_) | (with_reducible refine q_then ?_) | (with_reducible refine q_then_ret ?_) | (with_reducible refine q_block_ret ?_) | refine c_condF rfl ?_ | (exfalso; omega) | ((with_reducible refine g_move ?_); first | refine lx_move (r := (.t _)) rfl rfl rfl rfl rfl ?_ | refine lx_move (r := (.tup _)) rfl rfl rfl rfl rfl ?_) | ((with_reducible refine g_binOp ?_); first | refine lx_arith rfl rfl rfl rfl rfl rfl rfl ?_) | ((with_reducible refine g_assign ?_); first | refine lx_assign (r := (.t _)) rfl rfl rfl rfl rfl ?_) | ((with_reducible refine g_pick ?_); first | refine lx_pickF (r := (.t _)) rfl rfl rfl rfl rfl rfl ?_) | ((with_reducible refine g_alloc ?_); first | refine lx_alloc rfl rfl rfl rfl rfl rfl rfl ?_) | ((with_reducible refine g_store ?_); first | refine lx_store_var (r := (.t (.agg _))) rfl rfl rfl rfl rfl rfl rfl rfl rfl rfl ?_) | ((with_reducible refine g_index ?_); first | refine lx_index_str rfl rfl rfl rfl rfl rfl ?_ ?_ ?_) | ((with_reducible refine g_extract ?_); first | refine lx_extract rfl rfl rfl rfl rfl rfl ?_) | ((with_reducible refine g_len ?_); first | refine lx_len_str rfl rfl rfl rfl rfl ?_) | ((with_reducible refine g_call ?_); first | refine lx_callT rfl rfl n0 rfl rfl (ArgsLE.refl _) rfl rfl rfl rfl rfl ?_ | refine lx_callT rfl rfl n1 rfl rfl (ArgsLE.refl _) rfl rfl rfl rfl rfl ?_ | refine lx_callT rfl rfl n2 rfl rfl (ArgsLE.refl _) rfl rfl rfl rfl rfl ?_ | refine lx_callT rfl rfl hQ rfl rfl (ArgsLE.refl _) rfl rfl rfl rfl rfl ?_ | refine lx_callT rfl rfl hX rfl rfl (ArgsLE.refl _) rfl rfl rfl rfl rfl ?_) | refine c_condP rfl (fun hc => ?_) (fun hc => ?_))
      all_goals try (exfalso; omega)
      all_goals try omega
      all_goals refine q_ret ?_ (stHas_spec trivial); refine resT_cell_tmp rfl rfl rfl inferInstance rfl inferInstance rfl ?_ ?_; exact TLe.av (by repeat first | exact TLe.refl _ | exact TLe.slq _ _ | exact TLe.nil _ | exact TLe.esl _ | refine TLe.agg ?_ | refine TLs.cons ?_ ?_ | exact TLs.nil); exact AVLE.refl _
    rw [if_neg h34]
    by_cases h91 : bAt s (p : Nat) = 91
    · rw [if_pos h91]
      have hL := rList_call s hs d (by omega) IH 4 (by omega) 93 p (by omega)
      clear IH
      generalize jqList (jqVal s d) s 4 93 258 [] [] (p + 1) = y at hL ⊢
      obtain ⟨x, q⟩ := y
      have hx := x.toT_full
      simp only at hL ⊢
      rw [hx] at hL ⊢
      refine spec_intro (env0 := [(0, _), (1, _), (2, _)]) (st0 := []) Tryd.func35 rfl rfl rfl rfl ?_
      repeat' (first | (with_reducible refine codeT_seq ?_) | (with_reducible refine codeT_block ?_) | (with_reducible refine codeT_ret ?_) | (with_reducible refine codeT_regionL ?_) | (with_reducible refine lx_nil ?_) | (with_reducible refine q_then ?_) | (with_reducible refine q_then_ret ?_) | (with_reducible refine q_block_ret ?_) | refine c_condF rfl ?_ | (exfalso; omega) | ((with_reducible refine g_move ?_); first | refine lx_move (r := (.t _)) rfl rfl rfl rfl rfl ?_) | ((with_reducible refine g_binOp ?_); first | refine lx_arith rfl rfl rfl rfl rfl rfl rfl ?_) | ((with_reducible refine g_assign ?_); first | refine lx_assign (r := (.t _)) rfl rfl rfl rfl rfl ?_) | ((with_reducible refine g_pick ?_); first | refine lx_pickF (r := (.t _)) rfl rfl rfl rfl rfl rfl ?_) | ((with_reducible refine g_alloc ?_); first | refine lx_alloc rfl rfl rfl rfl rfl rfl rfl ?_) | ((with_reducible refine g_store ?_); first | refine lx_store_var (r := (.t (.agg _))) rfl rfl rfl rfl rfl rfl rfl rfl rfl rfl ?_) | ((with_reducible refine g_index ?_); first | refine lx_index_str rfl rfl rfl rfl rfl rfl ?_ ?_ ?_) | ((with_reducible refine g_extract ?_); first | refine lx_extract rfl rfl rfl rfl rfl rfl ?_) | ((with_reducible refine g_len ?_); first | refine lx_len_str rfl rfl rfl rfl rfl ?_) | ((with_reducible refine g_call ?_); first | refine lx_callT rfl rfl n0 rfl rfl (ArgsLE.refl _) rfl rfl rfl rfl rfl ?_ | refine lx_callT rfl rfl n1 rfl rfl (ArgsLE.refl _) rfl rfl rfl rfl rfl ?_ | refine lx_callT rfl rfl n2 rfl rfl (ArgsLE.refl _) rfl rfl rfl rfl rfl ?_ | refine lx_callT rfl rfl hL rfl rfl (ArgsLE.refl _) rfl rfl rfl rfl rfl ?_) | refine c_condP rfl (fun hc => ?_) (fun hc => ?_))
      all_goals try (exfalso; omega)
      all_goals try omega
      all_goals refine q_ret ?_ (stHas_spec trivial); refine resT_cell_tmp rfl rfl rfl inferInstance rfl inferInstance rfl ?_ ?_; exact TLe.av (by repeat first | exact TLe.refl _ | exact TLe.slq _ _ | exact TLe.nil _ | exact TLe.esl _ | refine TLe.agg ?_ | refine TLs.cons ?_ ?_ | exact TLs.nil); exact AVLE.refl _
    rw [if_neg h91]
    by_cases h123 : bAt s (p : Nat) = 123
    · rw [if_pos h123]
      have hL := rList_call s hs d (by omega) IH 5 (by omega) 125 p (by omega)
      clear IH
      generalize jqList (jqVal s d) s 5 125 258 [] [] (p + 1) = y at hL ⊢
      obtain ⟨x, q⟩ := y
      have hx := x.toT_full
      simp only at hL ⊢
      rw [hx] at hL ⊢
      refine spec_intro (env0 := [(0, _), (1, _), (2, _)]) (st0 := []) Tryd.func35 rfl rfl rfl rfl ?_
      repeat' (first | (with_reducible refine codeT_seq ?_) | (with_reducible refine codeT_block ?_) | (with_reducible refine codeT_skip ?_) | (with_reducible refine codeT_ret ?_) | (with_reducible refine codeT_regionL ?_) | (with_reducible refine lx_nil ?_) | (with_reducible refine q_then ?_) | (with_reducible refine q_then_ret ?_) | (with_reducible refine q_block ?_) | (with_reducible refine q_block_ret ?_) | refine c_condF rfl ?_ | (exfalso; omega) | ((with_reducible refine g_move ?_); first | refine lx_move (r := (.t _)) rfl rfl rfl rfl rfl ?_) | ((with_reducible refine g_binOp ?_); first | refine lx_arith rfl rfl rfl rfl rfl rfl rfl ?_) | ((with_reducible refine g_assign ?_); first | refine lx_assign (r := (.t _)) rfl rfl rfl rfl rfl ?_) | ((with_reducible refine g_pick ?_); first | refine lx_pickF (r := (.t _)) rfl rfl rfl rfl rfl rfl ?_) | ((with_reducible refine g_alloc ?_); first | refine lx_alloc rfl rfl rfl rfl rfl rfl rfl ?_) | ((with_reducible refine g_store ?_); first | refine lx_store_var (r := (.t (.agg _))) rfl rfl rfl rfl rfl rfl rfl rfl rfl rfl ?_) | ((with_reducible refine g_index ?_); first | refine lx_index_str rfl rfl rfl rfl rfl rfl ?_ ?_ ?_) | ((with_reducible refine g_extract ?_); first | refine lx_extract rfl rfl rfl rfl rfl rfl ?_) | ((with_reducible refine g_len ?_); first | refine lx_len_str rfl rfl rfl rfl rfl ?_) | ((with_reducible refine g_call ?_); first | refine lx_callT rfl rfl n0 rfl rfl (ArgsLE.refl _) rfl rfl rfl rfl rfl ?_ | refine lx_callT rfl rfl n1 rfl rfl (ArgsLE.refl _) rfl rfl rfl rfl rfl ?_ | refine lx_callT rfl rfl n2 rfl rfl (ArgsLE.refl _) rfl rfl rfl rfl rfl ?_ | refine lx_callT rfl rfl hL rfl rfl (ArgsLE.refl _) rfl rfl rfl rfl rfl ?_) | refine c_condP rfl (fun hc => ?_) (fun hc => ?_))
      all_goals try (exfalso; omega)
      all_goals try omega
      all_goals refine q_ret ?_ (stHas_spec trivial); refine resT_cell_tmp rfl rfl rfl inferInstance rfl inferInstance rfl ?_ ?_; exact TLe.av (by repeat first | exact TLe.refl _ | exact TLe.slq _ _ | exact TLe.nil _ | exact TLe.esl _ | refine TLe.agg ?_ | refine TLs.cons ?_ ?_ | exact TLs.nil); exact AVLE.refl _
    rw [if_neg h123]
    clear IH
    have hN := rNumb_spec s p hs (by omega)
    generalize jqNumb s p = y at hN ⊢
    obtain ⟨x, q⟩ := y
    have hx := x.toT_full
    simp only at hN ⊢
    rw [hx] at hN ⊢
    refine spec_intro (env0 := [(0, _), (1, _), (2, _)]) (st0 := []) Tryd.func35 rfl rfl rfl rfl ?_
    repeat' (first | (with_reducible refine codeT_seq ?_) | (with_reducible refine codeT_block ?_) | (with_reducible refine codeT_skip ?_) | (with_reducible refine codeT_ret ?_) | (with_reducible refine codeT_regionL ?_) | (with_reducible refine lx_nil ?_) | (with_reducible refine q_then ?_) | (with_reducible refine q_block ?_) | refine c_condF rfl ?_ | (exfalso; omega) | ((with_reducible refine g_move ?_); first | refine lx_move (r := (.t _)) rfl rfl rfl rfl rfl ?_) | ((with_reducible refine g_binOp ?_); first | refine lx_arith rfl rfl rfl rfl rfl rfl rfl ?_) | ((with_reducible refine g_assign ?_); first | refine lx_assign (r := (.t _)) rfl rfl rfl rfl rfl ?_) | ((with_reducible refine g_pick ?_); first | refine lx_pickF (r := (.t _)) rfl rfl rfl rfl rfl rfl ?_) | ((with_reducible refine g_alloc ?_); first | refine lx_alloc rfl rfl rfl rfl rfl rfl rfl ?_) | ((with_reducible refine g_store ?_); first | refine lx_store_var (r := (.t (.agg _))) rfl rfl rfl rfl rfl rfl rfl rfl rfl rfl ?_) | ((with_reducible refine g_index ?_); first | refine lx_index_str rfl rfl rfl rfl rfl rfl ?_ ?_ ?_) | ((with_reducible refine g_extract ?_); first | refine lx_extract rfl rfl rfl rfl rfl rfl ?_) | ((with_reducible refine g_len ?_); first | refine lx_len_str rfl rfl rfl rfl rfl ?_) | ((with_reducible refine g_call ?_); first | refine lx_callT rfl rfl n0 rfl rfl (ArgsLE.refl _) rfl rfl rfl rfl rfl ?_ | refine lx_callT rfl rfl n1 rfl rfl (ArgsLE.refl _) rfl rfl rfl rfl rfl ?_ | refine lx_callT rfl rfl n2 rfl rfl (ArgsLE.refl _) rfl rfl rfl rfl rfl ?_ | refine lx_callT rfl rfl hN rfl rfl (ArgsLE.refl _) rfl rfl rfl rfl rfl ?_) | refine c_condP rfl (fun hc => ?_) (fun hc => ?_))
    all_goals try (exfalso; omega)
    all_goals try omega
    all_goals refine q_ret ?_ (stHas_spec trivial); refine resT_cell_tmp rfl rfl rfl inferInstance rfl inferInstance rfl ?_ ?_; exact TLe.av (by repeat first | exact TLe.refl _ | exact TLe.slq _ _ | exact TLe.nil _ | exact TLe.esl _ | refine TLe.agg ?_ | refine TLs.cons ?_ ?_ | exact TLs.nil); exact AVLE.refl _
end Go.AL
/- What the document's Decode of the first serialisation answers. -/
set_option linter.unusedVariables false
namespace Go.AL
open Go Go.Proofs Go.RowKit

set_option maxHeartbeats 8000000 in
theorem jqDec_spec {oF oA oP : Obj} {V : ByteArray → Bool} (hS : VSpec oF oA V) (hPw : isTabOf .u64 Lib.pow10Tab oP) (s : ByteArray) (hs : s.size ≤ 1000000) : Spec Tryd.prog 23 [.t (.str s)] [(.par 100, .dat (.fix 0 oF)), (.par 101, .dat (.fix 1 oA)), (.par 102, .dat (.fix 2 oP))] (.tup [.t (gDec jsC V s).1.toT, .t (.int .i64 (gDec jsC V s).2)]) [(.par 100, .dat (.fix 0 oF)), (.par 101, .dat (.fix 1 oA)), (.par 102, .dat (.fix 2 oP))] := by
  rw [← jqDec_eq]
  unfold jqDec
  by_cases h0 : 65536 < s.size
  · rw [if_pos h0]
    have h0' : (65536 : Int) < (s.size : Int) := by omega
    simp only
    rw [zero_toT]
    refine spec_intro (env0 := [(0, _)]) (st0 := [(_, some _), (_, some _), (_, some _)]) Tryd.func23 rfl rfl rfl rfl ?_
    repeat' (first | (with_reducible refine codeT_seq ?_) | (with_reducible refine codeT_skip ?_) | (with_reducible refine codeT_ret ?_) | (with_reducible refine codeT_regionL ?_) | (with_reducible refine lx_nil ?_) | (with_reducible refine q_then ?_) | (with_reducible refine q_then_ret ?_) | ((with_reducible refine g_move ?_); first | refine lx_move (r := (.t _)) rfl rfl rfl rfl rfl ?_) | ((with_reducible refine g_binOp ?_); first | refine lx_arith rfl rfl rfl rfl rfl rfl rfl ?_) | ((with_reducible refine g_assign ?_); first | refine lx_assign (r := (.t _)) rfl rfl rfl rfl rfl ?_) | ((with_reducible refine g_alloc ?_); first | refine lx_alloc rfl rfl rfl rfl rfl rfl rfl ?_) | ((with_reducible refine g_store ?_); first | refine lx_store_var (r := (.t (.agg _))) rfl rfl rfl rfl rfl rfl rfl rfl rfl rfl ?_) | ((with_reducible refine g_build ?_); first | refine lx_build (r := (.t (.agg _))) rfl rfl rfl rfl rfl rfl rfl ?_) | ((with_reducible refine g_len ?_); first | refine lx_len_str rfl rfl rfl rfl rfl ?_) | ((with_reducible refine g_call ?_); first | exact absurd h0' ‹_›) | refine c_condP rfl (fun hc => ?_) (fun hc => ?_))
    refine q_ret ?_ (stHas_spec ⟨rfl, rfl, rfl, trivial⟩); refine resT_cell_tmp rfl rfl rfl inferInstance rfl inferInstance rfl ?_ ?_; exact TLe.av (by repeat first | exact TLe.refl _ | exact TLe.slq _ _ | exact TLe.nil _ | exact TLe.esl _ | refine TLe.agg ?_ | refine TLs.cons ?_ ?_ | exact TLs.nil); exact AVLE.refl _
  · rw [if_neg h0]
    have hW : Spec Tryd.prog 35 [.t (.str s), .t (.int .i64 0), .t (.int .i64 8)] [] (.tup [.t (jqVal s 8 0).1.toT, .t (.int .i64 (jqVal s 8 0).2)]) [] := rVal_call s (by omega) 8 (by omega) 0 (by omega)
    have hgd := jqVal_good s 8 0
    obtain ⟨ox, glo, gg⟩ := hgd
    try simp only at ox glo gg
    have hT := (jqVal s 8 0).1.toT_full
    have hVa := rValid_spec hS _ ox
    have hWr := fun (h : (jqVal s 8 0).2 ≠ -1) (hv : (jqVal s 8 0).1.validB V 8 = true) => rjWrite_spec hPw (jqVal s 8 0).1 8 hv (gg h).2.2.2 (by have := gg h; omega)
    generalize jqVal s 8 0 = y at *
    obtain ⟨x, q⟩ := y
    simp only at hW hT hVa hWr glo ⊢
    rw [hT] at hW hVa
    have hq : ((s.size : Int) = q) = (q = (s.size : Int)) := propext ⟨Eq.symm, Eq.symm⟩
    by_cases hc1 : q = s.size
    · subst hc1
      have hWr := hWr (by omega)
      cases hv : x.validB V 8 with
      | false =>
        rw [hv] at hVa
        rw [if_neg (by simp)]
        simp only
        rw [zero_toT]
        refine spec_intro (env0 := [(0, _)]) (st0 := [(_, some _), (_, some _), (_, some _)]) Tryd.func23 rfl rfl rfl rfl ?_
        repeat' (first | (with_reducible refine codeT_seq ?_) | (with_reducible refine codeT_skip ?_) | (with_reducible refine codeT_ret ?_) | (with_reducible refine codeT_regionL ?_) | (with_reducible refine lx_nil ?_) | (with_reducible refine q_then ?_) | (with_reducible refine q_then_ret ?_) | refine c_condT rfl ?_ | ((with_reducible refine g_guard ?_); first | refine lx_skip rfl rfl rfl ?_) | ((with_reducible refine g_move ?_); first | refine lx_move (r := (.t _)) rfl rfl rfl rfl rfl ?_ | refine lx_move (r := (.tup _)) rfl rfl rfl rfl rfl ?_) | ((with_reducible refine g_load ?_); first | refine lx_load_varA (r := (.t (.agg _))) rfl rfl rfl rfl rfl rfl rfl rfl rfl ?_) | ((with_reducible refine g_binOp ?_); first | refine lx_arith rfl rfl rfl rfl rfl rfl rfl ?_) | ((with_reducible refine g_assign ?_); first | refine lx_assign (r := (.t _)) rfl rfl rfl rfl rfl ?_) | ((with_reducible refine g_pick ?_); first | refine lx_pickT (r := (.t _)) rfl rfl rfl rfl rfl rfl ?_ | refine lx_pickF (r := (.t _)) rfl rfl rfl rfl rfl rfl ?_) | ((with_reducible refine g_alloc ?_); first | refine lx_alloc rfl rfl rfl rfl rfl rfl rfl ?_) | ((with_reducible refine g_store ?_); first | refine lx_store_var (r := (.t (.agg _))) rfl rfl rfl rfl rfl rfl rfl rfl rfl rfl ?_) | ((with_reducible refine g_unOp ?_); first | refine lx_not rfl rfl rfl rfl rfl ?_) | ((with_reducible refine g_extract ?_); first | refine lx_extract rfl rfl rfl rfl rfl rfl ?_) | ((with_reducible refine g_build ?_); first | refine lx_build (r := (.t (.agg _))) rfl rfl rfl rfl rfl rfl rfl ?_) | ((with_reducible refine g_len ?_); first | refine lx_len_str rfl rfl rfl rfl rfl ?_) | ((with_reducible refine g_call ?_); first | refine lx_callT rfl rfl hW rfl rfl (ArgsLE.refl _) rfl rfl rfl rfl rfl ?_ | refine lx_call (r' := .t (.bool false)) [] rfl rfl hVa (ArgsLE.refl _) rfl ⟨rfl, rfl, trivial⟩ rfl rfl rfl rfl rfl rfl rfl rfl rfl rfl ?_) | refine c_condP rfl (fun hc => ?_) (fun hc => ?_) | refine lx_splitN rfl (fun hc => ?_) (fun hc => ?_))
        all_goals try (exact absurd hc hw)
        all_goals try (exfalso; omega)
        all_goals refine q_ret ?_ (stHas_spec ⟨rfl, rfl, rfl, trivial⟩); refine resT_cell_tmp rfl rfl rfl inferInstance rfl inferInstance rfl ?_ ?_; exact TLe.av (by repeat first | exact TLe.refl _ | exact TLe.slq _ _ | exact TLe.nil _ | exact TLe.esl _ | refine TLe.agg ?_ | refine TLs.cons ?_ ?_ | exact TLs.nil); exact AVLE.refl _
      | true =>
        rw [hv] at hVa
        have hWr := hWr hv
        rw [hT] at hWr
        generalize ofL x.jb = w at hWr ⊢
        by_cases hw : w = s
        · rw [if_pos ⟨rfl, rfl, hw⟩]
          rw [hw] at hWr
          clear hw
          simp only
          rw [hT]
          refine spec_intro (env0 := [(0, _)]) (st0 := [(_, some _), (_, some _), (_, some _)]) Tryd.func23 rfl rfl rfl rfl ?_
          repeat' (first | (with_reducible refine codeT_seq ?_) | (with_reducible refine codeT_skip ?_) | (with_reducible refine codeT_ret ?_) | (with_reducible refine codeT_regionL ?_) | (with_reducible refine lx_nil ?_) | (with_reducible refine q_then ?_) | (with_reducible refine q_then_ret ?_) | refine c_condT rfl ?_ | ((with_reducible refine g_guard ?_); first | refine lx_skip rfl rfl rfl ?_) | ((with_reducible refine g_move ?_); first | refine lx_move (r := (.t _)) rfl rfl rfl rfl rfl ?_ | refine lx_move (r := (.tup _)) rfl rfl rfl rfl rfl ?_) | ((with_reducible refine g_load ?_); first | refine lx_load_varA (r := (.t (.agg _))) rfl rfl rfl rfl rfl rfl rfl rfl rfl ?_) | ((with_reducible refine g_binOp ?_); first | refine lx_arith rfl rfl rfl rfl rfl rfl rfl ?_ | refine lx_str_ne rfl rfl rfl rfl rfl rfl ?_) | ((with_reducible refine g_assign ?_); first | refine lx_assign (r := (.t _)) rfl rfl rfl rfl rfl ?_) | ((with_reducible refine g_pick ?_); first | refine lx_pickT (r := (.t _)) rfl rfl rfl rfl rfl rfl ?_ | refine lx_pickF (r := (.t _)) rfl rfl rfl rfl rfl rfl ?_) | ((with_reducible refine g_alloc ?_); first | refine lx_alloc rfl rfl rfl rfl rfl rfl rfl ?_) | ((with_reducible refine g_store ?_); first | refine lx_store_var (r := (.t (.agg _))) rfl rfl rfl rfl rfl rfl rfl rfl rfl rfl ?_) | ((with_reducible refine g_unOp ?_); first | refine lx_not rfl rfl rfl rfl rfl ?_) | ((with_reducible refine g_extract ?_); first | refine lx_extract rfl rfl rfl rfl rfl rfl ?_) | ((with_reducible refine g_build ?_); first | refine lx_build (r := (.t (.agg _))) rfl rfl rfl rfl rfl rfl rfl ?_) | ((with_reducible refine g_len ?_); first | refine lx_len_str rfl rfl rfl rfl rfl ?_) | ((with_reducible refine g_call ?_); first | refine lx_callT rfl rfl hW rfl rfl (ArgsLE.refl _) rfl rfl rfl rfl rfl ?_ | refine lx_call (r' := .t (.bool true)) [] rfl rfl hVa (ArgsLE.refl _) rfl ⟨rfl, rfl, trivial⟩ rfl rfl rfl rfl rfl rfl rfl rfl rfl rfl ?_ | refine lx_call (r' := .t (.str _)) [] rfl rfl hWr (ArgsLE.refl _) rfl ⟨rfl, trivial⟩ rfl rfl rfl rfl rfl rfl rfl rfl rfl rfl ?_) | refine c_condP rfl (fun hc => ?_) (fun hc => ?_) | refine c_condN rfl (fun hc => ?_) (fun hc => ?_) | refine lx_splitN rfl (fun hc => ?_) (fun hc => ?_))
          all_goals try (exact absurd h0 (by omega))
          · refine q_ret ?_ (stHas_spec ⟨rfl, rfl, rfl, trivial⟩); refine resT_cell_tmp rfl rfl rfl inferInstance rfl inferInstance rfl ?_ ?_; exact TLe.av (by repeat first | exact TLe.refl _ | exact TLe.slq _ _ | exact TLe.nil _ | exact TLe.esl _ | refine TLe.agg ?_ | refine TLs.cons ?_ ?_ | exact TLs.nil); exact AVLE.refl _
          all_goals exact absurd rfl hc
        · rw [if_neg (fun h => hw h.2.2)]
          simp only
          rw [zero_toT]
          refine spec_intro (env0 := [(0, _)]) (st0 := [(_, some _), (_, some _), (_, some _)]) Tryd.func23 rfl rfl rfl rfl ?_
          repeat' (first | (with_reducible refine codeT_seq ?_) | (with_reducible refine codeT_skip ?_) | (with_reducible refine codeT_ret ?_) | (with_reducible refine codeT_regionL ?_) | (with_reducible refine lx_nil ?_) | (with_reducible refine q_then ?_) | (with_reducible refine q_then_ret ?_) | refine c_condT rfl ?_ | ((with_reducible refine g_guard ?_); first | refine lx_skip rfl rfl rfl ?_) | ((with_reducible refine g_move ?_); first | refine lx_move (r := (.t _)) rfl rfl rfl rfl rfl ?_ | refine lx_move (r := (.tup _)) rfl rfl rfl rfl rfl ?_) | ((with_reducible refine g_load ?_); first | refine lx_load_varA (r := (.t (.agg _))) rfl rfl rfl rfl rfl rfl rfl rfl rfl ?_) | ((with_reducible refine g_binOp ?_); first | refine lx_arith rfl rfl rfl rfl rfl rfl rfl ?_ | refine lx_str_ne rfl rfl rfl rfl rfl rfl ?_) | ((with_reducible refine g_assign ?_); first | refine lx_assign (r := (.t _)) rfl rfl rfl rfl rfl ?_) | ((with_reducible refine g_pick ?_); first | refine lx_pickT (r := (.t _)) rfl rfl rfl rfl rfl rfl ?_ | refine lx_pickF (r := (.t _)) rfl rfl rfl rfl rfl rfl ?_) | ((with_reducible refine g_alloc ?_); first | refine lx_alloc rfl rfl rfl rfl rfl rfl rfl ?_) | ((with_reducible refine g_store ?_); first | refine lx_store_var (r := (.t (.agg _))) rfl rfl rfl rfl rfl rfl rfl rfl rfl rfl ?_) | ((with_reducible refine g_unOp ?_); first | refine lx_not rfl rfl rfl rfl rfl ?_) | ((with_reducible refine g_extract ?_); first | refine lx_extract rfl rfl rfl rfl rfl rfl ?_) | ((with_reducible refine g_build ?_); first | refine lx_build (r := (.t (.agg _))) rfl rfl rfl rfl rfl rfl rfl ?_) | ((with_reducible refine g_len ?_); first | refine lx_len_str rfl rfl rfl rfl rfl ?_) | ((with_reducible refine g_call ?_); first | refine lx_callT rfl rfl hW rfl rfl (ArgsLE.refl _) rfl rfl rfl rfl rfl ?_ | refine lx_call (r' := .t (.bool true)) [] rfl rfl hVa (ArgsLE.refl _) rfl ⟨rfl, rfl, trivial⟩ rfl rfl rfl rfl rfl rfl rfl rfl rfl rfl ?_ | refine lx_call (r' := .t (.str _)) [] rfl rfl hWr (ArgsLE.refl _) rfl ⟨rfl, trivial⟩ rfl rfl rfl rfl rfl rfl rfl rfl rfl rfl ?_) | refine c_condP rfl (fun hc => ?_) (fun hc => ?_) | refine c_condN rfl (fun hc => ?_) (fun hc => ?_) | refine lx_splitN rfl (fun hc => ?_) (fun hc => ?_))
          all_goals try (exact absurd hc hw)
          all_goals try (exfalso; omega)
          all_goals refine q_ret ?_ (stHas_spec ⟨rfl, rfl, rfl, trivial⟩); refine resT_cell_tmp rfl rfl rfl inferInstance rfl inferInstance rfl ?_ ?_; exact TLe.av (by repeat first | exact TLe.refl _ | exact TLe.slq _ _ | exact TLe.nil _ | exact TLe.esl _ | refine TLe.agg ?_ | refine TLs.cons ?_ ?_ | exact TLs.nil); exact AVLE.refl _
    · rw [if_neg (fun h => hc1 h.1)]
      simp only
      rw [zero_toT]
      refine spec_intro (env0 := [(0, _)]) (st0 := [(_, some _), (_, some _), (_, some _)]) Tryd.func23 rfl rfl rfl rfl ?_
      repeat' (first | (with_reducible refine codeT_seq ?_) | (with_reducible refine codeT_skip ?_) | (with_reducible refine codeT_ret ?_) | (with_reducible refine codeT_regionL ?_) | (with_reducible refine lx_nil ?_) | (with_reducible refine q_then ?_) | (with_reducible refine q_then_ret ?_) | refine c_condT rfl ?_ | ((with_reducible refine g_guard ?_); first | refine lx_skip rfl rfl rfl ?_) | ((with_reducible refine g_move ?_); first | refine lx_move (r := (.t _)) rfl rfl rfl rfl rfl ?_ | refine lx_move (r := (.tup _)) rfl rfl rfl rfl rfl ?_) | ((with_reducible refine g_load ?_); first | refine lx_load_varA (r := (.t (.agg _))) rfl rfl rfl rfl rfl rfl rfl rfl rfl ?_) | ((with_reducible refine g_binOp ?_); first | refine lx_arith rfl rfl rfl rfl rfl rfl rfl ?_) | ((with_reducible refine g_assign ?_); first | refine lx_assign (r := (.t _)) rfl rfl rfl rfl rfl ?_) | ((with_reducible refine g_pick ?_); first | refine lx_pickT (r := (.t _)) rfl rfl rfl rfl rfl rfl ?_) | ((with_reducible refine g_alloc ?_); first | refine lx_alloc rfl rfl rfl rfl rfl rfl rfl ?_) | ((with_reducible refine g_store ?_); first | refine lx_store_var (r := (.t (.agg _))) rfl rfl rfl rfl rfl rfl rfl rfl rfl rfl ?_) | ((with_reducible refine g_extract ?_); first | refine lx_extract rfl rfl rfl rfl rfl rfl ?_) | ((with_reducible refine g_build ?_); first | refine lx_build (r := (.t (.agg _))) rfl rfl rfl rfl rfl rfl rfl ?_) | ((with_reducible refine g_len ?_); first | refine lx_len_str rfl rfl rfl rfl rfl ?_) | ((with_reducible refine g_call ?_); first | refine lx_callT rfl rfl hW rfl rfl (ArgsLE.refl _) rfl rfl rfl rfl rfl ?_ | exact absurd ‹_› hc1) | refine c_condP rfl (fun hc => ?_) (fun hc => ?_) | refine lx_splitN rfl (fun hc => ?_) (fun hc => ?_))
      all_goals try (exact absurd hc hw)
      all_goals try (exfalso; omega)
      all_goals refine q_ret ?_ (stHas_spec ⟨rfl, rfl, rfl, trivial⟩); refine resT_cell_tmp rfl rfl rfl inferInstance rfl inferInstance rfl ?_ ?_; exact TLe.av (by repeat first | exact TLe.refl _ | exact TLe.slq _ _ | exact TLe.nil _ | exact TLe.esl _ | refine TLe.agg ?_ | refine TLs.cons ?_ ?_ | exact TLs.nil); exact AVLE.refl _
end Go.AL
/- That the law JsonReads is true, as a contract. -/
set_option linter.unusedVariables false
namespace Go.AL
open Go Go.Proofs Go.RowKit

theorem jDec_ok {V : ByteArray → Bool} (s : ByteArray) : (gDec jsC V s).1.Ok := by
  rcases jDec_two (V := V) s with e | ⟨x, e, _, _, h, _, _⟩
  · rw [e]; exact zero_ok
  · rw [e]; exact h
set_option maxHeartbeats 16000000 in
theorem JsonReads_spec {oF oA oP oS oR : Obj} {V : ByteArray → Bool} (hS : VSpec oF oA V) (hPw : isTabOf .u64 Lib.pow10Tab oP) (G : EOk oS oR) (hV : VOk V) (l : List Int) (s : ByteArray) (at_ by_ : Int) : Spec Tryd.prog 7 [.t (.sl 1 (l.map (T.int .i64))), .t (.str s), .t (.int .i64 at_), .t (.int .i64 by_)] [(.par 100, .dat (.fix 0 oF)), (.par 101, .dat (.fix 1 oA)), (.par 102, .dat (.fix 2 oP)), (.par 103, .dat (.fix 3 oS)), (.par 104, .dat (.fix 4 oR))] (.t (.bool true)) [(.par 100, .dat (.fix 0 oF)), (.par 101, .dat (.fix 1 oA)), (.par 102, .dat (.fix 2 oP)), (.par 103, .dat (.fix 3 oS)), (.par 104, .dat (.fix 4 oR))] := by
  have hA := awake6_spec hS hPw hV
  have hL := Light_spec l
  by_cases hl : (l.length : Int) ≤ 500
  · rw [decide_eq_true hl] at hL
    by_cases hs : 1000 < (s.size : Int)
    · refine spec_intro (env0 := [(0, _), (1, _), (2, _), (3, _)]) (st0 := [(_, some _), (_, some _), (_, some _), (_, some _), (_, some _)]) Tryd.func7 rfl rfl rfl rfl ?_
      repeat' (first | (with_reducible refine codeT_seq ?_) | (with_reducible refine codeT_skip ?_) | (with_reducible refine codeT_ret ?_) | (with_reducible refine codeT_regionL ?_) | (with_reducible refine lx_nil ?_) | (with_reducible refine q_then ?_) | (with_reducible refine q_then_ret ?_) | ((with_reducible refine g_move ?_); first | refine lx_move (r := (.t _)) rfl rfl rfl rfl rfl ?_) | ((with_reducible refine g_binOp ?_); first | refine lx_arith rfl rfl rfl rfl rfl rfl rfl ?_) | ((with_reducible refine g_assign ?_); first | refine lx_assign (r := (.t _)) rfl rfl rfl rfl rfl ?_) | ((with_reducible refine g_pick ?_); first | refine lx_pickF (r := (.t _)) rfl rfl rfl rfl rfl rfl ?_) | ((with_reducible refine g_unOp ?_); first | refine lx_not rfl rfl rfl rfl rfl ?_) | ((with_reducible refine g_len ?_); first | refine lx_len_str rfl rfl rfl rfl rfl ?_) | ((with_reducible refine g_call ?_); first | refine lx_callT rfl rfl hL rfl rfl (ArgsLE.refl _) rfl rfl rfl rfl rfl ?_ | refine lx_call (r' := .t (.bool true)) [] rfl rfl hA (ArgsLE.refl _) rfl ⟨rfl, rfl, rfl, trivial⟩ rfl rfl rfl rfl rfl rfl rfl rfl rfl rfl ?_ | exact absurd hs ‹_›) | refine c_condP rfl (fun hc => ?_) (fun hc => ?_))
      all_goals try (exact absurd hs hc)
      all_goals exact q_ret (resT_oneE rfl rfl rfl) (stHas_spec ⟨rfl, rfl, rfl, rfl, rfl, trivial⟩)
    · have hR := Roll_spec l
      have hd0 : (Dc.mk l 0).l = l := rfl
      have hX2 := kNode_spec 4 (by omega) (Dc.mk l 0) (by rw [hd0]; omega)
      have vX2 := kNode_ok hV 4 (Dc.mk l 0) 8 (by omega) (by omega)
      have cX2 : _ ∧ _ := ⟨kNode_jb 4 (Dc.mk l 0), (kNode_cb 4 (Dc.mk l 0)).2⟩
      generalize kNode 4 (Dc.mk l 0) = q2 at hX2 vX2 cX2
      obtain ⟨x2, d2⟩ := q2
      simp only at hX2 vX2 cX2
      have o2 := Nd.ok_of_valid x2 8 vX2
      have z2 : x2.jb.length ≤ 65536 := Nat.le_trans cX2.1 (by decide)
      have hC2 := rjEnc_spec hS hPw x2 o2 cX2.2 (fun _ => by omega)
      rw [jEnc_gEnc, gEnc_ok (C := jsC) vX2 z2] at hC2
      have hpk : jsC.E x2 = x2.jb := rfl
      rw [hpk] at hC2
      clear hpk
      have hP := Spoil_spec (ofL x2.jb) at_ by_ (by rw [ofL_size]; omega)
      have zP := spoil_size (ofL x2.jb) at_ by_
      have zO : (ofL x2.jb).size ≤ 65536 := by rw [ofL_size]; omega
      have t2 := x2.toT_full
      generalize ofL x2.jb = good at *
      generalize spoil good at_ by_ = sp at *
      have hM := Mod_spec at_ ((good.size : Int) + 1) (by omega)
      have hm := modI_lt at_ ((good.size : Int) + 1) (by omega)
      rw [← wrap64 (n := (good.size : Int) + 1) (by omega) (by omega)] at hM
      rw [wrap64 (n := (good.size : Int) + 1) (by omega) (by omega)] at hM
      generalize modI at_ ((good.size : Int) + 1) = k at hM hm
      rw [← wrap64 (n := (good.size : Int) + 1) (by omega) (by omega)] at hM
      simp only at hC2
      rw [t2] at hX2 hC2
      clear vX2 cX2 o2 z2 t2
      refine spec_intro (env0 := [(0, _), (1, _), (2, _), (3, _)]) (st0 := [(_, some _), (_, some _), (_, some _), (_, some _), (_, some _)]) Tryd.func7 rfl rfl rfl rfl ?_
      repeat' (first | (with_reducible refine codeT_seq ?_) | (with_reducible refine codeT_block ?_) | (with_reducible refine codeT_skip ?_) | (with_reducible refine codeT_regionL ?_) | (with_reducible refine lx_nil ?_) | (with_reducible refine q_then ?_) | ((with_reducible refine g_move ?_); first | refine lx_move (r := (.t _)) rfl rfl rfl rfl rfl ?_ | refine lx_move (r := (.tup _)) rfl rfl rfl rfl rfl ?_) | ((with_reducible refine g_binOp ?_); first | refine lx_arith rfl rfl rfl rfl rfl rfl rfl ?_ | refine lx_concat rfl rfl rfl rfl rfl rfl ?_ ?_) | ((with_reducible refine g_assign ?_); first | refine lx_assign (r := (.t _)) rfl rfl rfl rfl rfl ?_) | ((with_reducible refine g_pick ?_); first | refine lx_pickF (r := (.t _)) rfl rfl rfl rfl rfl rfl ?_) | ((with_reducible refine g_unOp ?_); first | refine lx_not rfl rfl rfl rfl rfl ?_) | ((with_reducible refine g_extract ?_); first | refine lx_extract rfl rfl rfl rfl rfl rfl ?_) | ((with_reducible refine g_slice ?_); first | refine lx_slice_str rfl rfl rfl ⟨_, rfl⟩ rfl rfl rfl ?_ ?_ ?_ ?_) | ((with_reducible refine g_buildSlice ?_); first | refine lx_buildSlice rfl rfl rfl rfl rfl rfl rfl ?_) | ((with_reducible refine g_len ?_); first | refine lx_len_str rfl rfl rfl rfl rfl ?_ | refine lx_len_row rfl rfl rfl rfl rfl rfl ?_) | ((with_reducible refine g_call ?_); first | refine lx_callT rfl rfl hL rfl rfl (ArgsLE.refl _) rfl rfl rfl rfl rfl ?_ | refine lx_call (r' := .ref (.loc 900) 0 0 0) [(.res 0, .loc 900)] rfl rfl hR (ArgsLE.refl _) rfl trivial rfl rfl rfl rfl rfl rfl rfl rfl rfl rfl ?_ | refine lx_call (r' := .t (.agg [_, _, _, _, _, _])) [(.par 0, .loc 900)] rfl rfl hX2 (ArgsLE.refl _) rfl ⟨rfl, trivial⟩ rfl rfl rfl rfl rfl rfl rfl rfl rfl rfl ?_ | refine lx_call (r' := .tup [.t (.str good), .t (.int .i64 0)]) [] rfl rfl hC2 (ArgsLE.refl _) rfl ⟨rfl, rfl, rfl, trivial⟩ rfl rfl rfl rfl rfl rfl rfl rfl rfl rfl ?_ | refine lx_callT rfl rfl hP rfl rfl (ArgsLE.refl _) rfl rfl rfl rfl rfl ?_ | refine lx_callT rfl rfl hM rfl rfl (ArgsLE.refl _) rfl rfl rfl rfl rfl ?_) | refine c_condP rfl (fun hc => ?_) (fun hc => ?_))
      all_goals try (exact absurd hc hs)
      all_goals try omega
      refine codeT_ghost (ghost_keep2 [52, 53, 54] [.loc 52, .par 100, .par 101, .par 102, .par 103, .par 104] rfl rfl) ?_
      refine codeT_ghost (ghost_freezeL (id := .loc 52) rfl rfl rfl) ?_
      obtain ⟨L, hLe⟩ : ∃ L, L = [s, good, sp, good.extract (Int.toNat 0) k.toNat, good ++ s, good ++ good] := ⟨_, rfl⟩
      have hLx : ∀ x ∈ L, x.size ≤ 200000 := by
        intro x hx
        rw [hLe] at hx
        simp only [List.mem_cons, List.not_mem_nil, or_false] at hx
        rcases hx with rfl | rfl | rfl | rfl | rfl | rfl
        · omega
        · omega
        · omega
        · simp only [ByteArray.size_extract]; omega
        · simp only [ByteArray.size_append]; omega
        · simp only [ByteArray.size_append]; omega
      refine codeT_ghost (ghost_le 52 (y := .sl 1 (L.map .str)) rfl (by rw [hLe]; exact .refl _) rfl) ?_
      have hL6 : L.length = 6 := by rw [hLe]; rfl
      clear hX2 hC2 hP hR hM hLe hd0
      refine codeT_ghost (ghost_keep2 [52, 53, 54] [.par 100, .par 101, .par 102, .par 103, .par 104] rfl rfl) ?_
      refine codeT_loop (fun p env st => ∃ (j : Nat), j ≤ 6 ∧ p = 6 - j ∧
          env = EnvL.get [(52, .t (.sl 1 (L.map .str))), (53, .t (.int .i64 6)), (54, .t (.int .i64 (j : Int)))] ∧ st = StO.get [(.par 100, some (.dat (.fix 0 oF))), (.par 101, some (.dat (.fix 1 oA))), (.par 102, some (.dat (.fix 2 oP))), (.par 103, some (.dat (.fix 3 oS))), (.par 104, some (.dat (.fix 4 oR)))])
        ?_ (n := 6) ⟨0, by omega, rfl, rfl, rfl⟩
      rintro p env st ⟨j, hj, rfl, rfl, rfl⟩
      by_cases hlt : j < 6
      · have hm : L.getD (j : Int).toNat default ∈ L := by
          rw [List.getD_eq_getElem?_getD, List.getElem?_eq_getElem (by omega)]; exact List.getElem_mem _
        have hx := hLx _ hm
        have hD := jDec_spec hS hPw G (L.getD (j : Int).toNat default) (by omega)
        have hE := jqDec_spec hS hPw (L.getD (j : Int).toNat default) (by omega)
        have oD := jDec_ok (V := V) (L.getD (j : Int).toNat default)
        generalize gDec jsC V (L.getD (j : Int).toNat default) = y at hD hE oD
        obtain ⟨x, e⟩ := y
        have hZ := rSame_spec x oD x
        rw [Nd.same_refl] at hZ
        simp only at hD hE
        have tx := x.toT_full
        rw [tx] at hD hE hZ
        repeat' (first | (with_reducible refine codeT_seq ?_) | (with_reducible refine codeT_block ?_) | (with_reducible refine codeT_skip ?_) | (with_reducible refine codeT_ret ?_) | (with_reducible refine codeT_exit ?_) | (with_reducible refine codeT_regionL ?_) | (with_reducible refine lx_nil ?_) | (with_reducible refine q_then ?_) | (with_reducible refine q_then_exit ?_) | (with_reducible refine q_then_ret ?_) | (with_reducible refine q_block ?_) | (with_reducible refine q_block_ret ?_) | ((with_reducible refine q_block_same ?_ ?_); · rfl) | (with_reducible refine q_loop_exit ?_) | (with_reducible refine q_loop_ret ?_) | ((with_reducible refine g_move ?_); first | refine lx_move (r := (.t _)) rfl rfl rfl rfl rfl ?_ | refine lx_move (r := (.tup _)) rfl rfl rfl rfl rfl ?_) | ((with_reducible refine g_load ?_); first | refine lx_load_varA (r := (.t (.agg _))) rfl rfl rfl rfl rfl rfl rfl rfl rfl ?_ | refine lx_load_tp rfl rfl rfl rfl rfl rfl rfl ?_) | ((with_reducible refine g_binOp ?_); first | refine lx_arith rfl rfl rfl rfl rfl rfl rfl ?_) | ((with_reducible refine g_assign ?_); first | refine lx_assign (r := (.t _)) rfl rfl rfl rfl rfl ?_) | ((with_reducible refine g_pick ?_); first | refine lx_pickF (r := (.t _)) rfl rfl rfl rfl rfl rfl ?_) | ((with_reducible refine g_alloc ?_); first | refine lx_alloc rfl rfl rfl rfl rfl rfl rfl ?_) | ((with_reducible refine g_store ?_); first | refine lx_store_var (r := (.t (.agg _))) rfl rfl rfl rfl rfl rfl rfl rfl rfl rfl ?_) | ((with_reducible refine g_indexAddr ?_); first | refine lx_indexAddr_map rfl rfl rfl rfl rfl rfl ?_ ?_ ?_) | ((with_reducible refine g_unOp ?_); first | refine lx_not rfl rfl rfl rfl rfl ?_) | ((with_reducible refine g_extract ?_); first | refine lx_extract rfl rfl rfl rfl rfl rfl ?_) | ((with_reducible refine g_call ?_); first | refine lx_call (r' := .tup [.t (.agg [_, _, _, _, _, _]), .t (.int .i64 e)]) [] rfl rfl hD (ArgsLE.refl _) rfl ⟨rfl, rfl, rfl, rfl, rfl, trivial⟩ rfl rfl rfl rfl rfl rfl rfl rfl rfl rfl ?_ | refine lx_call (r' := .tup [.t (.agg [_, _, _, _, _, _]), .t (.int .i64 e)]) [] rfl rfl hE (ArgsLE.refl _) rfl ⟨rfl, rfl, rfl, trivial⟩ rfl rfl rfl rfl rfl rfl rfl rfl rfl rfl ?_ | refine lx_callT rfl rfl hZ rfl rfl (ArgsLE.refl _) rfl rfl rfl rfl rfl ?_) | refine c_condP rfl (fun hc => ?_) (fun hc => ?_) | refine c_condN rfl (fun hc => ?_) (fun hc => ?_))
        all_goals try omega
        exact q_loop (n' := 6 - (j + 1)) (by omega) (ghost_keep2 [52, 53, 54] [.par 100, .par 101, .par 102, .par 103, .par 104] rfl rfl) ⟨j + 1, by omega, rfl, by rw [wrap64 (by omega) (by omega)]; rfl, rfl⟩
      · repeat' (first | (with_reducible refine codeT_seq ?_) | (with_reducible refine codeT_regionL ?_) | (with_reducible refine lx_nil ?_) | (with_reducible refine q_then ?_) | ((with_reducible refine g_binOp ?_); first | refine lx_arith rfl rfl rfl rfl rfl rfl rfl ?_))
        refine c_condP rfl (fun hc => absurd hc (by omega)) (fun hc => ?_)
        repeat' (first | (with_reducible refine codeT_seq ?_) | (with_reducible refine codeT_ret ?_) | (with_reducible refine codeT_exit ?_) | (with_reducible refine codeT_regionL ?_) | (with_reducible refine lx_nil ?_) | (with_reducible refine q_then ?_) | (with_reducible refine q_then_exit ?_) | ((with_reducible refine q_block_same ?_ ?_); · rfl) | (with_reducible refine q_loop_exit ?_) | ((with_reducible refine g_assign ?_); first | refine lx_assign (r := (.t _)) rfl rfl rfl rfl rfl ?_) | ((with_reducible refine g_call ?_); first | refine lx_call (r' := .t (.bool true)) [] rfl rfl hA (ArgsLE.refl _) rfl ⟨rfl, rfl, rfl, trivial⟩ rfl rfl rfl rfl rfl rfl rfl rfl rfl rfl ?_))
        exact q_ret (resT_oneE rfl rfl rfl) (stHas_spec ⟨rfl, rfl, rfl, rfl, rfl, trivial⟩)
  · rw [decide_eq_false hl] at hL
    refine spec_intro (env0 := [(0, _), (1, _), (2, _), (3, _)]) (st0 := [(_, some _), (_, some _), (_, some _), (_, some _), (_, some _)]) Tryd.func7 rfl rfl rfl rfl ?_
    repeat' (first | (with_reducible refine codeT_seq ?_) | (with_reducible refine codeT_ret ?_) | (with_reducible refine codeT_regionL ?_) | (with_reducible refine lx_nil ?_) | (with_reducible refine q_then ?_) | (with_reducible refine q_then_ret ?_) | refine c_condT rfl ?_ | ((with_reducible refine g_guard ?_); first | refine lx_skip rfl rfl rfl ?_) | ((with_reducible refine g_move ?_); first | refine lx_move (r := (.t _)) rfl rfl rfl rfl rfl ?_) | ((with_reducible refine g_assign ?_); first | refine lx_assign (r := (.t _)) rfl rfl rfl rfl rfl ?_) | ((with_reducible refine g_pick ?_); first | refine lx_pickT (r := (.t _)) rfl rfl rfl rfl rfl rfl ?_) | ((with_reducible refine g_unOp ?_); first | refine lx_not rfl rfl rfl rfl rfl ?_) | ((with_reducible refine g_call ?_); first | refine lx_callT rfl rfl hL rfl rfl (ArgsLE.refl _) rfl rfl rfl rfl rfl ?_ | refine lx_call (r' := .t (.bool true)) [] rfl rfl hA (ArgsLE.refl _) rfl ⟨rfl, rfl, rfl, trivial⟩ rfl rfl rfl rfl rfl rfl rfl rfl rfl rfl ?_))
    exact q_ret (resT_oneE rfl rfl rfl) (stHas_spec ⟨rfl, rfl, rfl, rfl, rfl, trivial⟩)
end Go.AL
