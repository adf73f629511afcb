/- What the document's Write and Encode answer. -/
import Derived.Test.YtmidabiehblekaaDoorJnd
import Derived.Test.YtmidabiehblekaaDoorJnc
import Derived.Test.YtmidabiehblekaaDoorAl3
import Derived.Test.YtmidabiehblekaaDoorNod1
set_option linter.unusedVariables false
namespace Go.AL
open Go Go.Proofs Go.RowKit

end Go.AL

/- That the law CborWrites is true, as a contract. -/
set_option linter.unusedVariables false
namespace Go.AL
open Go Go.Proofs Go.RowKit

/-- What a law asks of a node that it writes. -/
structure Enc1 (V : ByteArray → Bool) (x : Nd) : Prop where
  ok : x.Ok
  inn : x.In
  sz : x.validB V 8 = true → x.cb.length ≤ 49999999
theorem NdB.inn {mul : TypeId → Nat} {B : Nat} {x : Nd} (h : NdB mul B x) : x.In := by
  induction h with
  | mk h1 h2 h3 h4 h5 h6 h7 ih => exact .mk (wf_i64 h2).1 (wf_i64 h2).2 ih
end Go.AL

/- What the methods of parse.Reader answer. -/
set_option linter.unusedVariables false
namespace Go.AL
open Go Go.Proofs Go.RowKit

def Rs.row (ty : TypeId) (r : Rs) : Row := .var ty [.t (.str r.s), .t (.bool r.bad)]
set_option maxHeartbeats 2000000 in
theorem Take_spec (ty : TypeId) (r : Rs) (n : Int) (hs : r.s.size ≤ 1000000000) : Spec Tryd.prog 65 [.ref (.par 0) 0 0 0, .t (.int .i64 n)] [(.par 0, r.row ty)] (.t (.str (r.take n).1)) [(.par 0, (r.take n).2.row ty)] := by
  obtain ⟨s, bad⟩ := r
  unfold Rs.row
  simp only at hs ⊢
  by_cases hb : n < 0 ∨ (s.size : Int) < n
  · have e : Rs.take ⟨s, bad⟩ n = (eS, ⟨s, true⟩) := by
      unfold Rs.take; rw [if_pos (.inr hb)]
    rw [e]
    refine spec_intro (env0 := [(0, _), (1, _)]) (st0 := [(_, some _)]) Tryd.func65 rfl rfl rfl rfl ?_
    repeat' (first | (with_reducible refine codeT_seq ?_) | (with_reducible refine codeT_skip ?_) | (with_reducible refine codeT_ret ?_) | (with_reducible refine codeT_regionL ?_) | (with_reducible refine lx_nil ?_) | (with_reducible refine q_then ?_) | (with_reducible refine q_then_ret ?_) | refine c_condT rfl ?_ | ((with_reducible refine g_guard ?_); first | refine lx_skip rfl rfl rfl ?_) | ((with_reducible refine g_move ?_); first | refine lx_move (r := (.t _)) rfl rfl rfl rfl rfl ?_ | refine lx_move (r := (.ref _ _ _ _)) rfl rfl rfl rfl rfl ?_) | ((with_reducible refine g_load ?_); first | refine lx_load_var rfl rfl rfl rfl rfl rfl rfl rfl ?_) | ((with_reducible refine g_fieldAddr ?_); first | refine lx_fieldAddr rfl rfl rfl rfl rfl rfl rfl ?_) | ((with_reducible refine g_binOp ?_); first | refine lx_arith rfl rfl rfl rfl rfl rfl rfl ?_) | ((with_reducible refine g_assign ?_); first | refine lx_assign (r := (.t _)) rfl rfl rfl rfl rfl ?_) | ((with_reducible refine g_pick ?_); first | refine lx_pickT (r := (.t _)) rfl rfl rfl rfl rfl rfl ?_ | refine lx_pickF (r := (.t _)) rfl rfl rfl rfl rfl rfl ?_) | ((with_reducible refine g_store ?_); first | refine lx_store_var (r := (.t _)) rfl rfl rfl rfl rfl rfl rfl rfl rfl rfl ?_) | ((with_reducible refine g_nilCheck ?_); first | refine lx_nilCheck (r := (.ref _ _ _ _)) rfl rfl rfl rfl rfl rfl ?_) | ((with_reducible refine g_slice ?_); first | refine lx_slice_str rfl rfl rfl ⟨_, rfl⟩ rfl rfl rfl ?_ ?_ ?_ ?_ | refine lx_slice_str rfl rfl ⟨_, rfl⟩ rfl rfl rfl rfl ?_ ?_ ?_ ?_) | ((with_reducible refine g_len ?_); first | refine lx_len_str rfl rfl rfl rfl rfl ?_) | refine c_condP rfl (fun hc => ?_) (fun hc => ?_) | refine c_condB rfl (fun hc => ?_) (fun hc => ?_) | refine lx_splitP rfl (fun hc => ?_) (fun hc => ?_))
    all_goals try (exfalso; omega)
    all_goals exact q_ret (resT_oneE rfl rfl rfl) (stHas_spec ⟨rfl, trivial⟩)
  · cases bad with
    | true =>
      have e : Rs.take ⟨s, true⟩ n = (eS, ⟨s, true⟩) := by
        unfold Rs.take; rw [if_pos (.inl rfl)]
      rw [e]
      refine spec_intro (env0 := [(0, _), (1, _)]) (st0 := [(_, some _)]) Tryd.func65 rfl rfl rfl rfl ?_
      repeat' (first | (with_reducible refine codeT_seq ?_) | (with_reducible refine codeT_skip ?_) | (with_reducible refine codeT_ret ?_) | (with_reducible refine codeT_regionL ?_) | (with_reducible refine lx_nil ?_) | (with_reducible refine q_then ?_) | (with_reducible refine q_then_ret ?_) | refine c_condT rfl ?_ | ((with_reducible refine g_guard ?_); first | refine lx_skip rfl rfl rfl ?_) | ((with_reducible refine g_move ?_); first | refine lx_move (r := (.t _)) rfl rfl rfl rfl rfl ?_ | refine lx_move (r := (.ref _ _ _ _)) rfl rfl rfl rfl rfl ?_) | ((with_reducible refine g_load ?_); first | refine lx_load_var rfl rfl rfl rfl rfl rfl rfl rfl ?_) | ((with_reducible refine g_fieldAddr ?_); first | refine lx_fieldAddr rfl rfl rfl rfl rfl rfl rfl ?_) | ((with_reducible refine g_binOp ?_); first | refine lx_arith rfl rfl rfl rfl rfl rfl rfl ?_) | ((with_reducible refine g_assign ?_); first | refine lx_assign (r := (.t _)) rfl rfl rfl rfl rfl ?_) | ((with_reducible refine g_pick ?_); first | refine lx_pickT (r := (.t _)) rfl rfl rfl rfl rfl rfl ?_ | refine lx_pickF (r := (.t _)) rfl rfl rfl rfl rfl rfl ?_) | ((with_reducible refine g_store ?_); first | refine lx_store_var (r := (.t _)) rfl rfl rfl rfl rfl rfl rfl rfl rfl rfl ?_) | ((with_reducible refine g_nilCheck ?_); first | refine lx_nilCheck (r := (.ref _ _ _ _)) rfl rfl rfl rfl rfl rfl ?_) | ((with_reducible refine g_len ?_); first | refine lx_len_str rfl rfl rfl rfl rfl ?_) | refine c_condP rfl (fun hc => ?_) (fun hc => ?_) | refine lx_splitP rfl (fun hc => ?_) (fun hc => ?_))
      all_goals try (exfalso; omega)
      all_goals exact q_ret (resT_oneE rfl rfl rfl) (stHas_spec ⟨rfl, trivial⟩)
    | false =>
      have e : Rs.take ⟨s, false⟩ n = (s.extract 0 n.toNat, ⟨s.extract n.toNat s.size, false⟩) := by
        unfold Rs.take; rw [if_neg (by simp only [Bool.false_eq_true, false_or]; exact hb)]
      rw [e]
      refine spec_intro (env0 := [(0, _), (1, _)]) (st0 := [(_, some _)]) Tryd.func65 rfl rfl rfl rfl ?_
      repeat' (first | (with_reducible refine codeT_seq ?_) | (with_reducible refine codeT_skip ?_) | (with_reducible refine codeT_ret ?_) | (with_reducible refine codeT_regionL ?_) | (with_reducible refine lx_nil ?_) | (with_reducible refine q_then ?_) | (with_reducible refine q_then_ret ?_) | refine c_condT rfl ?_ | refine c_condF rfl ?_ | ((with_reducible refine g_guard ?_); first | refine lx_skip rfl rfl rfl ?_) | ((with_reducible refine g_move ?_); first | refine lx_move (r := (.t _)) rfl rfl rfl rfl rfl ?_ | refine lx_move (r := (.ref _ _ _ _)) rfl rfl rfl rfl rfl ?_) | ((with_reducible refine g_load ?_); first | refine lx_load_var rfl rfl rfl rfl rfl rfl rfl rfl ?_) | ((with_reducible refine g_fieldAddr ?_); first | refine lx_fieldAddr rfl rfl rfl rfl rfl rfl rfl ?_) | ((with_reducible refine g_binOp ?_); first | refine lx_arith rfl rfl rfl rfl rfl rfl rfl ?_) | ((with_reducible refine g_assign ?_); first | refine lx_assign (r := (.t _)) rfl rfl rfl rfl rfl ?_) | ((with_reducible refine g_pick ?_); first | refine lx_pickT (r := (.t _)) rfl rfl rfl rfl rfl rfl ?_ | refine lx_pickF (r := (.t _)) rfl rfl rfl rfl rfl rfl ?_) | ((with_reducible refine g_store ?_); first | refine lx_store_var (r := (.t _)) rfl rfl rfl rfl rfl rfl rfl rfl rfl rfl ?_) | ((with_reducible refine g_nilCheck ?_); first | refine lx_nilCheck (r := (.ref _ _ _ _)) rfl rfl rfl rfl rfl rfl ?_) | ((with_reducible refine g_slice ?_); first | refine lx_slice_str rfl rfl rfl ⟨_, rfl⟩ rfl rfl rfl ?_ ?_ ?_ ?_ | refine lx_slice_str rfl rfl ⟨_, rfl⟩ rfl rfl rfl rfl ?_ ?_ ?_ ?_) | ((with_reducible refine g_len ?_); first | refine lx_len_str rfl rfl rfl rfl rfl ?_) | refine c_condP rfl (fun hc => ?_) (fun hc => ?_) | refine lx_splitP rfl (fun hc => ?_) (fun hc => ?_))
      all_goals try (exfalso; omega)
      all_goals try omega
      exact q_ret (resT_oneE rfl rfl rfl) (stHas_spec ⟨rfl, trivial⟩)

theorem take_size (r : Rs) (n : Int) : (r.take n).2.s.size ≤ r.s.size ∧ (r.take n).1.size ≤ r.s.size := by
  unfold Rs.take
  split
  · exact ⟨Nat.le_refl _, Nat.zero_le _⟩
  · simp only [ByteArray.size_extract]; omega
theorem take_size2 {r : Rs} {n : Int} (h : (r.take n).1 ≠ eS) : ((r.take n).1.size : Int) = n := by
  unfold Rs.take at h ⊢
  split at h
  · exact absurd rfl h
  · rename_i hn
    rw [if_neg hn]
    simp only [not_or, Bool.not_eq_true, Int.not_lt] at hn
    simp only [ByteArray.size_extract]; omega
set_option maxHeartbeats 2000000 in
theorem Byte_spec (ty : TypeId) (r : Rs) (hs : r.s.size ≤ 1000000000) : Spec Tryd.prog 62 [.ref (.par 0) 0 0 0] [(.par 0, r.row ty)] (.t (.int .u8 r.byte.1)) [(.par 0, r.byte.2.row ty)] := by
  have hT := Take_spec ty r 1 hs
  have h1 := take_size2 (r := r) (n := 1)
  unfold Rs.byte
  generalize r.take 1 = p at hT h1 ⊢
  obtain ⟨a, q⟩ := p
  simp only at hT h1 ⊢
  obtain ⟨qs, qb⟩ := q
  obtain ⟨s, bad⟩ := r
  unfold Rs.row at hT ⊢
  simp only at hT hs ⊢
  refine spec_intro (env0 := [(0, _)]) (st0 := [(_, some _)]) Tryd.func62 rfl rfl rfl rfl ?_
  repeat' (first | (with_reducible refine codeT_seq ?_) | (with_reducible refine codeT_skip ?_) | (with_reducible refine codeT_ret ?_) | (with_reducible refine codeT_regionL ?_) | (with_reducible refine lx_nil ?_) | (with_reducible refine q_then ?_) | (with_reducible refine q_then_ret ?_) | ((with_reducible refine g_move ?_); first | refine lx_move (r := (.t _)) rfl rfl rfl rfl rfl ?_ | refine lx_move (r := (.ref _ _ _ _)) rfl rfl rfl rfl rfl ?_) | ((with_reducible refine g_binOp ?_); first | refine lx_str_ne rfl rfl rfl rfl rfl rfl ?_) | ((with_reducible refine g_assign ?_); first | refine lx_assign (r := (.t _)) rfl rfl rfl rfl rfl ?_) | ((with_reducible refine g_index ?_); first | refine lx_index_str rfl rfl rfl rfl rfl rfl ?_ ?_ ?_) | ((with_reducible refine g_call ?_); first | refine lx_call (r' := .t (.str a)) [] rfl rfl hT (ArgsLE.refl _) rfl ⟨rfl, trivial⟩ rfl rfl rfl rfl rfl rfl rfl rfl rfl rfl ?_) | refine c_condN rfl (fun hc => ?_) (fun hc => ?_))
  · exact q_ret (resT_oneE rfl rfl (congrArg (T.int .u8) (by rw [if_pos (show a = eS from hc)]))) (stHas_spec ⟨rfl, trivial⟩)
  · omega
  · have := h1 (show a ≠ eS from hc); omega
  · exact q_ret (resT_oneE rfl rfl (congrArg (T.int .u8) (by rw [if_neg (show ¬ a = eS from hc)]))) (stHas_spec ⟨rfl, trivial⟩)
end Go.AL

/- What cbor.reader's head and name answer. -/
set_option linter.unusedVariables false
namespace Go.AL
open Go Go.Proofs Go.RowKit

end Go.AL

/- What cbor.reader's items answers, given what node answers. -/
set_option linter.unusedVariables false
namespace Go.AL
open Go Go.Proofs Go.RowKit

end Go.AL

/- What cbor.reader's node answers. -/
set_option linter.unusedVariables false
namespace Go.AL
open Go Go.Proofs Go.RowKit

end Go.AL

/- What parse.Finish answers, given what the encoding answers, and what cbor.Decode answers. -/
set_option linter.unusedVariables false
namespace Go.AL
open Go Go.Proofs Go.RowKit

end Go.AL

/- What the document's Same answers. -/
set_option linter.unusedVariables false
namespace Go.AL
open Go Go.Proofs Go.RowKit

theorem drop_getD {α : Type} [Inhabited α] (l : List α) (j : Nat) (h : j < l.length) : l.drop j = l.getD j default :: l.drop (j + 1) := by
  rw [List.drop_eq_getElem_cons h]; simp [List.getD_eq_getElem?_getD, h]
set_option maxHeartbeats 8000000 in
theorem rSame_spec (x : Nd) (hx : x.Ok) : ∀ y : Nd, Spec Tryd.prog 18 [.t x.toT, .t y.toT] [] (.t (.bool (x.same y))) [] := by
  induction hx with
  | @mk k b n t ns is h1 h2 h3 ih =>
  intro y
  cases y with
  | mk k' b' n' t' ns' is' =>
  generalize hres : (Nd.mk k b n t ns is).same (Nd.mk k' b' n' t' ns' is') = res
  rw [Nd.same] at hres
  rw [Nd.toT_eq, Nd.toT_eq]
  by_cases hA : k = k' ∧ b = b' ∧ n = n' ∧ t = t' ∧ ns.length = ns'.length ∧ is.length = is'.length
  · obtain ⟨rfl, rfl, rfl, rfl, hn, hi⟩ := hA
    simp only [decide_true, Bool.true_and] at hres
    refine spec_intro (env0 := [(0, _), (1, _)]) (st0 := []) Tryd.func18 rfl rfl rfl rfl ?_
    repeat' (first | (with_reducible refine codeT_seq ?_) | (with_reducible refine codeT_block ?_) | (with_reducible refine codeT_skip ?_) | (with_reducible refine codeT_ret ?_) | (with_reducible refine codeT_regionL ?_) | (with_reducible refine lx_nil ?_) | (with_reducible refine q_then ?_) | (with_reducible refine q_then_ret ?_) | refine c_condT rfl ?_ | ((with_reducible refine g_guard ?_); first | refine lx_skip rfl rfl rfl ?_) | ((with_reducible refine g_move ?_); first | refine lx_move (r := (.t _)) rfl rfl rfl rfl rfl ?_) | ((with_reducible refine g_load ?_); first | refine lx_load_var rfl rfl rfl rfl rfl rfl rfl rfl ?_) | ((with_reducible refine g_fieldAddr ?_); first | refine lx_fieldAddr rfl rfl rfl rfl rfl rfl rfl ?_) | ((with_reducible refine g_binOp ?_); first | refine lx_arith rfl rfl rfl rfl rfl rfl rfl ?_ | refine lx_str_ne rfl rfl rfl rfl rfl rfl ?_ | refine lx_bool_ne rfl rfl rfl rfl rfl rfl ?_) | ((with_reducible refine g_assign ?_); first | refine lx_assign (r := (.t _)) rfl rfl rfl rfl rfl ?_) | ((with_reducible refine g_pick ?_); first | refine lx_pickT (r := (.t _)) rfl rfl rfl rfl rfl rfl ?_ | refine lx_pickF (r := (.t _)) rfl rfl rfl rfl rfl rfl ?_) | ((with_reducible refine g_box ?_); first | refine lx_box (r := (.t (.agg _))) (cs := (List.map .t _)) rfl rfl rfl rfl rfl rfl rfl rfl rfl ?_) | ((with_reducible refine g_len ?_); first | refine lx_len_map rfl rfl rfl rfl rfl ?_) | refine c_condN rfl (fun hc => ?_) (fun hc => ?_) | refine lx_splitN rfl (fun hc => ?_) (fun hc => ?_))
    all_goals try (exact absurd rfl hc)
    all_goals try (exact absurd (congrArg (fun n : Nat => (n : Int)) hn) hc)
    all_goals try (exact absurd (congrArg (fun n : Nat => (n : Int)) hi) hc)
    refine codeT_ghost (ghost_keep2 [2, 3, 54, 55, 56] [.loc 2, .loc 3] rfl rfl) ?_
    refine codeT_loop (fun m env st => ∃ (j : Nat), j ≤ ns.length ∧ m = ns.length - j ∧ res = (decide (ns.drop j = ns'.drop j) && Nd.sames is is') ∧
        env = EnvL.get [(2, .ref (.loc 2) 0 0 0), (3, .ref (.loc 3) 0 0 0), (54, .t (.sl 1 (ns.map .str))), (55, .t (.int .i64 ns.length)), (56, .t (.int .i64 (j : Int)))] ∧
        st = StO.get [(.loc 2, some (.var 26 [.t (.int .i64 k), .t (.bool b), .t (.int .i64 n), .t (.str t), .t (.sl 1 (ns.map .str)), .t (.sl 6 (is.map Nd.toT))])), (.loc 3, some (.var 26 [.t (.int .i64 k), .t (.bool b), .t (.int .i64 n), .t (.str t), .t (.sl 1 (ns'.map .str)), .t (.sl 6 (is'.map Nd.toT))]))])
      ?_ (n := ns.length) ⟨0, by omega, by omega, hres.symm, rfl, rfl⟩
    rintro m env st ⟨j, hj, rfl, hr, rfl, rfl⟩
    by_cases hlt : j < ns.length
    · have e1 := drop_getD ns j hlt
      have e2 := drop_getD ns' j (by omega)
      rw [e1, e2] at hr
      repeat' (first | (with_reducible refine codeT_seq ?_) | (with_reducible refine codeT_block ?_) | (with_reducible refine codeT_skip ?_) | (with_reducible refine codeT_ret ?_) | (with_reducible refine codeT_exit ?_) | (with_reducible refine codeT_regionL ?_) | (with_reducible refine lx_nil ?_) | (with_reducible refine q_then ?_) | (with_reducible refine q_then_exit ?_) | (with_reducible refine q_then_ret ?_) | (with_reducible refine q_block ?_) | (with_reducible refine q_block_ret ?_) | ((with_reducible refine q_block_same ?_ ?_); · rfl) | (with_reducible refine q_loop_exit ?_) | (with_reducible refine q_loop_ret ?_) | ((with_reducible refine g_move ?_); first | refine lx_move (r := (.t _)) rfl rfl rfl rfl rfl ?_) | ((with_reducible refine g_load ?_); first | refine lx_load_var rfl rfl rfl rfl rfl rfl rfl rfl ?_ | refine lx_load_tp rfl rfl rfl rfl rfl rfl rfl ?_) | ((with_reducible refine g_fieldAddr ?_); first | refine lx_fieldAddr rfl rfl rfl rfl rfl rfl rfl ?_) | ((with_reducible refine g_binOp ?_); first | refine lx_arith rfl rfl rfl rfl rfl rfl rfl ?_ | refine lx_str_ne rfl rfl rfl rfl rfl rfl ?_) | ((with_reducible refine g_assign ?_); first | refine lx_assign (r := (.t _)) rfl rfl rfl rfl rfl ?_) | ((with_reducible refine g_indexAddr ?_); first | refine lx_indexAddr_map rfl rfl rfl rfl rfl rfl ?_ ?_ ?_) | ((with_reducible refine g_len ?_); first | refine lx_len_map rfl rfl rfl rfl rfl ?_) | refine c_condP rfl (fun hc => ?_) (fun hc => ?_) | refine c_condN rfl (fun hc => ?_) (fun hc => ?_))
      all_goals try omega
      all_goals try (exfalso; omega)
      · have hc' : ns'.getD j default = ns.getD j default := hc
        refine q_loop (n' := ns.length - (j + 1)) (by omega) (ghost_keep2 [2, 3, 54, 55, 56] [.loc 2, .loc 3] rfl rfl) ⟨j + 1, by omega, rfl, ?_, ?_, rfl⟩
        · rw [hr, hc']; simp
        · rw [wrap64 (by omega) (by omega)]; rfl
      · have hc' : ¬ ns'.getD j default = ns.getD j default := hc
        have hf : res = false := by
          rw [hr]
          simp only [List.cons.injEq, decide_eq_false (fun h : ns.getD j default = ns'.getD j default ∧ _ => hc' h.1.symm), Bool.false_and]
        rw [hf]
        exact q_ret (resT_oneE rfl rfl rfl) (by simp)
    · have hje : j = ns.length := by omega
      subst hje
      replace hr : res = Nd.sames is is' := by rw [hr, List.drop_length, hn, List.drop_length]; simp
      repeat' (first | (with_reducible refine codeT_seq ?_) | (with_reducible refine codeT_block ?_) | (with_reducible refine codeT_skip ?_) | (with_reducible refine codeT_ret ?_) | (with_reducible refine codeT_exit ?_) | (with_reducible refine codeT_regionL ?_) | (with_reducible refine lx_nil ?_) | (with_reducible refine q_then ?_) | (with_reducible refine q_then_exit ?_) | (with_reducible refine q_then_ret ?_) | (with_reducible refine q_block ?_) | (with_reducible refine q_block_ret ?_) | ((with_reducible refine q_block_same ?_ ?_); · rfl) | (with_reducible refine q_loop_exit ?_) | (with_reducible refine q_loop_ret ?_) | ((with_reducible refine g_move ?_); first | refine lx_move (r := (.t _)) rfl rfl rfl rfl rfl ?_) | ((with_reducible refine g_load ?_); first | refine lx_load_var rfl rfl rfl rfl rfl rfl rfl rfl ?_ | refine lx_load_tp rfl rfl rfl rfl rfl rfl rfl ?_) | ((with_reducible refine g_fieldAddr ?_); first | refine lx_fieldAddr rfl rfl rfl rfl rfl rfl rfl ?_) | ((with_reducible refine g_binOp ?_); first | refine lx_arith rfl rfl rfl rfl rfl rfl rfl ?_ | refine lx_str_ne rfl rfl rfl rfl rfl rfl ?_) | ((with_reducible refine g_assign ?_); first | refine lx_assign (r := (.t _)) rfl rfl rfl rfl rfl ?_) | ((with_reducible refine g_indexAddr ?_); first | refine lx_indexAddr_map rfl rfl rfl rfl rfl rfl ?_ ?_ ?_) | ((with_reducible refine g_len ?_); first | refine lx_len_map rfl rfl rfl rfl rfl ?_) | refine c_condP rfl (fun hc => ?_) (fun hc => ?_) | refine c_condN rfl (fun hc => ?_) (fun hc => ?_))
      all_goals try (exfalso; omega)
      refine codeT_ghost (ghost_keep2 [2, 3, 70, 71, 72] [.loc 2, .loc 3] rfl rfl) ?_
      refine codeT_loop (fun m env st => ∃ (j : Nat), j ≤ is.length ∧ m = is.length - j ∧ res = Nd.sames (is.drop j) (is'.drop j) ∧
          env = EnvL.get [(2, .ref (.loc 2) 0 0 0), (3, .ref (.loc 3) 0 0 0), (70, .t (.sl 6 (is.map Nd.toT))), (71, .t (.int .i64 is.length)), (72, .t (.int .i64 (j : Int)))] ∧
          st = StO.get [(.loc 2, some (.var 26 [.t (.int .i64 k), .t (.bool b), .t (.int .i64 n), .t (.str t), .t (.sl 1 (ns.map .str)), .t (.sl 6 (is.map Nd.toT))])), (.loc 3, some (.var 26 [.t (.int .i64 k), .t (.bool b), .t (.int .i64 n), .t (.str t), .t (.sl 1 (ns'.map .str)), .t (.sl 6 (is'.map Nd.toT))]))])
        ?_ (n := is.length) ⟨0, by omega, by omega, hr, rfl, rfl⟩
      clear hr hres
      rintro m env st ⟨j, hj, rfl, hr, rfl, rfl⟩
      by_cases hlt : j < is.length
      · have e1 := drop_getD is j hlt
        have e2 := drop_getD is' j (by omega)
        rw [e1, e2, Nd.sames] at hr
        have hm : is.getD (j : Int).toNat default ∈ is := by
          show is.getD j default ∈ is
          rw [List.getD_eq_getElem?_getD, List.getElem?_eq_getElem hlt]; exact List.getElem_mem _
        have hS : Spec Tryd.prog 18 [.t (is.getD (j : Int).toNat default).toT, .t (is'.getD (j : Int).toNat default).toT] [] (.t (.bool ((is.getD j default).same (is'.getD j default)))) [] := ih _ hm _
        generalize (is.getD j default).same (is'.getD j default) = v at hS hr
        have eX := (is.getD (j : Int).toNat default).toT_full
        have eY := (is'.getD (j : Int).toNat default).toT_full
        rw [eX, eY] at hS
        cases v with
        | false =>
          rw [Bool.false_and] at hr
          subst hr
          repeat' (first | (with_reducible refine codeT_seq ?_) | (with_reducible refine codeT_block ?_) | (with_reducible refine codeT_skip ?_) | (with_reducible refine codeT_ret ?_) | (with_reducible refine codeT_exit ?_) | (with_reducible refine codeT_regionL ?_) | ((with_reducible refine codeT_region_drawL ?_ ?_); · rfl) | (with_reducible refine lx_nil ?_) | (with_reducible refine q_then ?_) | (with_reducible refine q_then_exit ?_) | (with_reducible refine q_then_ret ?_) | (with_reducible refine q_block_ret ?_) | ((with_reducible refine q_block_same ?_ ?_); · rfl) | (with_reducible refine q_loop_exit ?_) | (with_reducible refine q_loop_ret ?_) | ((with_reducible refine q_region_draw ?_ ?_); · rfl) | refine c_condT rfl ?_ | refine lx_load_tpAE rfl rfl eX rfl rfl rfl rfl rfl rfl ?_ | refine lx_load_tpAE rfl rfl eY rfl rfl rfl rfl rfl rfl ?_ | ((with_reducible refine g_move ?_); first | refine lx_move (r := (.t _)) rfl rfl rfl rfl rfl ?_) | ((with_reducible refine g_load ?_); first | refine lx_load_var rfl rfl rfl rfl rfl rfl rfl rfl ?_ | refine lx_load_varA (r := (.t (.agg _))) rfl rfl rfl rfl rfl rfl rfl rfl rfl ?_) | ((with_reducible refine g_fieldAddr ?_); first | refine lx_fieldAddr rfl rfl rfl rfl rfl rfl rfl ?_) | ((with_reducible refine g_binOp ?_); first | refine lx_arith rfl rfl rfl rfl rfl rfl rfl ?_) | ((with_reducible refine g_assign ?_); first | refine lx_assign (r := (.t _)) rfl rfl rfl rfl rfl ?_) | ((with_reducible refine g_alloc ?_); first | refine lx_alloc rfl rfl rfl rfl rfl rfl rfl ?_) | ((with_reducible refine g_store ?_); first | refine lx_store_var (r := (.t (.agg _))) rfl rfl rfl rfl rfl rfl rfl rfl rfl rfl ?_) | ((with_reducible refine g_indexAddr ?_); first | refine lx_indexAddr_map rfl rfl rfl rfl rfl rfl ?_ ?_ ?_) | ((with_reducible refine g_unOp ?_); first | refine lx_not rfl rfl rfl rfl rfl ?_) | ((with_reducible refine g_call ?_); first | refine lx_callT rfl rfl hS rfl rfl (ArgsLE.refl _) rfl rfl rfl rfl rfl ?_) | refine c_condP rfl (fun hc => ?_) (fun hc => ?_))
          all_goals try omega
          all_goals try (exfalso; omega)
          exact q_ret (resT_oneE rfl rfl rfl) (by simp)
        | true =>
          rw [Bool.true_and] at hr
          repeat' (first | (with_reducible refine codeT_seq ?_) | (with_reducible refine codeT_block ?_) | (with_reducible refine codeT_skip ?_) | (with_reducible refine codeT_ret ?_) | (with_reducible refine codeT_exit ?_) | (with_reducible refine codeT_regionL ?_) | ((with_reducible refine codeT_region_drawL ?_ ?_); · rfl) | (with_reducible refine lx_nil ?_) | (with_reducible refine q_then ?_) | (with_reducible refine q_then_exit ?_) | (with_reducible refine q_block ?_) | ((with_reducible refine q_block_same ?_ ?_); · rfl) | (with_reducible refine q_loop_exit ?_) | ((with_reducible refine q_region_draw ?_ ?_); · rfl) | refine c_condF rfl ?_ | refine lx_load_tpAE rfl rfl eX rfl rfl rfl rfl rfl rfl ?_ | refine lx_load_tpAE rfl rfl eY rfl rfl rfl rfl rfl rfl ?_ | ((with_reducible refine g_move ?_); first | refine lx_move (r := (.t _)) rfl rfl rfl rfl rfl ?_) | ((with_reducible refine g_load ?_); first | refine lx_load_var rfl rfl rfl rfl rfl rfl rfl rfl ?_ | refine lx_load_varA (r := (.t (.agg _))) rfl rfl rfl rfl rfl rfl rfl rfl rfl ?_) | ((with_reducible refine g_fieldAddr ?_); first | refine lx_fieldAddr rfl rfl rfl rfl rfl rfl rfl ?_) | ((with_reducible refine g_binOp ?_); first | refine lx_arith rfl rfl rfl rfl rfl rfl rfl ?_) | ((with_reducible refine g_assign ?_); first | refine lx_assign (r := (.t _)) rfl rfl rfl rfl rfl ?_) | ((with_reducible refine g_alloc ?_); first | refine lx_alloc rfl rfl rfl rfl rfl rfl rfl ?_) | ((with_reducible refine g_store ?_); first | refine lx_store_var (r := (.t (.agg _))) rfl rfl rfl rfl rfl rfl rfl rfl rfl rfl ?_) | ((with_reducible refine g_indexAddr ?_); first | refine lx_indexAddr_map rfl rfl rfl rfl rfl rfl ?_ ?_ ?_) | ((with_reducible refine g_unOp ?_); first | refine lx_not rfl rfl rfl rfl rfl ?_) | ((with_reducible refine g_call ?_); first | refine lx_callT rfl rfl hS rfl rfl (ArgsLE.refl _) rfl rfl rfl rfl rfl ?_) | refine c_condP rfl (fun hc => ?_) (fun hc => ?_))
          all_goals try omega
          all_goals try (exfalso; omega)
          refine q_loop (n' := is.length - (j + 1)) (by omega) (ghost_keep2 [2, 3, 70, 71, 72] [.loc 2, .loc 3] rfl rfl) ⟨j + 1, by omega, rfl, hr, ?_, rfl⟩
          rw [wrap64 (by omega) (by omega)]; rfl
      · have hje : j = is.length := by omega
        subst hje
        replace hr : res = true := by rw [hr, List.drop_length, hi, List.drop_length]; rfl
        subst hr
        repeat' (first | (with_reducible refine codeT_seq ?_) | (with_reducible refine codeT_block ?_) | (with_reducible refine codeT_skip ?_) | (with_reducible refine codeT_ret ?_) | (with_reducible refine codeT_exit ?_) | (with_reducible refine codeT_regionL ?_) | (with_reducible refine lx_nil ?_) | (with_reducible refine q_then ?_) | (with_reducible refine q_then_exit ?_) | ((with_reducible refine q_block_same ?_ ?_); · rfl) | (with_reducible refine q_loop_exit ?_) | ((with_reducible refine g_move ?_); first | refine lx_move (r := (.t _)) rfl rfl rfl rfl rfl ?_) | ((with_reducible refine g_binOp ?_); first | refine lx_arith rfl rfl rfl rfl rfl rfl rfl ?_) | ((with_reducible refine g_assign ?_); first | refine lx_assign (r := (.t _)) rfl rfl rfl rfl rfl ?_) | ((with_reducible refine g_indexAddr ?_); first | refine lx_indexAddr_map rfl rfl rfl rfl rfl rfl ?_ ?_ ?_) | refine c_condP rfl (fun hc => ?_) (fun hc => ?_))
        all_goals try (exfalso; omega)
        exact q_ret (resT_oneE rfl rfl rfl) (by simp)
  · have hf : res = false := by
      cases res with
      | false => rfl
      | true =>
        simp only [Bool.and_eq_true, decide_eq_true_eq] at hres
        obtain ⟨⟨⟨⟨⟨a1, a2⟩, a3⟩, a4⟩, a5⟩, a6⟩ := hres
        have a6 := (Nd.sames_iff is is').1 a6
        exact absurd ⟨a1, a2, a3, a4, by rw [a5], by rw [a6]⟩ hA
    subst hf
    refine spec_intro (env0 := [(0, _), (1, _)]) (st0 := []) Tryd.func18 rfl rfl rfl rfl ?_
    repeat' (first | (with_reducible refine codeT_seq ?_) | (with_reducible refine codeT_block ?_) | (with_reducible refine codeT_skip ?_) | (with_reducible refine codeT_ret ?_) | (with_reducible refine codeT_regionL ?_) | (with_reducible refine lx_nil ?_) | (with_reducible refine q_then ?_) | (with_reducible refine q_then_ret ?_) | refine c_condT rfl ?_ | ((with_reducible refine g_guard ?_); first | refine lx_skip rfl rfl rfl ?_) | ((with_reducible refine g_move ?_); first | refine lx_move (r := (.t _)) rfl rfl rfl rfl rfl ?_) | ((with_reducible refine g_load ?_); first | refine lx_load_var rfl rfl rfl rfl rfl rfl rfl rfl ?_) | ((with_reducible refine g_fieldAddr ?_); first | refine lx_fieldAddr rfl rfl rfl rfl rfl rfl rfl ?_) | ((with_reducible refine g_binOp ?_); first | refine lx_arith rfl rfl rfl rfl rfl rfl rfl ?_ | refine lx_str_ne rfl rfl rfl rfl rfl rfl ?_ | refine lx_bool_ne rfl rfl rfl rfl rfl rfl ?_) | ((with_reducible refine g_assign ?_); first | refine lx_assign (r := (.t _)) rfl rfl rfl rfl rfl ?_) | ((with_reducible refine g_pick ?_); first | refine lx_pickT (r := (.t _)) rfl rfl rfl rfl rfl rfl ?_ | refine lx_pickF (r := (.t _)) rfl rfl rfl rfl rfl rfl ?_) | ((with_reducible refine g_box ?_); first | refine lx_box (r := (.t (.agg _))) (cs := (List.map .t _)) rfl rfl rfl rfl rfl rfl rfl rfl rfl ?_) | ((with_reducible refine g_len ?_); first | refine lx_len_map rfl rfl rfl rfl rfl ?_) | refine c_condN rfl (fun hc => ?_) (fun hc => ?_) | refine lx_splitN rfl (fun hc => ?_) (fun hc => ?_))
    · exact absurd ⟨‹k = k'›, ‹b = b'›, ‹n = n'›, ‹t = t'›, by omega, by omega⟩ hA
    all_goals exact q_ret (resT_oneE rfl rfl rfl) (by simp)
end Go.AL

/- That the law CborOnce is true, as a contract. -/
set_option linter.unusedVariables false
namespace Go.AL
open Go Go.Proofs Go.RowKit

theorem strT_len (l : List T) : (strT l).size = l.length := by
  unfold strT strOfNums
  rw [ByteArray.size, List.size_toArray, List.length_map, List.length_map]
theorem spoil_size (s : ByteArray) (a b : Int) : (spoil s a b).size = s.size := by
  unfold spoil
  split
  · rfl
  · rw [strT_len, List.length_set, bytesT, List.length_map]; exact toList_len s
end Go.AL
