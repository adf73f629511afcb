/- What node.Valid, node.Text, node.Number, node.List and node.Map answer. -/
import Derived.Test.YtjhhjkkacbcmjaaDoorNod2
import Derived.Test.YtjhhjkkacbcmjaaDoorTy
import Derived.Test.YtjhhjkkacbcmjaaDoorNod1
import Derived.Test.YtjhhjkkacbcmjaaDoorAl3
set_option linter.unusedVariables false
namespace Go.AL
open Go Go.Proofs Go.RowKit

set_option maxHeartbeats 1000000 in
theorem Valid_spec {oF oA : Obj} {V : ByteArray → Bool} (hV : VSpec oF oA V) (x : Nd) (hx : x.Ok) : Spec Tryd.prog 16 [.t x.toT] [(.par 100, .dat (.fix 0 oF)), (.par 101, .dat (.fix 1 oA))] (.t (.bool (x.validB V 8))) [(.par 100, .dat (.fix 0 oF)), (.par 101, .dat (.fix 1 oA))] := by
  have h := valid_spec hV x hx 8 (by omega) (by omega)
  generalize x.validB V 8 = v at h ⊢
  cases x with
  | mk k b n t ns is =>
  rw [Nd.toT_eq] at *
  refine spec_intro (env0 := [(0, _)]) (st0 := [(_, some _), (_, some _)]) Tryd.func16 rfl rfl rfl rfl ?_
  repeat' (first | (with_reducible refine codeT_seq ?_) | (with_reducible refine codeT_ret ?_) | (with_reducible refine codeT_regionL ?_) | (with_reducible refine lx_nil ?_) | (with_reducible refine q_then ?_) | ((with_reducible refine g_load ?_); first | refine lx_load_varA (r := (.t (.agg _))) rfl rfl rfl rfl rfl rfl rfl rfl rfl ?_) | ((with_reducible refine g_assign ?_); first | refine lx_assign (r := (.t _)) rfl rfl rfl rfl rfl ?_) | ((with_reducible refine g_box ?_); first | refine lx_box (r := (.t (.agg _))) (cs := (List.map .t _)) rfl rfl rfl rfl rfl rfl rfl rfl rfl ?_) | ((with_reducible refine g_call ?_); first | refine lx_call (r' := .t (.bool v)) [] rfl rfl h (ArgsLE.refl _) rfl ⟨rfl, rfl, trivial⟩ rfl rfl rfl rfl rfl rfl rfl rfl rfl rfl ?_))
  exact q_ret (resT_oneE rfl rfl rfl) (stHas_spec ⟨rfl, rfl, trivial⟩)

set_option maxHeartbeats 1000000 in
theorem Text_spec (s : ByteArray) : Spec Tryd.prog 30 [.t (.str s)] [] (.t (Nd.mk 3 false 0 s [] []).toT) [] := by
  rw [Nd.toT_eq]
  refine spec_intro (env0 := [(0, _)]) (st0 := []) Tryd.func30 rfl rfl rfl rfl ?_
  repeat' (first | (with_reducible refine codeT_seq ?_) | (with_reducible refine codeT_ret ?_) | (with_reducible refine codeT_regionL ?_) | (with_reducible refine lx_nil ?_) | (with_reducible refine q_then ?_) | ((with_reducible refine g_move ?_); first | refine lx_move (r := (.t _)) rfl rfl rfl rfl rfl ?_) | ((with_reducible refine g_alloc ?_); first | refine lx_alloc rfl rfl rfl rfl rfl rfl rfl ?_) | ((with_reducible refine g_store ?_); first | refine lx_store_var (r := (.t (.agg _))) rfl rfl rfl rfl rfl rfl rfl rfl rfl rfl ?_) | ((with_reducible refine g_build ?_); first | refine lx_build (r := (.t (.agg _))) rfl rfl rfl rfl rfl rfl rfl ?_))
  exact q_ret (resT_cell rfl rfl rfl inferInstance rfl inferInstance rfl (TLe.av (by repeat first | exact TLe.refl _ | exact TLe.nil _ | exact TLe.esl _ | refine TLe.agg ?_ | refine TLs.cons ?_ ?_ | exact TLs.nil))) (by simp)
set_option maxHeartbeats 1000000 in
theorem Number_spec (n : Int) : Spec Tryd.prog 31 [.t (.int .i64 n)] [] (.t (Nd.mk 2 false n eS [] []).toT) [] := by
  rw [Nd.toT_eq]
  refine spec_intro (env0 := [(0, _)]) (st0 := []) Tryd.func31 rfl rfl rfl rfl ?_
  repeat' (first | (with_reducible refine codeT_seq ?_) | (with_reducible refine codeT_ret ?_) | (with_reducible refine codeT_regionL ?_) | (with_reducible refine lx_nil ?_) | (with_reducible refine q_then ?_) | ((with_reducible refine g_move ?_); first | refine lx_move (r := (.t _)) rfl rfl rfl rfl rfl ?_) | ((with_reducible refine g_alloc ?_); first | refine lx_alloc rfl rfl rfl rfl rfl rfl rfl ?_) | ((with_reducible refine g_store ?_); first | refine lx_store_var (r := (.t (.agg _))) rfl rfl rfl rfl rfl rfl rfl rfl rfl rfl ?_) | ((with_reducible refine g_build ?_); first | refine lx_build (r := (.t (.agg _))) rfl rfl rfl rfl rfl rfl rfl ?_))
  exact q_ret (resT_cell rfl rfl rfl inferInstance rfl inferInstance rfl (TLe.av (by repeat first | exact TLe.refl _ | exact TLe.nil _ | exact TLe.esl _ | refine TLe.agg ?_ | refine TLs.cons ?_ ?_ | exact TLs.nil))) (by simp)
set_option maxHeartbeats 1000000 in
theorem List_spec (is : List Nd) (h : (Nd.mk 4 false 0 eS [] is).Ok) : Spec Tryd.prog 15 [.t (.sl 6 (is.map Nd.toT))] [] (.t (Nd.mk 4 false 0 eS [] is).toT) [] := by
  have ho := own_spec _ h
  rw [Nd.toT_eq] at *
  refine spec_intro (env0 := [(0, _)]) (st0 := []) Tryd.func15 rfl rfl rfl rfl ?_
  repeat' (first | (with_reducible refine codeT_seq ?_) | (with_reducible refine codeT_ret ?_) | (with_reducible refine codeT_regionL ?_) | (with_reducible refine lx_nil ?_) | (with_reducible refine q_then ?_) | ((with_reducible refine g_move ?_); first | refine lx_move (r := (.t _)) rfl rfl rfl rfl rfl ?_) | ((with_reducible refine g_alloc ?_); first | refine lx_alloc rfl rfl rfl rfl rfl rfl rfl ?_) | ((with_reducible refine g_store ?_); first | refine lx_store_var (r := (.t (.agg _))) rfl rfl rfl rfl rfl rfl rfl rfl rfl rfl ?_) | ((with_reducible refine g_build ?_); first | refine lx_build (r := (.t (.agg _))) rfl rfl rfl rfl rfl rfl rfl ?_) | ((with_reducible refine g_call ?_); first | refine lx_callT rfl rfl ho rfl rfl (by repeat first | exact ArgsLE.nil | refine ArgsLE.cons (AVLE.refl _) ?_ | refine ArgsLE.t (by repeat first | exact TLe.refl _ | exact TLe.nil _ | exact TLe.esl _ | refine TLe.agg ?_ | refine TLs.cons ?_ ?_ | exact TLs.nil) ?_) rfl rfl rfl rfl rfl ?_))
  exact q_ret (resT_cell rfl rfl rfl inferInstance rfl inferInstance rfl (TLe.av (by repeat first | exact TLe.refl _ | exact TLe.nil _ | exact TLe.esl _ | refine TLe.agg ?_ | refine TLs.cons ?_ ?_ | exact TLs.nil))) (by simp)
set_option maxHeartbeats 1000000 in
theorem Map_spec (ns : List ByteArray) (is : List Nd) (h : (Nd.mk 5 false 0 eS ns is).Ok) : Spec Tryd.prog 49 [.t (.sl 1 (ns.map .str)), .t (.sl 6 (is.map Nd.toT))] [] (.t (Nd.mk 5 false 0 eS ns is).toT) [] := by
  have ho := own_spec _ h
  rw [Nd.toT_eq] at *
  refine spec_intro (env0 := [(0, _), (1, _)]) (st0 := []) Tryd.func49 rfl rfl rfl rfl ?_
  repeat' (first | (with_reducible refine codeT_seq ?_) | (with_reducible refine codeT_ret ?_) | (with_reducible refine codeT_regionL ?_) | (with_reducible refine lx_nil ?_) | (with_reducible refine q_then ?_) | ((with_reducible refine g_move ?_); first | refine lx_move (r := (.t _)) rfl rfl rfl rfl rfl ?_) | ((with_reducible refine g_alloc ?_); first | refine lx_alloc rfl rfl rfl rfl rfl rfl rfl ?_) | ((with_reducible refine g_store ?_); first | refine lx_store_var (r := (.t (.agg _))) rfl rfl rfl rfl rfl rfl rfl rfl rfl rfl ?_) | ((with_reducible refine g_build ?_); first | refine lx_build (r := (.t (.agg _))) rfl rfl rfl rfl rfl rfl rfl ?_) | ((with_reducible refine g_call ?_); first | refine lx_callT rfl rfl ho rfl rfl (by repeat first | exact ArgsLE.nil | refine ArgsLE.cons (AVLE.refl _) ?_ | refine ArgsLE.t (by repeat first | exact TLe.refl _ | exact TLe.nil _ | exact TLe.esl _ | refine TLe.agg ?_ | refine TLs.cons ?_ ?_ | exact TLs.nil) ?_) rfl rfl rfl rfl rfl ?_))
  exact q_ret (resT_cell rfl rfl rfl inferInstance rfl inferInstance rfl (TLe.av (by repeat first | exact TLe.refl _ | exact TLe.nil _ | exact TLe.esl _ | refine TLe.agg ?_ | refine TLs.cons ?_ ?_ | exact TLs.nil))) (by simp)
end Go.AL
/- What slices.Index and node.place answer. -/
set_option linter.unusedVariables false
namespace Go.AL
open Go Go.Proofs Go.RowKit

set_option maxHeartbeats 1000000 in
theorem index_spec (l : List ByteArray) (s : ByteArray) (h : l.length ≤ 8796093021952) : Spec Tryd.prog 75 [.t (.sl 1 (l.map .str)), .t (.str s)] [] (.t (.int .i64 (idxB s l 0))) [] := by
  refine spec_intro (env0 := [(0, _), (1, _)]) (st0 := []) Tryd.func75 rfl rfl rfl rfl ?_
  repeat' (first | (with_reducible refine codeT_seq ?_) | (with_reducible refine codeT_block ?_) | (with_reducible refine codeT_regionL ?_) | (with_reducible refine lx_nil ?_) | (with_reducible refine q_then ?_) | ((with_reducible refine g_move ?_); first | refine lx_move (r := (.t _)) rfl rfl rfl rfl rfl ?_) | ((with_reducible refine g_assign ?_); first | refine lx_assign (r := (.t _)) rfl rfl rfl rfl rfl ?_) | ((with_reducible refine g_len ?_); first | refine lx_len_map rfl rfl rfl rfl rfl ?_))
  refine codeT_ghost (ghost_keep2 [0, 1, 4, 7, 8] [] rfl rfl) ?_
  refine codeT_loop (fun m env st => ∃ (j : Nat), j ≤ l.length ∧ m = l.length - j ∧ idxB s l 0 = idxB s (l.drop j) j ∧
      env = EnvL.get [(0, .t (.sl 1 (l.map .str))), (1, .t (.str s)), (4, .t (.int .i64 0)), (7, .t (.int .i64 l.length)), (8, .t (.int .i64 (j : Int)))] ∧ st = StO.get [])
    ?_ (n := l.length) ⟨0, by omega, rfl, rfl, rfl, rfl⟩
  rintro m env st ⟨j, hj, rfl, hi, rfl, rfl⟩
  by_cases hlt : j < l.length
  · have hd : l.drop j = l[j] :: l.drop (j + 1) := List.drop_eq_getElem_cons hlt
    have hg : l.getD (j : Int).toNat default = l[j] := by simp [List.getD_eq_getElem?_getD, hlt]
    have hstep : idxB s (l.drop j) j = if s = l.getD (j : Int).toNat default then (j : Int) else idxB s (l.drop (j + 1)) (j + 1) := by rw [hd, hg]; rfl
    rw [hstep] at hi
    repeat' (first | (with_reducible refine codeT_seq ?_) | (with_reducible refine codeT_block ?_) | (with_reducible refine codeT_skip ?_) | (with_reducible refine codeT_ret ?_) | (with_reducible refine codeT_exit ?_) | (with_reducible refine codeT_regionL ?_) | (with_reducible refine lx_nil ?_) | (with_reducible refine q_then ?_) | (with_reducible refine q_then_exit ?_) | (with_reducible refine q_then_ret ?_) | (with_reducible refine q_block ?_) | (with_reducible refine q_block_ret ?_) | ((with_reducible refine q_block_same ?_ ?_); · rfl) | (with_reducible refine q_loop_exit ?_) | (with_reducible refine q_loop_ret ?_) | ((with_reducible refine g_move ?_); first | refine lx_move (r := (.t _)) rfl rfl rfl rfl rfl ?_) | ((with_reducible refine g_load ?_); first | refine lx_load_tp rfl rfl rfl rfl rfl rfl rfl ?_) | ((with_reducible refine g_binOp ?_); first | refine lx_arith rfl rfl rfl rfl rfl rfl rfl ?_ | refine lx_str_eq rfl rfl rfl rfl rfl rfl ?_) | ((with_reducible refine g_assign ?_); first | refine lx_assign (r := (.t _)) rfl rfl rfl rfl rfl ?_) | ((with_reducible refine g_indexAddr ?_); first | refine lx_indexAddr_map rfl rfl rfl rfl rfl rfl ?_ ?_ ?_) | refine c_condP rfl (fun hc => ?_) (fun hc => ?_))
    all_goals try omega
    · refine q_ret (resT_oneE rfl rfl ?_) (by simp)
      rw [hi, if_pos hc]
    · exact q_loop (n' := l.length - (j + 1)) (by omega) (ghost_keep2 [0, 1, 4, 7, 8] [] rfl rfl) ⟨j + 1, by omega, rfl, by rw [hi, if_neg hc]; rfl, by rw [wrap64 (by omega) (by omega)]; rfl, rfl⟩
  · repeat' (first | (with_reducible refine codeT_seq ?_) | (with_reducible refine codeT_block ?_) | (with_reducible refine codeT_skip ?_) | (with_reducible refine codeT_ret ?_) | (with_reducible refine codeT_exit ?_) | (with_reducible refine codeT_regionL ?_) | (with_reducible refine lx_nil ?_) | (with_reducible refine q_then ?_) | (with_reducible refine q_then_exit ?_) | (with_reducible refine q_then_ret ?_) | (with_reducible refine q_block ?_) | (with_reducible refine q_block_ret ?_) | ((with_reducible refine q_block_same ?_ ?_); · rfl) | (with_reducible refine q_loop_exit ?_) | (with_reducible refine q_loop_ret ?_) | ((with_reducible refine g_move ?_); first | refine lx_move (r := (.t _)) rfl rfl rfl rfl rfl ?_) | ((with_reducible refine g_load ?_); first | refine lx_load_tp rfl rfl rfl rfl rfl rfl rfl ?_) | ((with_reducible refine g_binOp ?_); first | refine lx_arith rfl rfl rfl rfl rfl rfl rfl ?_ | refine lx_str_eq rfl rfl rfl rfl rfl rfl ?_) | ((with_reducible refine g_assign ?_); first | refine lx_assign (r := (.t _)) rfl rfl rfl rfl rfl ?_) | ((with_reducible refine g_indexAddr ?_); first | refine lx_indexAddr_map rfl rfl rfl rfl rfl rfl ?_ ?_ ?_) | refine c_condP rfl (fun hc => ?_) (fun hc => ?_))
    all_goals try (exfalso; omega)
    refine q_ret (resT_oneE rfl rfl ?_) (by simp)
    have hd : l.drop j = [] := List.drop_eq_nil_of_le (by omega)
    rw [hi, hd]; rfl
theorem ite_min (a b : Nat) : (if (a : Int) < b then (a : Int) else b) = ((min b a : Nat) : Int) := by
  split <;> omega
theorem Nd.place_mk (k : Int) (b : Bool) (n : Int) (t : ByteArray) (ns : List ByteArray) (is : List Nd) (s : ByteArray) : (Nd.mk k b n t ns is).place s = if k = 5 then idxB s (ns.take (min ns.length is.length)) 0 else -1 := rfl
set_option maxHeartbeats 1000000 in
theorem place_spec (k : Int) (b : Bool) (n : Int) (t : ByteArray) (ns : List ByteArray) (is : List Nd) (h : ns.length ≤ 8796093021952) (s : ByteArray) : Spec Tryd.prog 52 [.t (.agg [.int .i64 k, .bool b, .int .i64 n, .str t, .sl 1 (ns.map .str), .sl 6 (is.map Nd.toT)]), .t (.str s)] [] (.t (.int .i64 ((Nd.mk k b n t ns is).place s))) [] := by
  have hi := index_spec (ns.take (min ns.length is.length)) s (by rw [List.length_take]; omega)
  rw [Nd.place_mk]
  generalize idxB s (ns.take (min ns.length is.length)) 0 = v at hi
  rw [show ((ns.take (min ns.length is.length)).map T.str) = ((ns.map T.str).take (if (is.length : Int) < ns.length then (is.length : Int) else ns.length).toNat).drop (Int.toNat 0) by rw [ite_min, List.map_take]; rfl] at hi
  refine spec_intro (env0 := [(0, _), (1, _)]) (st0 := []) Tryd.func52 rfl rfl rfl rfl ?_
  repeat' (first | (with_reducible refine codeT_seq ?_) | (with_reducible refine codeT_skip ?_) | (with_reducible refine codeT_ret ?_) | (with_reducible refine codeT_regionL ?_) | (with_reducible refine lx_nil ?_) | (with_reducible refine q_then ?_) | (with_reducible refine q_then_ret ?_) | ((with_reducible refine g_move ?_); first | refine lx_move (r := (.t _)) rfl rfl rfl rfl rfl ?_) | ((with_reducible refine g_load ?_); first | refine lx_load_var rfl rfl rfl rfl rfl rfl rfl rfl ?_) | ((with_reducible refine g_fieldAddr ?_); first | refine lx_fieldAddr rfl rfl rfl rfl rfl rfl rfl ?_) | ((with_reducible refine g_binOp ?_); first | refine lx_arith rfl rfl rfl rfl rfl rfl rfl ?_) | ((with_reducible refine g_assign ?_); first | refine lx_assign (r := (.t _)) rfl rfl rfl rfl rfl ?_) | ((with_reducible refine g_box ?_); first | refine lx_box (r := (.t (.agg _))) (cs := (List.map .t _)) rfl rfl rfl rfl rfl rfl rfl rfl rfl ?_) | ((with_reducible refine g_slice ?_); first | refine lx_slice_sl rfl rfl rfl ⟨_, rfl⟩ rfl rfl rfl ?_ ?_ ?_ ?_) | ((with_reducible refine g_len ?_); first | refine lx_len_map rfl rfl rfl rfl rfl ?_) | ((with_reducible refine g_min ?_); first | refine lx_min rfl rfl rfl rfl rfl rfl ?_) | ((with_reducible refine g_call ?_); first | refine lx_callT rfl rfl hi rfl rfl (ArgsLE.refl _) rfl rfl rfl rfl rfl ?_) | refine c_condN rfl (fun hc => ?_) (fun hc => ?_))
  all_goals try (rw [ite_min]; simp; done)
  all_goals try (rw [ite_min]; simp; omega)
  · simp
  · exact q_ret (resT_oneE rfl rfl (by rw [if_pos hc])) (by simp)
  · exact q_ret (resT_oneE rfl rfl (by rw [if_neg hc])) (by simp)
end Go.AL
/- What node.Get, node.Set and node.Put answer. -/
set_option linter.unusedVariables false
namespace Go.AL
open Go Go.Proofs Go.RowKit

theorem Spec.res {P : Program} {f : FuncId} {args : List AV} {S S' : StL} {r r' : T} (h : Spec P f args S (.t r) S') (e : r = r') : Spec P f args S (.t r') S' := e ▸ h
theorem Nd.get_mk (k : Int) (b : Bool) (n : Int) (t : ByteArray) (ns : List ByteArray) (is : List Nd) (s : ByteArray) (p : Int) (e : (Nd.mk k b n t ns is).place s = p) : (Nd.mk k b n t ns is).get s = if p < 0 then (Nd.zero, false) else (is.getD p.toNat default, true) := by subst e; rfl
set_option maxHeartbeats 2000000 in
theorem get_spec (x : Nd) (hx : x.Ok) (s : ByteArray) : Spec Tryd.prog 24 [.t x.toT, .t (.str s)] [] (.tup [.t (x.get s).1.toT, .t (.bool (x.get s).2)]) [] := by
  cases hx with
  | @mk k b n t ns is h1 h2 h3 =>
  have hp := place_spec k b n t ns is h1 s
  have hlt := Nd.place_lt (.mk k b n t ns is) s
  have hge := Nd.place_ge (.mk k b n t ns is) s
  rw [Nd.get_mk k b n t ns is s _ rfl]
  rw [Nd.toT_eq]
  generalize (Nd.mk k b n t ns is).place s = p at *
  simp only [Nd.items, Nd.names] at hlt
  by_cases h0 : p < 0
  · rw [if_pos h0]
    refine spec_intro (env0 := [(0, _), (1, _)]) (st0 := []) Tryd.func24 rfl rfl rfl rfl ?_
    repeat' (first | (with_reducible refine codeT_seq ?_) | (with_reducible refine codeT_skip ?_) | (with_reducible refine codeT_ret ?_) | (with_reducible refine codeT_regionL ?_) | (with_reducible refine lx_nil ?_) | (with_reducible refine q_then ?_) | (with_reducible refine q_then_ret ?_) | exact absurd h0 ‹¬ p < 0› | ((with_reducible refine g_move ?_); first | refine lx_move (r := (.t _)) rfl rfl rfl rfl rfl ?_) | ((with_reducible refine g_load ?_); first | refine lx_load_varA (r := (.t (.agg _))) rfl rfl rfl rfl rfl rfl rfl rfl rfl ?_) | ((with_reducible refine g_binOp ?_); first | refine lx_arith rfl rfl rfl rfl rfl rfl rfl ?_) | ((with_reducible refine g_assign ?_); first | refine lx_assign (r := (.t _)) rfl rfl rfl rfl rfl ?_) | ((with_reducible refine g_box ?_); first | refine lx_box (r := (.t (.agg _))) (cs := (List.map .t _)) rfl rfl rfl rfl rfl rfl rfl rfl rfl ?_) | ((with_reducible refine g_alloc ?_); first | refine lx_alloc rfl rfl rfl rfl rfl rfl rfl ?_) | ((with_reducible refine g_store ?_); first | refine lx_store_var (r := (.t (.agg _))) rfl rfl rfl rfl rfl rfl rfl rfl rfl rfl ?_) | ((with_reducible refine g_build ?_); first | refine lx_build (r := (.t (.agg _))) rfl rfl rfl rfl rfl rfl rfl ?_) | ((with_reducible refine g_call ?_); first | refine lx_callT rfl rfl hp rfl rfl (ArgsLE.refl _) rfl rfl rfl rfl rfl ?_) | refine c_condP rfl (fun hc => ?_) (fun hc => ?_))
    all_goals try (exfalso; omega)
    rw [show (Nd.zero, false).fst.toT = T.agg [.int .i64 0, .bool false, .int .i64 0, .str ⟨#[]⟩, .sl 1 [], .sl 6 []] from Nd.toT_eq _ _ _ _ _ _]
    refine q_ret ?_ (by simp)
    refine resT_cell_tmp rfl rfl rfl inferInstance rfl inferInstance rfl ?_ ?_
    · exact TLe.av (by repeat first | exact TLe.refl _ | exact TLe.nil _ | exact TLe.esl _ | refine TLe.agg ?_ | refine TLs.cons ?_ ?_ | exact TLs.nil)
    · exact AVLE.refl _
  · rw [if_neg h0]
    have hi := (hlt (by omega)).1
    have hX := own_spec (is.getD p.toNat default) (h3 _ (by simp [List.getD_eq_getElem?_getD, hi]))
    obtain ⟨k', b', n', t', ns', is', e⟩ : ∃ k' b' n' t' ns' is', is.getD p.toNat default = Nd.mk k' b' n' t' ns' is' := by
      cases is.getD p.toNat default; exact ⟨_, _, _, _, _, _, rfl⟩
    have e2 : (is.getD p.toNat default, true).1.toT = .agg [.int .i64 k', .bool b', .int .i64 n', .str t', .sl 1 (ns'.map .str), .sl 6 (is'.map Nd.toT)] := by rw [← Nd.toT_eq]; exact congrArg Nd.toT e
    have hX := hX.res e2
    rw [e2]
    refine spec_intro (env0 := [(0, _), (1, _)]) (st0 := []) Tryd.func24 rfl rfl rfl rfl ?_
    repeat' (first | (with_reducible refine codeT_seq ?_) | (with_reducible refine codeT_skip ?_) | (with_reducible refine codeT_ret ?_) | (with_reducible refine codeT_regionL ?_) | (with_reducible refine lx_nil ?_) | (with_reducible refine q_then ?_) | (with_reducible refine q_then_ret ?_) | refine lx_load_tpA rfl rfl rfl rfl rfl rfl (Nd.toT_agg _).2 (Nd.toT_agg _).1 ?_ | ((with_reducible refine g_move ?_); first | refine lx_move (r := (.t _)) rfl rfl rfl rfl rfl ?_) | ((with_reducible refine g_load ?_); first | refine lx_load_var rfl rfl rfl rfl rfl rfl rfl rfl ?_ | refine lx_load_varA (r := (.t (.agg _))) rfl rfl rfl rfl rfl rfl rfl rfl rfl ?_) | ((with_reducible refine g_fieldAddr ?_); first | refine lx_fieldAddr rfl rfl rfl rfl rfl rfl rfl ?_) | ((with_reducible refine g_binOp ?_); first | refine lx_arith rfl rfl rfl rfl rfl rfl rfl ?_) | ((with_reducible refine g_assign ?_); first | refine lx_assign (r := (.t _)) rfl rfl rfl rfl rfl ?_) | ((with_reducible refine g_box ?_); first | refine lx_box (r := (.t (.agg _))) (cs := (List.map .t _)) rfl rfl rfl rfl rfl rfl rfl rfl rfl ?_) | ((with_reducible refine g_alloc ?_); first | refine lx_alloc rfl rfl rfl rfl rfl rfl rfl ?_) | ((with_reducible refine g_store ?_); first | refine lx_store_var (r := (.t (.agg _))) rfl rfl rfl rfl rfl rfl rfl rfl rfl rfl ?_) | ((with_reducible refine g_indexAddr ?_); first | refine lx_indexAddr_map rfl rfl rfl rfl rfl rfl ?_ ?_ ?_) | ((with_reducible refine g_build ?_); first | refine lx_build (r := (.t (.agg _))) rfl rfl rfl rfl rfl rfl rfl ?_) | ((with_reducible refine g_call ?_); first | refine lx_callT rfl rfl hp rfl rfl (ArgsLE.refl _) rfl rfl rfl rfl rfl ?_ | refine lx_callT rfl rfl hX rfl rfl (ArgsLE.refl _) rfl rfl rfl rfl rfl ?_) | refine c_condP rfl (fun hc => ?_) (fun hc => ?_))
    all_goals try omega
    refine q_ret ?_ (by simp)
    refine resT_cell_tmp rfl rfl rfl inferInstance rfl inferInstance rfl ?_ ?_
    · exact TLe.av (by repeat first | exact TLe.refl _ | exact TLe.nil _ | exact TLe.esl _ | refine TLe.agg ?_ | refine TLs.cons ?_ ?_ | exact TLs.nil)
    · exact AVLE.refl _
end Go.AL
/- What node.Own answers, with the rows that are the caller's own; what node.Set and node.Put answer. -/
set_option linter.unusedVariables false
namespace Go.AL
open Go Go.Proofs Go.RowKit

set_option maxHeartbeats 4000000 in
theorem own_rows (k : Int) (b : Bool) (n : Int) (t : ByteArray) (ns : List ByteArray) (is : List Nd) (h1 : ns.length ≤ 8796093021952) (h2 : is.length ≤ 1599289640354) (h3 : ∀ x ∈ is, x.Ok) :
    Spec Tryd.prog 47 [.t (.agg [.int .i64 k, .bool b, .int .i64 n, .str t, .sl 1 (ns.map .str), .sl 6 (is.map Nd.toT)])] [] (.agg [.t (.int .i64 k), .t (.bool b), .t (.int .i64 n), .t (.str t), .row (.res 0), .row (.res 1)]) [(.res 0, .slt 9 1 (ns.map .str)), (.res 1, .slt 26 6 (is.map Nd.toT))] := by
  have ih := fun x hx => own_spec x (h3 x hx)
  have c1 := clone_texts (ns.map .str) (by simpa using h1)
  have c2 := clone_nodes (is.map Nd.toT) (by simpa using h2)
  refine spec_introG (env0 := [(0, _)]) (st0 := []) Tryd.func47 rfl rfl rfl rfl ?_
  repeat' (first | (with_reducible refine codeT_seq ?_) | (with_reducible refine codeT_block ?_) | (with_reducible refine codeT_regionL ?_) | ((with_reducible refine codeT_region_drawL ?_ ?_); · rfl) | (with_reducible refine lx_nil ?_) | (with_reducible refine q_then ?_) | ((with_reducible refine q_region_draw ?_ ?_); · rfl) | ((with_reducible refine g_move ?_); first | refine lx_move (r := (.t _)) rfl rfl rfl rfl rfl ?_) | ((with_reducible refine g_load ?_); first | refine lx_load_var rfl rfl rfl rfl rfl rfl rfl rfl ?_) | ((with_reducible refine g_fieldAddr ?_); first | refine lx_fieldAddr rfl rfl rfl rfl rfl rfl rfl ?_) | ((with_reducible refine g_box ?_); first | refine lx_box (r := (.t (.agg _))) (cs := (List.map .t _)) rfl rfl rfl rfl rfl rfl rfl rfl rfl ?_) | ((with_reducible refine g_alloc ?_); first | refine lx_alloc rfl rfl rfl rfl rfl rfl rfl ?_) | ((with_reducible refine g_store ?_); first | refine lx_store_var (r := (.row _)) rfl rfl rfl rfl rfl rfl rfl rfl rfl rfl ?_) | ((with_reducible refine g_len ?_); first | refine lx_len_rowmap rfl rfl rfl rfl rfl rfl ?_) | ((with_reducible refine g_call ?_); first | refine lx_call (r' := .row (.loc 7)) [(.res 0, .loc 7)] rfl rfl c1 (ArgsLE.refl _) rfl trivial rfl rfl rfl rfl rfl rfl rfl rfl rfl rfl ?_ | refine lx_call (r' := .row (.loc 10)) [(.res 0, .loc 10)] rfl rfl c2 (ArgsLE.refl _) rfl trivial rfl rfl rfl rfl rfl rfl rfl rfl rfl rfl ?_))
  refine codeT_ghost (ghost_keep2 [1, 2, 14, 15, 16] [.loc 1, .loc 2, .loc 7, .loc 10] rfl rfl) ?_
  have ih' : ∀ j, j < is.length → Spec Tryd.prog 47 [.t (Nd.toT (is.getD j default))] [] (.t (Nd.toT (is.getD j default))) [] := fun j hj => ih _ (by simp [List.getD_eq_getElem?_getD, hj])
  refine codeT_loop (fun m env st => ∃ (j : Nat), j ≤ is.length ∧ m = is.length - j ∧
      env = EnvL.get [(1, .ref (.loc 1) 0 0 0), (2, .ref (.loc 2) 0 0 0), (14, .row (.loc 10)), (15, .t (.int .i64 is.length)), (16, .t (.int .i64 (j : Int)))] ∧
      st = StO.get [(.loc 1, some (.var 26 [.t (.int .i64 k), .t (.bool b), .t (.int .i64 n), .t (.str t), .row (.loc 7), .row (.loc 10)])), (.loc 2, some (.var 26 [.t (.int .i64 0), .t (.bool false), .t (.int .i64 0), .t (.str ⟨#[]⟩), .t .nilsl, .t .nilsl])), (.loc 7, some (.slt 9 1 (ns.map .str))), (.loc 10, some (.slt 26 6 (is.map Nd.toT)))])
    ?_ (n := is.length) ⟨0, by omega, rfl, rfl, rfl⟩
  rintro m env st ⟨j, hj, rfl, rfl, rfl⟩
  by_cases hlt : j < is.length
  · obtain ⟨k', b', n', t', ns', is', hX⟩ : ∃ k' b' n' t' ns' is', is[j] = Nd.mk k' b' n' t' ns' is' := by
      cases is[j]; exact ⟨_, _, _, _, _, _, rfl⟩
    have ihX := ih is[j] (List.getElem_mem hlt)
    have hg : (is.map Nd.toT)[(j : Int).toNat]? = some is[j].toT := by simp [hlt]
    rw [hX, Nd.toT_eq] at ihX hg
    repeat' (first | (with_reducible refine codeT_seq ?_) | (with_reducible refine codeT_block ?_) | (with_reducible refine codeT_skip ?_) | (with_reducible refine codeT_ret ?_) | (with_reducible refine codeT_exit ?_) | (with_reducible refine codeT_regionL ?_) | ((with_reducible refine codeT_region_drawL ?_ ?_); · rfl) | (with_reducible refine lx_nil ?_) | (with_reducible refine q_then ?_) | (with_reducible refine q_then_exit ?_) | (with_reducible refine q_block ?_) | ((with_reducible refine q_block_same ?_ ?_); · rfl) | (with_reducible refine q_loop_exit ?_) | ((with_reducible refine q_region_draw ?_ ?_); · rfl) | refine lx_load_elsA rfl rfl rfl rfl rfl rfl rfl hg rfl ?_ | ((with_reducible refine g_move ?_); first | refine lx_move (r := (.t _)) rfl rfl rfl rfl rfl ?_) | ((with_reducible refine g_load ?_); first | refine lx_load_var rfl rfl rfl rfl rfl rfl rfl rfl ?_ | refine lx_load_varA (r := (.t (.agg _))) rfl rfl rfl rfl rfl rfl rfl rfl rfl ?_ | refine lx_load_varA (r := (.agg _)) rfl rfl rfl rfl rfl rfl rfl rfl rfl ?_) | ((with_reducible refine g_fieldAddr ?_); first | refine lx_fieldAddr rfl rfl rfl rfl rfl rfl rfl ?_) | ((with_reducible refine g_binOp ?_); first | refine lx_arith rfl rfl rfl rfl rfl rfl rfl ?_) | ((with_reducible refine g_assign ?_); first | refine lx_assign (r := (.t _)) rfl rfl rfl rfl rfl ?_) | ((with_reducible refine g_alloc ?_); first | refine lx_alloc rfl rfl rfl rfl rfl rfl rfl ?_) | ((with_reducible refine g_store ?_); first | refine lx_store_var (r := (.t (.agg _))) rfl rfl rfl rfl rfl rfl rfl rfl rfl rfl ?_ | refine lx_store_var (r := (.agg _)) rfl rfl rfl rfl rfl rfl rfl rfl rfl rfl ?_ | refine lx_store_slt rfl rfl rfl rfl rfl rfl ?_ ?_ ?_) | ((with_reducible refine g_indexAddr ?_); first | refine lx_indexAddr_row rfl rfl rfl rfl rfl rfl rfl ?_ ?_ ?_) | ((with_reducible refine g_call ?_); first | refine lx_callT rfl rfl ihX rfl rfl (ArgsLE.refl _) rfl rfl rfl rfl rfl ?_) | refine c_condP rfl (fun hc => ?_) (fun hc => ?_))
    all_goals try (exfalso; omega)
    all_goals try first | omega | rfl | (simp; omega) | (simp [hlt]; done)
    have hset : (is.map Nd.toT).set (j : Int).toNat (.agg [.int .i64 k', .bool b', .int .i64 n', .str t', .sl 1 (ns'.map .str), .sl 6 (is'.map Nd.toT)]) = is.map Nd.toT := by
      refine List.ext_getElem? fun q => ?_
      rw [List.getElem?_set]
      split
      · rename_i e
        rw [← e]
        simp [hlt, hX, Nd.toT_eq]
      · rfl
    refine q_loop (n' := is.length - (j + 1)) (by omega) (ghost_keep2 [1, 2, 14, 15, 16] [.loc 1, .loc 2, .loc 7, .loc 10] rfl rfl) ⟨j + 1, by omega, rfl, ?_, ?_⟩
    · rw [wrap64 (by omega) (by omega)]; rfl
    · show StO.get [(.loc 1, _), (.loc 2, _), (.loc 7, _), (.loc 10, some (.slt 26 6 ((is.map Nd.toT).set (j : Int).toNat _)))] = _
      rw [hset]; rfl
  · repeat' (first | (with_reducible refine codeT_seq ?_) | (with_reducible refine codeT_block ?_) | (with_reducible refine codeT_skip ?_) | (with_reducible refine codeT_ret ?_) | (with_reducible refine codeT_exit ?_) | (with_reducible refine codeT_regionL ?_) | (with_reducible refine lx_nil ?_) | (with_reducible refine q_then ?_) | (with_reducible refine q_then_exit ?_) | ((with_reducible refine q_block_same ?_ ?_); · rfl) | (with_reducible refine q_loop_exit ?_) | ((with_reducible refine g_move ?_); first | refine lx_move (r := (.t _)) rfl rfl rfl rfl rfl ?_) | ((with_reducible refine g_load ?_); first | refine lx_load_varA (r := (.agg _)) rfl rfl rfl rfl rfl rfl rfl rfl rfl ?_ | refine lx_load_elsAM rfl rfl rfl rfl rfl rfl rfl ?_ ?_ ?_) | ((with_reducible refine g_binOp ?_); first | refine lx_arith rfl rfl rfl rfl rfl rfl rfl ?_) | ((with_reducible refine g_assign ?_); first | refine lx_assign (r := (.t _)) rfl rfl rfl rfl rfl ?_) | ((with_reducible refine g_alloc ?_); first | refine lx_alloc rfl rfl rfl rfl rfl rfl rfl ?_) | ((with_reducible refine g_store ?_); first | refine lx_store_var (r := (.agg _)) rfl rfl rfl rfl rfl rfl rfl rfl rfl rfl ?_) | ((with_reducible refine g_indexAddr ?_); first | refine lx_indexAddr_row rfl rfl rfl rfl rfl rfl rfl ?_ ?_ ?_) | refine c_condP rfl (fun hc => ?_) (fun hc => ?_))
    all_goals try (exfalso; omega)
    refine q_retG (((ghost_keep2 [2] [.loc 2, .loc 7, .loc 10] rfl rfl).trans (ghost_renL2 (.loc 7) (.res 0) rfl rfl rfl rfl)).trans (ghost_renL2 (.loc 10) (.res 1) rfl rfl rfl rfl)) (q_ret ?_ (stHas_spec ⟨rfl, rfl, trivial⟩))
    refine resT_cell rfl rfl rfl inferInstance rfl inferInstance rfl ?_
    exact AVLE.refl _
end Go.AL
/- What node.Set and node.Put answer. -/
set_option linter.unusedVariables false
namespace Go.AL
open Go Go.Proofs Go.RowKit

set_option maxHeartbeats 4000000 in
theorem set_spec (x : Nd) (hx : x.Ok) (s : ByteArray) (v : Nd) (hv : v.Ok) : Spec Tryd.prog 51 [.t x.toT, .t (.str s), .t v.toT] [] (.t (x.set s v).toT) [] := by
  cases hx with
  | @mk k b n t ns is h1 h2 h3 =>
  have hp := place_spec k b n t ns is h1 s
  have hlt := Nd.place_lt (.mk k b n t ns is) s
  have hge := Nd.place_ge (.mk k b n t ns is) s
  have ho := own_rows k b n t ns is h1 h2 h3
  have hw := own_spec v hv
  unfold Nd.set
  rw [Nd.toT_eq]
  generalize (Nd.mk k b n t ns is).place s = p at *
  simp only [Nd.items, Nd.names, Nd.kind, Nd.bool, Nd.num, Nd.text] at hlt ⊢
  obtain ⟨k', b', n', t', ns', is', e⟩ : ∃ k' b' n' t' ns' is', v = Nd.mk k' b' n' t' ns' is' := by
    cases v; exact ⟨_, _, _, _, _, _, rfl⟩
  have e2 : v.toT = .agg [.int .i64 k', .bool b', .int .i64 n', .str t', .sl 1 (ns'.map .str), .sl 6 (is'.map Nd.toT)] := by rw [e, Nd.toT_eq]
  by_cases h0 : 0 ≤ p
  · rw [if_pos h0, Nd.toT_eq]
    have hi := (hlt h0).1
    rw [List.map_set, e2]
    rw [e2] at hw
    refine spec_introG (env0 := [(0, _), (1, _), (2, _)]) (st0 := []) Tryd.func51 rfl rfl rfl rfl ?_
    repeat' (first | (with_reducible refine codeT_seq ?_) | (with_reducible refine codeT_skip ?_) | (with_reducible refine codeT_ret ?_) | (with_reducible refine codeT_regionL ?_) | ((with_reducible refine codeT_region_drawL ?_ ?_); · rfl) | (with_reducible refine lx_nil ?_) | (with_reducible refine q_then ?_) | (with_reducible refine q_then_ret ?_) | ((with_reducible refine q_region_draw ?_ ?_); · rfl) | ((with_reducible refine g_move ?_); first | refine lx_move (r := (.t _)) rfl rfl rfl rfl rfl ?_) | ((with_reducible refine g_load ?_); first | refine lx_load_var rfl rfl rfl rfl rfl rfl rfl rfl ?_ | refine lx_load_varA (r := (.t (.agg _))) rfl rfl rfl rfl rfl rfl rfl rfl rfl ?_ | refine lx_load_varA (r := (.agg _)) rfl rfl rfl rfl rfl rfl rfl rfl rfl ?_) | ((with_reducible refine g_fieldAddr ?_); first | refine lx_fieldAddr rfl rfl rfl rfl rfl rfl rfl ?_) | ((with_reducible refine g_binOp ?_); first | refine lx_arith rfl rfl rfl rfl rfl rfl rfl ?_) | ((with_reducible refine g_assign ?_); first | refine lx_assign (r := (.t _)) rfl rfl rfl rfl rfl ?_) | ((with_reducible refine g_box ?_); first | refine lx_box (r := (.t (.agg _))) (cs := (List.map .t _)) rfl rfl rfl rfl rfl rfl rfl rfl rfl ?_) | ((with_reducible refine g_alloc ?_); first | refine lx_alloc rfl rfl rfl rfl rfl rfl rfl ?_) | ((with_reducible refine g_store ?_); first | refine lx_store_var (r := (.agg _)) rfl rfl rfl rfl rfl rfl rfl rfl rfl rfl ?_ | refine lx_store_var (r := (.row _)) rfl rfl rfl rfl rfl rfl rfl rfl rfl rfl ?_ | refine lx_store_slt rfl rfl rfl rfl rfl rfl ?_ ?_ ?_) | ((with_reducible refine g_indexAddr ?_); first | refine lx_indexAddr_row rfl rfl rfl rfl rfl rfl rfl ?_ ?_ ?_) | ((with_reducible refine g_buildSlice ?_); first | refine lx_buildSlice rfl rfl rfl rfl rfl rfl rfl ?_) | ((with_reducible refine g_append ?_); first | refine lx_append_row rfl rfl rfl rfl rfl rfl rfl rfl rfl rfl ?_ ?_ ?_) | ((with_reducible refine g_call ?_); first | refine lx_callT rfl rfl hp rfl rfl (ArgsLE.refl _) rfl rfl rfl rfl rfl ?_ | refine lx_call (r' := .agg [.t (.int .i64 k), .t (.bool b), .t (.int .i64 n), .t (.str t), .row (.loc 100), .row (.loc 101)]) [(.res 0, .loc 100), (.res 1, .loc 101)] rfl rfl ho (ArgsLE.refl _) rfl trivial rfl rfl rfl rfl rfl rfl rfl rfl rfl rfl ?_ | refine lx_callT rfl rfl hw rfl rfl (ArgsLE.refl _) rfl rfl rfl rfl rfl ?_) | refine c_condP rfl (fun hc => ?_) (fun hc => ?_))
    all_goals try (simp only [List.length_map, List.length_cons, List.length_nil]; omega)
    all_goals try omega
    all_goals try rfl
    all_goals try (exfalso; omega)
    refine q_ghost (ghost_keep2 [6] [.loc 6, .loc 100, .loc 101] rfl rfl) ?_
    refine q_ghost (ghost_freezeL (id := .loc 100) rfl rfl rfl) ?_; refine q_ghost (ghost_freezeL (id := .loc 101) rfl rfl rfl) ?_
    refine q_done (q_ret ?_ (by simp)); refine resT_cell rfl rfl rfl inferInstance rfl inferInstance rfl ?_; exact TLe.av (by repeat first | exact TLe.refl _ | exact TLe.nil _ | exact TLe.esl _ | refine TLe.agg ?_ | refine TLs.cons ?_ ?_ | exact TLs.nil)
  · rw [if_neg h0, Nd.toT_eq]
    rw [List.map_append, List.map_append, List.map_singleton, List.map_singleton, e2]
    rw [e2] at hw
    refine spec_introG (env0 := [(0, _), (1, _), (2, _)]) (st0 := []) Tryd.func51 rfl rfl rfl rfl ?_
    repeat' (first | (with_reducible refine codeT_seq ?_) | (with_reducible refine codeT_skip ?_) | (with_reducible refine codeT_ret ?_) | (with_reducible refine codeT_regionL ?_) | ((with_reducible refine codeT_region_drawL ?_ ?_); · rfl) | (with_reducible refine lx_nil ?_) | (with_reducible refine q_then ?_) | (with_reducible refine q_then_ret ?_) | ((with_reducible refine q_region_draw ?_ ?_); · rfl) | ((with_reducible refine g_move ?_); first | refine lx_move (r := (.t _)) rfl rfl rfl rfl rfl ?_) | ((with_reducible refine g_load ?_); first | refine lx_load_var rfl rfl rfl rfl rfl rfl rfl rfl ?_ | refine lx_load_varA (r := (.t (.agg _))) rfl rfl rfl rfl rfl rfl rfl rfl rfl ?_ | refine lx_load_varA (r := (.agg _)) rfl rfl rfl rfl rfl rfl rfl rfl rfl ?_) | ((with_reducible refine g_fieldAddr ?_); first | refine lx_fieldAddr rfl rfl rfl rfl rfl rfl rfl ?_) | ((with_reducible refine g_binOp ?_); first | refine lx_arith rfl rfl rfl rfl rfl rfl rfl ?_) | ((with_reducible refine g_assign ?_); first | refine lx_assign (r := (.t _)) rfl rfl rfl rfl rfl ?_) | ((with_reducible refine g_box ?_); first | refine lx_box (r := (.t (.agg _))) (cs := (List.map .t _)) rfl rfl rfl rfl rfl rfl rfl rfl rfl ?_) | ((with_reducible refine g_alloc ?_); first | refine lx_alloc rfl rfl rfl rfl rfl rfl rfl ?_) | ((with_reducible refine g_store ?_); first | refine lx_store_var (r := (.agg _)) rfl rfl rfl rfl rfl rfl rfl rfl rfl rfl ?_ | refine lx_store_var (r := (.row _)) rfl rfl rfl rfl rfl rfl rfl rfl rfl rfl ?_ | refine lx_store_slt rfl rfl rfl rfl rfl rfl ?_ ?_ ?_) | ((with_reducible refine g_indexAddr ?_); first | refine lx_indexAddr_row rfl rfl rfl rfl rfl rfl rfl ?_ ?_ ?_) | ((with_reducible refine g_buildSlice ?_); first | refine lx_buildSlice rfl rfl rfl rfl rfl rfl rfl ?_) | ((with_reducible refine g_append ?_); first | refine lx_append_row rfl rfl rfl rfl rfl rfl rfl rfl rfl rfl ?_ ?_ ?_) | ((with_reducible refine g_call ?_); first | refine lx_callT rfl rfl hp rfl rfl (ArgsLE.refl _) rfl rfl rfl rfl rfl ?_ | refine lx_call (r' := .agg [.t (.int .i64 k), .t (.bool b), .t (.int .i64 n), .t (.str t), .row (.loc 100), .row (.loc 101)]) [(.res 0, .loc 100), (.res 1, .loc 101)] rfl rfl ho (ArgsLE.refl _) rfl trivial rfl rfl rfl rfl rfl rfl rfl rfl rfl rfl ?_ | refine lx_callT rfl rfl hw rfl rfl (ArgsLE.refl _) rfl rfl rfl rfl rfl ?_) | refine c_condP rfl (fun hc => ?_) (fun hc => ?_))
    all_goals try (simp only [List.length_map, List.length_cons, List.length_nil]; omega)
    all_goals try omega
    all_goals try rfl
    all_goals try (exfalso; omega)
    refine q_ghost (ghost_keep2 [6] [.loc 6, .loc 27, .loc 33] rfl rfl) ?_
    refine q_ghost (ghost_freezeL (id := .loc 27) rfl rfl rfl) ?_; refine q_ghost (ghost_freezeL (id := .loc 33) rfl rfl rfl) ?_
    refine q_done (q_ret ?_ (by simp)); refine resT_cell rfl rfl rfl inferInstance rfl inferInstance rfl ?_; exact TLe.av (by repeat first | exact TLe.refl _ | exact TLe.nil _ | exact TLe.esl _ | refine TLe.agg ?_ | refine TLs.cons ?_ ?_ | exact TLs.nil)
end Go.AL
/- What node.Put answers. -/
set_option linter.unusedVariables false
namespace Go.AL
open Go Go.Proofs Go.RowKit

theorem Nd.set_ok {x v : Nd} {s : ByteArray} (hx : x.Ok) (hv : v.Ok) (h1 : x.names.length ≤ 999999999999) (h2 : x.items.length ≤ 999999999999) : (x.set s v).Ok := by
  cases hx with
  | @mk k b n t ns is a1 a2 a3 =>
  unfold Nd.set
  simp only [Nd.names, Nd.items] at h1 h2
  split
  · refine .mk a1 ?_ fun y hy => ?_
    · simp only [Nd.items, List.length_set]; exact a2
    · rcases List.mem_or_eq_of_mem_set hy with h | rfl
      · exact a3 y h
      · exact hv
  · refine .mk ?_ ?_ fun y hy => ?_
    · simp only [Nd.names, List.length_append, List.length_singleton]; omega
    · simp only [Nd.items, List.length_append, List.length_singleton]; omega
    · rcases List.mem_append.1 hy with h | h
      · exact a3 y h
      · rw [List.mem_singleton.1 h]; exact hv
theorem Nd.valid_len {V : ByteArray → Bool} {x : Nd} {e : Int} (hk : x.kind = 5) (h : x.validB V e = true) : x.names.length ≤ 256 ∧ x.items.length ≤ 256 := by
  cases x with
  | mk k b n t ns is =>
  rw [valid_mk] at h
  obtain ⟨_, _, _, _, _, h6, h7, _⟩ := h
  have := (h7 hk).2
  simp only [Nd.names, Nd.items]
  omega
theorem zero_toT : Nd.zero.toT = .agg [.int .i64 0, .bool false, .int .i64 0, .str ⟨#[]⟩, .sl 1 [], .sl 6 []] := Nd.toT_eq _ _ _ _ _ _

set_option maxHeartbeats 4000000 in
theorem put_spec {oF oA : Obj} {V : ByteArray → Bool} (hV : VSpec oF oA V) (x : Nd) (hx : x.Ok) (s : ByteArray) (v : Nd) (hv : v.Ok) : Spec Tryd.prog 23 [.t x.toT, .t (.str s), .t v.toT] [(.par 100, .dat (.fix 0 oF)), (.par 101, .dat (.fix 1 oA))] (.tup [.t (x.put V s v).1.toT, .t (.int .i64 (x.put V s v).2)]) [(.par 100, .dat (.fix 0 oF)), (.par 101, .dat (.fix 1 oA))] := by
  have hval := Valid_spec hV x hx
  have hset := set_spec x hx s v hv
  have hval2 : x.kind = 5 → x.validB V 8 = true → Spec Tryd.prog 16 [.t (x.set s v).toT] [(.par 100, .dat (.fix 0 oF)), (.par 101, .dat (.fix 1 oA))] (.t (.bool ((x.set s v).validB V 8))) [(.par 100, .dat (.fix 0 oF)), (.par 101, .dat (.fix 1 oA))] := fun hk h =>
    Valid_spec hV _ (Nd.set_ok hx hv (by have := Nd.valid_len hk h; omega) (by have := Nd.valid_len hk h; omega))
  unfold Nd.put
  generalize x.validB V 8 = v1 at *
  generalize hy : x.set s v = y at *
  generalize y.validB V 8 = v2 at *
  obtain ⟨k', b', n', t', ns', is', e⟩ : ∃ k' b' n' t' ns' is', y = Nd.mk k' b' n' t' ns' is' := by
    cases y; exact ⟨_, _, _, _, _, _, rfl⟩
  obtain ⟨k2, b2, n2, t2, ns2, is2, e2⟩ : ∃ k' b' n' t' ns' is', v = Nd.mk k' b' n' t' ns' is' := by
    cases v; exact ⟨_, _, _, _, _, _, rfl⟩
  cases x with
  | mk k b n t ns is =>
  have hk : (Nd.mk k b n t ns is).kind = k := rfl
  rw [hk] at *
  by_cases hc0 : k = 5 ∧ v1 = true ∧ v2 = true
  · rw [if_pos hc0]
    have hval3 := hval2 hc0.1 hc0.2.1
    clear hval2
    obtain ⟨rfl, rfl, rfl⟩ := hc0
    rw [show ((y, 0) : Nd × Int).1 = y from rfl, show ((y, 0) : Nd × Int).2 = 0 from rfl]
    subst e; subst e2
    rw [Nd.toT_eq] at *
    simp only [Nd.toT_eq] at *
    refine spec_intro (env0 := [(0, _), (1, _), (2, _)]) (st0 := [(_, some _), (_, some _)]) Tryd.func23 rfl rfl rfl rfl ?_
    repeat' (first | (with_reducible refine codeT_seq ?_) | (with_reducible refine codeT_skip ?_) | (with_reducible refine codeT_ret ?_) | (with_reducible refine codeT_regionL ?_) | (with_reducible refine lx_nil ?_) | (with_reducible refine q_then ?_) | refine c_condF rfl ?_ | ((with_reducible refine g_move ?_); first | refine lx_move (r := (.t _)) rfl rfl rfl rfl rfl ?_) | ((with_reducible refine g_load ?_); first | refine lx_load_var rfl rfl rfl rfl rfl rfl rfl rfl ?_ | refine lx_load_varA (r := (.t (.agg _))) rfl rfl rfl rfl rfl rfl rfl rfl rfl ?_) | ((with_reducible refine g_fieldAddr ?_); first | refine lx_fieldAddr rfl rfl rfl rfl rfl rfl rfl ?_) | ((with_reducible refine g_binOp ?_); first | refine lx_arith rfl rfl rfl rfl rfl rfl rfl ?_) | ((with_reducible refine g_assign ?_); first | refine lx_assign (r := (.t _)) rfl rfl rfl rfl rfl ?_) | ((with_reducible refine g_pick ?_); first | refine lx_pickF (r := (.t _)) rfl rfl rfl rfl rfl rfl ?_) | ((with_reducible refine g_box ?_); first | refine lx_box (r := (.t (.agg _))) (cs := (List.map .t _)) rfl rfl rfl rfl rfl rfl rfl rfl rfl ?_) | ((with_reducible refine g_alloc ?_); first | refine lx_alloc rfl rfl rfl rfl rfl rfl rfl ?_) | ((with_reducible refine g_store ?_); first | refine lx_store_var (r := (.t (.agg _))) rfl rfl rfl rfl rfl rfl rfl rfl rfl rfl ?_) | ((with_reducible refine g_unOp ?_); first | refine lx_not rfl rfl rfl rfl rfl ?_) | ((with_reducible refine g_call ?_); first | refine lx_call (r' := .t (.bool true)) [] rfl rfl hval (ArgsLE.refl _) rfl ⟨rfl, rfl, trivial⟩ rfl rfl rfl rfl rfl rfl rfl rfl rfl rfl ?_ | refine lx_call (r' := .t (.bool true)) [] rfl rfl hval3 (ArgsLE.refl _) rfl ⟨rfl, rfl, trivial⟩ rfl rfl rfl rfl rfl rfl rfl rfl rfl rfl ?_ | refine lx_callT rfl rfl hset rfl rfl (ArgsLE.refl _) rfl rfl rfl rfl rfl ?_))
    refine q_ret ?_ (stHas_spec ⟨rfl, rfl, trivial⟩); refine resT_cell_tmp rfl rfl rfl inferInstance rfl inferInstance rfl ?_ ?_; exact TLe.av (by repeat first | exact TLe.refl _ | exact TLe.nil _ | exact TLe.esl _ | refine TLe.agg ?_ | refine TLs.cons ?_ ?_ | exact TLs.nil); exact AVLE.refl _
  · rw [if_neg hc0]
    rw [show ((Nd.zero, 1) : Nd × Int).1 = Nd.zero from rfl, show ((Nd.zero, 1) : Nd × Int).2 = 1 from rfl, zero_toT]
    subst e; subst e2
    simp only [Nd.toT_eq] at *
    refine spec_intro (env0 := [(0, _), (1, _), (2, _)]) (st0 := [(_, some _), (_, some _)]) Tryd.func23 rfl rfl rfl rfl ?_
    repeat' (first | (with_reducible refine codeT_seq ?_) | (with_reducible refine codeT_skip ?_) | (with_reducible refine codeT_ret ?_) | (with_reducible refine codeT_regionL ?_) | (with_reducible refine lx_nil ?_) | (with_reducible refine q_then ?_) | (with_reducible refine q_then_ret ?_) | refine c_condT rfl ?_ | ((with_reducible refine g_guard ?_); first | refine lx_skip rfl rfl rfl ?_) | ((with_reducible refine g_move ?_); first | refine lx_move (r := (.t _)) rfl rfl rfl rfl rfl ?_) | ((with_reducible refine g_load ?_); first | refine lx_load_var rfl rfl rfl rfl rfl rfl rfl rfl ?_ | refine lx_load_varA (r := (.t (.agg _))) rfl rfl rfl rfl rfl rfl rfl rfl rfl ?_) | ((with_reducible refine g_fieldAddr ?_); first | refine lx_fieldAddr rfl rfl rfl rfl rfl rfl rfl ?_) | ((with_reducible refine g_binOp ?_); first | refine lx_arith rfl rfl rfl rfl rfl rfl rfl ?_) | ((with_reducible refine g_assign ?_); first | refine lx_assign (r := (.t _)) rfl rfl rfl rfl rfl ?_) | ((with_reducible refine g_pick ?_); first | refine lx_pickT (r := (.t _)) rfl rfl rfl rfl rfl rfl ?_ | refine lx_pickF (r := (.t _)) rfl rfl rfl rfl rfl rfl ?_) | ((with_reducible refine g_box ?_); first | refine lx_box (r := (.t (.agg _))) (cs := (List.map .t _)) rfl rfl rfl rfl rfl rfl rfl rfl rfl ?_) | ((with_reducible refine g_alloc ?_); first | refine lx_alloc rfl rfl rfl rfl rfl rfl rfl ?_) | ((with_reducible refine g_store ?_); first | refine lx_store_var (r := (.t (.agg _))) rfl rfl rfl rfl rfl rfl rfl rfl rfl rfl ?_) | ((with_reducible refine g_unOp ?_); first | refine lx_not rfl rfl rfl rfl rfl ?_) | ((with_reducible refine g_build ?_); first | refine lx_build (r := (.t (.agg _))) rfl rfl rfl rfl rfl rfl rfl ?_) | ((with_reducible refine g_call ?_); first | refine lx_call (r' := .t (.bool v1)) [] rfl rfl hval (ArgsLE.refl _) rfl ⟨rfl, rfl, trivial⟩ rfl rfl rfl rfl rfl rfl rfl rfl rfl rfl ?_ | refine lx_call (r' := .t (.bool v2)) [] rfl rfl (hval2 ‹k = 5› (by simpa using hc)) (ArgsLE.refl _) rfl ⟨rfl, rfl, trivial⟩ rfl rfl rfl rfl rfl rfl rfl rfl rfl rfl ?_ | refine lx_callT rfl rfl hset rfl rfl (ArgsLE.refl _) rfl rfl rfl rfl rfl ?_) | refine c_condB rfl (fun hc => ?_) (fun hc => ?_) | refine lx_splitN rfl (fun hc => ?_) (fun hc => ?_))
    all_goals try (refine q_ret ?_ (stHas_spec ⟨rfl, rfl, trivial⟩); refine resT_cell_tmp rfl rfl rfl inferInstance rfl inferInstance rfl ?_ ?_; exact TLe.av (by repeat first | exact TLe.refl _ | exact TLe.nil _ | exact TLe.esl _ | refine TLe.agg ?_ | refine TLs.cons ?_ ?_ | exact TLs.nil); exact AVLE.refl _; done)
    all_goals (exfalso; simp_all)
end Go.AL
/- What slices.Equal answers for texts, and slices.EqualFunc for nodes. -/
set_option linter.unusedVariables false
namespace Go.AL
open Go Go.Proofs Go.RowKit

set_option maxHeartbeats 1000000 in
theorem equal_spec (l m : List ByteArray) (h : l.length ≤ 8796093021952) : Spec Tryd.prog 53 [.t (.sl 1 (l.map .str)), .t (.sl 1 (m.map .str))] [] (.t (.bool (decide (l = m)))) [] := by
  refine spec_intro (env0 := [(0, _), (1, _)]) (st0 := []) Tryd.func53 rfl rfl rfl rfl ?_
  repeat' (first | (with_reducible refine codeT_seq ?_) | (with_reducible refine codeT_block ?_) | (with_reducible refine codeT_skip ?_) | (with_reducible refine codeT_ret ?_) | (with_reducible refine codeT_regionL ?_) | (with_reducible refine lx_nil ?_) | (with_reducible refine q_then ?_) | (with_reducible refine q_then_ret ?_) | ((with_reducible refine g_move ?_); first | refine lx_move (r := (.t _)) rfl rfl rfl rfl rfl ?_) | ((with_reducible refine g_binOp ?_); first | refine lx_arith rfl rfl rfl rfl rfl rfl rfl ?_) | ((with_reducible refine g_assign ?_); first | refine lx_assign (r := (.t _)) rfl rfl rfl rfl rfl ?_) | ((with_reducible refine g_len ?_); first | refine lx_len_map rfl rfl rfl rfl rfl ?_) | refine c_condN rfl (fun hc => ?_) (fun hc => ?_))
  · have hlen : l.length = m.length := by omega
    refine codeT_ghost (ghost_keep2 [0, 1, 4, 11, 12, 13] [] rfl rfl) ?_
    refine codeT_loop (fun p env st => ∃ (j : Nat), j ≤ l.length ∧ p = l.length - j ∧ decide (l = m) = decide (l.drop j = m.drop j) ∧
        env = EnvL.get [(0, .t (.sl 1 (l.map .str))), (1, .t (.sl 1 (m.map .str))), (4, .t (.bool false)), (11, .t (.sl 1 (l.map .str))), (12, .t (.int .i64 l.length)), (13, .t (.int .i64 (j : Int)))] ∧ st = StO.get [])
      ?_ (n := l.length) ⟨0, by omega, rfl, rfl, rfl, rfl⟩
    clear hc
    rintro p env st ⟨j, hj, rfl, hi, rfl, rfl⟩
    by_cases hlt : j < l.length
    · have hd : l.drop j = l[j] :: l.drop (j + 1) := List.drop_eq_getElem_cons hlt
      have hd2 : m.drop j = m[j] :: m.drop (j + 1) := List.drop_eq_getElem_cons (by omega)
      have hg : l.getD (j : Int).toNat default = l[j] := by simp [List.getD_eq_getElem?_getD, hlt]
      have hg2 : m.getD (j : Int).toNat default = m[j] := by simp [List.getD_eq_getElem?_getD, show j < m.length by omega]
      rw [hd, hd2, ← hg, ← hg2] at hi
      repeat' (first | (with_reducible refine codeT_seq ?_) | (with_reducible refine codeT_block ?_) | (with_reducible refine codeT_skip ?_) | (with_reducible refine codeT_ret ?_) | (with_reducible refine codeT_exit ?_) | (with_reducible refine codeT_regionL ?_) | ((with_reducible refine codeT_region_drawL ?_ ?_); · rfl) | (with_reducible refine lx_nil ?_) | (with_reducible refine q_then ?_) | (with_reducible refine q_then_exit ?_) | (with_reducible refine q_then_ret ?_) | (with_reducible refine q_block ?_) | (with_reducible refine q_block_ret ?_) | ((with_reducible refine q_block_same ?_ ?_); · rfl) | (with_reducible refine q_loop_exit ?_) | (with_reducible refine q_loop_ret ?_) | ((with_reducible refine q_region_draw ?_ ?_); · rfl) | ((with_reducible refine g_move ?_); first | refine lx_move (r := (.t _)) rfl rfl rfl rfl rfl ?_) | ((with_reducible refine g_load ?_); first | refine lx_load_tp rfl rfl rfl rfl rfl rfl rfl ?_) | ((with_reducible refine g_binOp ?_); first | refine lx_arith rfl rfl rfl rfl rfl rfl rfl ?_ | refine lx_str_ne rfl rfl rfl rfl rfl rfl ?_) | ((with_reducible refine g_assign ?_); first | refine lx_assign (r := (.t _)) rfl rfl rfl rfl rfl ?_) | ((with_reducible refine g_indexAddr ?_); first | refine lx_indexAddr_map rfl rfl rfl rfl rfl rfl ?_ ?_ ?_) | refine c_condP rfl (fun hc => ?_) (fun hc => ?_) | refine c_condN rfl (fun hc => ?_) (fun hc => ?_))
      all_goals try omega
      · refine q_loop (n' := l.length - (j + 1)) (by omega) (ghost_keep2 [0, 1, 4, 11, 12, 13] [] rfl rfl) ⟨j + 1, by omega, rfl, ?_, by rw [wrap64 (by omega) (by omega)]; rfl, rfl⟩
        rw [hi, hc]; simp
      · refine q_ret (resT_oneE rfl rfl ?_) (by simp)
        rw [hi]
        exact congrArg T.bool (decide_eq_false (fun e => hc (List.cons.inj e).1)).symm
    · repeat' (first | (with_reducible refine codeT_seq ?_) | (with_reducible refine codeT_block ?_) | (with_reducible refine codeT_skip ?_) | (with_reducible refine codeT_ret ?_) | (with_reducible refine codeT_exit ?_) | (with_reducible refine codeT_regionL ?_) | ((with_reducible refine codeT_region_drawL ?_ ?_); · rfl) | (with_reducible refine lx_nil ?_) | (with_reducible refine q_then ?_) | (with_reducible refine q_then_exit ?_) | (with_reducible refine q_then_ret ?_) | (with_reducible refine q_block ?_) | (with_reducible refine q_block_ret ?_) | ((with_reducible refine q_block_same ?_ ?_); · rfl) | (with_reducible refine q_loop_exit ?_) | (with_reducible refine q_loop_ret ?_) | ((with_reducible refine q_region_draw ?_ ?_); · rfl) | ((with_reducible refine g_move ?_); first | refine lx_move (r := (.t _)) rfl rfl rfl rfl rfl ?_) | ((with_reducible refine g_load ?_); first | refine lx_load_tp rfl rfl rfl rfl rfl rfl rfl ?_) | ((with_reducible refine g_binOp ?_); first | refine lx_arith rfl rfl rfl rfl rfl rfl rfl ?_ | refine lx_str_ne rfl rfl rfl rfl rfl rfl ?_) | ((with_reducible refine g_assign ?_); first | refine lx_assign (r := (.t _)) rfl rfl rfl rfl rfl ?_) | ((with_reducible refine g_indexAddr ?_); first | refine lx_indexAddr_map rfl rfl rfl rfl rfl rfl ?_ ?_ ?_) | refine c_condP rfl (fun hc => ?_) (fun hc => ?_) | refine c_condN rfl (fun hc => ?_) (fun hc => ?_))
      all_goals try (exfalso; omega)
      refine q_ret (resT_oneE rfl rfl ?_) (by simp)
      have hd : l.drop j = [] := List.drop_eq_nil_of_le (by omega)
      have hd2 : m.drop j = [] := List.drop_eq_nil_of_le (by omega)
      rw [hi, hd, hd2]; simp
  · refine q_ret (resT_oneE rfl rfl ?_) (by simp)
    have : ¬ l = m := fun e => hc (by rw [e])
    simp [this]
theorem Nd.toT_full (x : Nd) : x.toT = .agg [.int .i64 x.kind, .bool x.bool, .int .i64 x.num, .str x.text, .sl 1 (x.names.map .str), .sl 6 (x.items.map Nd.toT)] := by
  cases x; exact Nd.toT_eq _ _ _ _ _ _
set_option maxHeartbeats 2000000 in
theorem equalFunc_spec (l m : List Nd) (h : l.length ≤ 1599289640354) (hp : ∀ x ∈ l, ∀ y, Spec Tryd.prog 25 [.t x.toT, .t y.toT] [] (.t (.bool (x.same y))) []) :
    Spec Tryd.prog 54 [.t (.sl 6 (l.map Nd.toT)), .t (.sl 6 (m.map Nd.toT)), .t (.fn 25)] [] (.t (.bool (Nd.sames l m))) [] := by
  refine spec_intro (env0 := [(0, _), (1, _), (2, _)]) (st0 := []) Tryd.func54 rfl rfl rfl rfl ?_
  repeat' (first | (with_reducible refine codeT_seq ?_) | (with_reducible refine codeT_block ?_) | (with_reducible refine codeT_skip ?_) | (with_reducible refine codeT_ret ?_) | (with_reducible refine codeT_regionL ?_) | (with_reducible refine lx_nil ?_) | (with_reducible refine q_then ?_) | (with_reducible refine q_then_ret ?_) | ((with_reducible refine g_move ?_); first | refine lx_move (r := (.t _)) rfl rfl rfl rfl rfl ?_) | ((with_reducible refine g_binOp ?_); first | refine lx_arith rfl rfl rfl rfl rfl rfl rfl ?_) | ((with_reducible refine g_assign ?_); first | refine lx_assign (r := (.t _)) rfl rfl rfl rfl rfl ?_) | ((with_reducible refine g_len ?_); first | refine lx_len_map rfl rfl rfl rfl rfl ?_) | refine c_condN rfl (fun hc => ?_) (fun hc => ?_))
  · have hlen : l.length = m.length := by omega
    refine codeT_ghost (ghost_keep2 [0, 1, 2, 6, 15, 16, 17] [] rfl rfl) ?_
    refine codeT_loop (fun p env st => ∃ (j : Nat), j ≤ l.length ∧ p = l.length - j ∧ Nd.sames l m = Nd.sames (l.drop j) (m.drop j) ∧
        env = EnvL.get [(0, .t (.sl 6 (l.map Nd.toT))), (1, .t (.sl 6 (m.map Nd.toT))), (2, .t (.fn 25)), (6, .t (.bool false)), (15, .t (.sl 6 (l.map Nd.toT))), (16, .t (.int .i64 l.length)), (17, .t (.int .i64 (j : Int)))] ∧ st = StO.get [])
      ?_ (n := l.length) ⟨0, by omega, rfl, rfl, rfl, rfl⟩
    clear hc
    rintro p env st ⟨j, hj, rfl, hi, rfl, rfl⟩
    by_cases hlt : j < l.length
    · have hd : l.drop j = l[j] :: l.drop (j + 1) := List.drop_eq_getElem_cons hlt
      have hd2 : m.drop j = m[j] :: m.drop (j + 1) := List.drop_eq_getElem_cons (by omega)
      have hg : l.getD (j : Int).toNat default = l[j] := by simp [List.getD_eq_getElem?_getD, hlt]
      have hg2 : m.getD (j : Int).toNat default = m[j] := by simp [List.getD_eq_getElem?_getD, show j < m.length by omega]
      rw [hd, hd2, ← hg, ← hg2, Nd.sames] at hi
      have hX := hp l[j] (List.getElem_mem hlt) (m.getD (j : Int).toNat default)
      rw [← hg] at hX
      have eX := (l.getD (j : Int).toNat default).toT_full
      have eY := (m.getD (j : Int).toNat default).toT_full
      rw [eX, eY] at hX
      generalize (l.getD (j : Int).toNat default).same (m.getD (j : Int).toNat default) = v at *
      repeat' (first | (with_reducible refine codeT_seq ?_) | (with_reducible refine codeT_block ?_) | (with_reducible refine codeT_skip ?_) | (with_reducible refine codeT_ret ?_) | (with_reducible refine codeT_exit ?_) | (with_reducible refine codeT_regionL ?_) | (with_reducible refine lx_nil ?_) | (with_reducible refine q_then ?_) | (with_reducible refine q_then_exit ?_) | (with_reducible refine q_then_ret ?_) | (with_reducible refine q_block ?_) | (with_reducible refine q_block_ret ?_) | ((with_reducible refine q_block_same ?_ ?_); · rfl) | (with_reducible refine q_loop_exit ?_) | (with_reducible refine q_loop_ret ?_) | refine lx_load_tpAE rfl rfl eX rfl rfl rfl rfl rfl rfl ?_ | refine lx_load_tpAE rfl rfl eY rfl rfl rfl rfl rfl rfl ?_ | ((with_reducible refine g_move ?_); first | refine lx_move (r := (.t _)) rfl rfl rfl rfl rfl ?_) | ((with_reducible refine g_load ?_); first | refine lx_load_varA (r := (.t (.agg _))) rfl rfl rfl rfl rfl rfl rfl rfl rfl ?_) | ((with_reducible refine g_binOp ?_); first | refine lx_arith rfl rfl rfl rfl rfl rfl rfl ?_) | ((with_reducible refine g_assign ?_); first | refine lx_assign (r := (.t _)) rfl rfl rfl rfl rfl ?_) | ((with_reducible refine g_alloc ?_); first | refine lx_alloc rfl rfl rfl rfl rfl rfl rfl ?_) | ((with_reducible refine g_store ?_); first | refine lx_store_var (r := (.t (.agg _))) rfl rfl rfl rfl rfl rfl rfl rfl rfl rfl ?_) | ((with_reducible refine g_indexAddr ?_); first | refine lx_indexAddr_map rfl rfl rfl rfl rfl rfl ?_ ?_ ?_) | ((with_reducible refine g_unOp ?_); first | refine lx_not rfl rfl rfl rfl rfl ?_) | ((with_reducible refine g_call ?_); first | refine lx_callT rfl rfl hX rfl rfl (ArgsLE.refl _) rfl rfl rfl rfl rfl ?_) | refine c_condP rfl (fun hc => ?_) (fun hc => ?_) | refine c_condB rfl (fun hc => ?_) (fun hc => ?_))
      all_goals try omega
      · refine q_ret (resT_oneE rfl rfl ?_) (by simp)
        rw [hi]; simp at hc; simp [hc]
      · refine q_loop (n' := l.length - (j + 1)) (by omega) (ghost_keep2 [0, 1, 2, 6, 15, 16, 17] [] rfl rfl) ⟨j + 1, by omega, rfl, ?_, by rw [wrap64 (by omega) (by omega)]; rfl, rfl⟩
        rw [hi]; simp at hc; simp [hc]
    · repeat' (first | (with_reducible refine codeT_seq ?_) | (with_reducible refine codeT_block ?_) | (with_reducible refine codeT_skip ?_) | (with_reducible refine codeT_ret ?_) | (with_reducible refine codeT_exit ?_) | (with_reducible refine codeT_regionL ?_) | (with_reducible refine lx_nil ?_) | (with_reducible refine q_then ?_) | (with_reducible refine q_then_exit ?_) | ((with_reducible refine q_block_same ?_ ?_); · rfl) | (with_reducible refine q_loop_exit ?_) | ((with_reducible refine g_move ?_); first | refine lx_move (r := (.t _)) rfl rfl rfl rfl rfl ?_) | ((with_reducible refine g_binOp ?_); first | refine lx_arith rfl rfl rfl rfl rfl rfl rfl ?_) | ((with_reducible refine g_assign ?_); first | refine lx_assign (r := (.t _)) rfl rfl rfl rfl rfl ?_) | ((with_reducible refine g_indexAddr ?_); first | refine lx_indexAddr_map rfl rfl rfl rfl rfl rfl ?_ ?_ ?_) | refine c_condP rfl (fun hc => ?_) (fun hc => ?_))
      all_goals try (exfalso; omega)
      refine q_ret (resT_oneE rfl rfl ?_) (by simp)
      have hd : l.drop j = [] := List.drop_eq_nil_of_le (by omega)
      have hd2 : m.drop j = [] := List.drop_eq_nil_of_le (by omega)
      rw [hi, hd, hd2]; simp [Nd.sames]
  · refine q_ret (resT_oneE rfl rfl ?_) (by simp)
    have : ¬ Nd.sames l m = true := fun e => hc (by rw [(Nd.sames_iff l m).1 e])
    simpa using this
set_option maxHeartbeats 4000000 in
theorem same_spec (x : Nd) (hx : x.Ok) : ∀ y : Nd, Spec Tryd.prog 25 [.t x.toT, .t y.toT] [] (.t (.bool (x.same y))) [] := by
  induction hx with
  | @mk k b n t ns is h1 h2 h3 ih =>
  intro y
  cases y with
  | mk k' b' n' t' ns' is' =>
  have hn := equal_spec ns ns' h1
  have hf := equalFunc_spec is is' h2 ih
  rw [Nd.same]
  generalize Nd.sames is is' = v1 at *
  generalize decide (ns = ns') = v2 at *
  rw [Nd.toT_eq, Nd.toT_eq]
  refine spec_intro (env0 := [(0, _), (1, _)]) (st0 := []) Tryd.func25 rfl rfl rfl rfl ?_
  repeat' (first | (with_reducible refine codeT_seq ?_) | (with_reducible refine codeT_ret ?_) | (with_reducible refine codeT_regionL ?_) | (with_reducible refine lx_nil ?_) | (with_reducible refine q_then ?_) | ((with_reducible refine g_guard ?_); first | refine lx_skip rfl rfl rfl ?_) | ((with_reducible refine g_move ?_); first | refine lx_move (r := (.t _)) rfl rfl rfl rfl rfl ?_) | ((with_reducible refine g_load ?_); first | refine lx_load_var rfl rfl rfl rfl rfl rfl rfl rfl ?_) | ((with_reducible refine g_fieldAddr ?_); first | refine lx_fieldAddr rfl rfl rfl rfl rfl rfl rfl ?_) | ((with_reducible refine g_binOp ?_); first | refine lx_arith rfl rfl rfl rfl rfl rfl rfl ?_ | refine lx_str_eq rfl rfl rfl rfl rfl rfl ?_ | refine lx_bool_eq rfl rfl rfl rfl rfl rfl ?_) | ((with_reducible refine g_assign ?_); first | refine lx_assign (r := (.t _)) rfl rfl rfl rfl rfl ?_) | ((with_reducible refine g_pick ?_); first | refine lx_pickT (r := (.t _)) rfl rfl rfl rfl rfl rfl ?_ | refine lx_pickF (r := (.t _)) rfl rfl rfl rfl rfl rfl ?_) | ((with_reducible refine g_box ?_); first | refine lx_box (r := (.t (.agg _))) (cs := (List.map .t _)) rfl rfl rfl rfl rfl rfl rfl rfl rfl ?_) | ((with_reducible refine g_call ?_); first | refine lx_callT rfl rfl hn rfl rfl (ArgsLE.refl _) rfl rfl rfl rfl rfl ?_ | refine lx_callT rfl rfl hf rfl rfl (ArgsLE.refl _) rfl rfl rfl rfl rfl ?_) | refine lx_splitP rfl (fun hc => ?_) (fun hc => ?_) | refine lx_splitB rfl (fun hc => ?_) (fun hc => ?_))
  all_goals (clear ih hn hf; refine q_ret (resT_oneE rfl rfl ?_) (by simp); simp [*])
end Go.AL
/- What node.Texts and node.ReadTexts answer. -/
set_option linter.unusedVariables false
namespace Go.AL
open Go Go.Proofs Go.RowKit

def Nd.ofText (s : ByteArray) : Nd := .mk 3 false 0 s [] []
def Nd.ofTexts (l : List ByteArray) : Nd := .mk 4 false 0 eS [] (l.map Nd.ofText)
set_option maxHeartbeats 2000000 in
theorem Texts_spec (l : List ByteArray) (h : l.length ≤ 1000000000) : Spec Tryd.prog 26 [.t (.sl 1 (l.map .str))] [] (.t (Nd.ofTexts l).toT) [] := by
  unfold Nd.ofTexts
  rw [Nd.toT_eq]
  refine spec_introG (env0 := [(0, _)]) (st0 := []) Tryd.func26 rfl rfl rfl rfl ?_
  repeat' (first | (with_reducible refine codeT_seq ?_) | (with_reducible refine codeT_block ?_) | (with_reducible refine codeT_regionL ?_) | (with_reducible refine lx_nil ?_) | (with_reducible refine q_then ?_) | ((with_reducible refine g_move ?_); first | refine lx_move (r := (.t _)) rfl rfl rfl rfl rfl ?_) | ((with_reducible refine g_alloc ?_); first | refine lx_alloc rfl rfl rfl rfl rfl rfl rfl ?_) | ((with_reducible refine g_store ?_); first | refine lx_store_var (r := (.t (.agg _))) rfl rfl rfl rfl rfl rfl rfl rfl rfl rfl ?_) | ((with_reducible refine g_build ?_); first | refine lx_build (r := (.t (.agg _))) rfl rfl rfl rfl rfl rfl rfl ?_) | ((with_reducible refine g_len ?_); first | refine lx_len_map rfl rfl rfl rfl rfl ?_))
  refine codeT_ghost (ghost_cellNilL (r := .loc 3) 5 (.loc 100) 26 6 rfl rfl rfl rfl rfl) ?_
  refine codeT_ghost (ghost_keep2 [2, 3, 7, 8, 9] [.loc 2, .loc 3, .loc 100] rfl rfl) ?_
  have key : ∀ j, (l.take j).map (fun s => (Nd.ofText s).toT) = ((l.take j).map Nd.ofText).map Nd.toT := fun j => by rw [List.map_map]; rfl
  refine codeT_loop (fun p env st => ∃ (j : Nat), j ≤ l.length ∧ p = l.length - j ∧
      env = EnvL.get [(2, .ref (.loc 2) 0 0 0), (3, .ref (.loc 3) 0 0 0), (7, .t (.sl 1 (l.map .str))), (8, .t (.int .i64 l.length)), (9, .t (.int .i64 (j : Int)))] ∧ st = StO.get [(.loc 2, some (.var 26 [.t (.int .i64 0), .t (.bool false), .t (.int .i64 0), .t (.str ⟨#[]⟩), .t .nilsl, .t .nilsl])), (.loc 3, some (.var 26 [.t (.int .i64 4), .t (.bool false), .t (.int .i64 0), .t (.str ⟨#[]⟩), .t .nilsl, .row (.loc 100)])), (.loc 100, some (.slt 26 6 ((l.take j).map fun s => (Nd.ofText s).toT)))])
    ?_ (n := l.length) ⟨0, by omega, rfl, rfl, rfl⟩
  rintro p env st ⟨j, hj, rfl, rfl, rfl⟩
  by_cases hlt : j < l.length
  · have ht := Text_spec (l.getD (j : Int).toNat default)
    have hg : l.getD (j : Int).toNat default = l[j] := by simp [List.getD_eq_getElem?_getD, hlt]
    rw [Nd.toT_eq] at ht
    repeat' (first | (with_reducible refine codeT_seq ?_) | (with_reducible refine codeT_block ?_) | (with_reducible refine codeT_skip ?_) | (with_reducible refine codeT_ret ?_) | (with_reducible refine codeT_exit ?_) | (with_reducible refine codeT_regionL ?_) | ((with_reducible refine codeT_region_drawL ?_ ?_); · rfl) | (with_reducible refine lx_nil ?_) | (with_reducible refine q_then ?_) | (with_reducible refine q_then_exit ?_) | (with_reducible refine q_block ?_) | ((with_reducible refine q_block_same ?_ ?_); · rfl) | (with_reducible refine q_loop_exit ?_) | ((with_reducible refine q_region_draw ?_ ?_); · rfl) | ((with_reducible refine g_move ?_); first | refine lx_move (r := (.t _)) rfl rfl rfl rfl rfl ?_) | ((with_reducible refine g_load ?_); first | refine lx_load_var rfl rfl rfl rfl rfl rfl rfl rfl ?_ | refine lx_load_varA (r := (.agg _)) rfl rfl rfl rfl rfl rfl rfl rfl rfl ?_ | refine lx_load_tp rfl rfl rfl rfl rfl rfl rfl ?_) | ((with_reducible refine g_fieldAddr ?_); first | refine lx_fieldAddr rfl rfl rfl rfl rfl rfl rfl ?_) | ((with_reducible refine g_binOp ?_); first | refine lx_arith rfl rfl rfl rfl rfl rfl rfl ?_) | ((with_reducible refine g_assign ?_); first | refine lx_assign (r := (.t _)) rfl rfl rfl rfl rfl ?_) | ((with_reducible refine g_store ?_); first | refine lx_store_var (r := (.agg _)) rfl rfl rfl rfl rfl rfl rfl rfl rfl rfl ?_ | refine lx_store_var (r := (.row _)) rfl rfl rfl rfl rfl rfl rfl rfl rfl rfl ?_) | ((with_reducible refine g_indexAddr ?_); first | refine lx_indexAddr_map rfl rfl rfl rfl rfl rfl ?_ ?_ ?_) | ((with_reducible refine g_buildSlice ?_); first | refine lx_buildSlice rfl rfl rfl rfl rfl rfl rfl ?_) | ((with_reducible refine g_append ?_); first | refine lx_append_row rfl rfl rfl rfl rfl rfl rfl rfl rfl rfl ?_ ?_ ?_) | ((with_reducible refine g_call ?_); first | refine lx_callT rfl rfl ht rfl rfl (ArgsLE.refl _) rfl rfl rfl rfl rfl ?_) | refine c_condP rfl (fun hc => ?_) (fun hc => ?_))
    all_goals try omega
    all_goals try (simp only [List.length_map, List.length_cons, List.length_nil, List.length_take]; omega)
    refine q_loop (n' := l.length - (j + 1)) (by omega) ((ghost_keep2 [2, 3, 7, 8, 9] [.loc 2, .loc 3, .loc 18] rfl rfl).trans (ghost_renL2 (.loc 18) (.loc 100) rfl rfl rfl rfl)) ⟨j + 1, by omega, rfl, by rw [wrap64 (by omega) (by omega)]; rfl, ?_⟩
    rw [List.take_add_one, List.getElem?_eq_getElem hlt, ← hg, Option.toList_some, List.map_append, List.map_singleton]
    have e := Nd.toT_eq 3 false 0 (l.getD (j : Int).toNat default) [] []
    rw [show (Nd.ofText (l.getD (j : Int).toNat default)).toT = _ from e]
    rfl
  · repeat' (first | (with_reducible refine codeT_seq ?_) | (with_reducible refine codeT_block ?_) | (with_reducible refine codeT_skip ?_) | (with_reducible refine codeT_ret ?_) | (with_reducible refine codeT_exit ?_) | (with_reducible refine codeT_regionL ?_) | ((with_reducible refine codeT_region_drawL ?_ ?_); · rfl) | (with_reducible refine lx_nil ?_) | (with_reducible refine q_then ?_) | (with_reducible refine q_then_exit ?_) | ((with_reducible refine q_block_same ?_ ?_); · rfl) | (with_reducible refine q_loop_exit ?_) | ((with_reducible refine g_move ?_); first | refine lx_move (r := (.t _)) rfl rfl rfl rfl rfl ?_) | ((with_reducible refine g_load ?_); first | refine lx_load_var rfl rfl rfl rfl rfl rfl rfl rfl ?_ | refine lx_load_varA (r := (.agg _)) rfl rfl rfl rfl rfl rfl rfl rfl rfl ?_ | refine lx_load_tp rfl rfl rfl rfl rfl rfl rfl ?_) | ((with_reducible refine g_fieldAddr ?_); first | refine lx_fieldAddr rfl rfl rfl rfl rfl rfl rfl ?_) | ((with_reducible refine g_binOp ?_); first | refine lx_arith rfl rfl rfl rfl rfl rfl rfl ?_) | ((with_reducible refine g_assign ?_); first | refine lx_assign (r := (.t _)) rfl rfl rfl rfl rfl ?_) | ((with_reducible refine g_store ?_); first | refine lx_store_var (r := (.agg _)) rfl rfl rfl rfl rfl rfl rfl rfl rfl rfl ?_) | ((with_reducible refine g_indexAddr ?_); first | refine lx_indexAddr_map rfl rfl rfl rfl rfl rfl ?_ ?_ ?_) | refine c_condP rfl (fun hc => ?_) (fun hc => ?_))
    all_goals try (exfalso; omega)
    have hj2 : j = l.length := by omega
    subst hj2
    rw [List.take_length, List.map_map]
    refine q_ghost (ghost_keep2 [2] [.loc 2, .loc 100] rfl rfl) ?_
    refine q_ghost (ghost_freezeL (id := .loc 100) rfl rfl rfl) ?_
    refine q_done (q_ret ?_ (by simp)); refine resT_cell rfl rfl rfl inferInstance rfl inferInstance rfl ?_; exact TLe.av (by repeat first | exact TLe.refl _ | exact TLe.nil _ | exact TLe.esl _ | refine TLe.agg ?_ | refine TLs.cons ?_ ?_ | exact TLs.nil)
end Go.AL
/- What node.ReadTexts answers. -/
set_option linter.unusedVariables false
namespace Go.AL
open Go Go.Proofs Go.RowKit

def Nd.allText (l : List Nd) : Bool := l.all fun x => decide (x.kind = 3)
def Nd.readTexts (n : Nd) : List ByteArray × Bool := if n.kind = 4 ∧ Nd.allText n.items = true then (n.items.map Nd.text, true) else ([], false)
set_option maxHeartbeats 2000000 in
theorem ReadTexts_spec (x : Nd) (h : x.items.length ≤ 1000000000) : Spec Tryd.prog 27 [.t x.toT] [] (.tup [.t (.sl 1 (x.readTexts.1.map .str)), .t (.bool x.readTexts.2)]) [] := by
  cases x with
  | mk k b n t ns is =>
  simp only [Nd.items] at h
  rw [Nd.toT_eq]
  have hr : (Nd.mk k b n t ns is).readTexts = if k = 4 ∧ Nd.allText is = true then (is.map Nd.text, true) else ([], false) := rfl
  generalize (Nd.mk k b n t ns is).readTexts = res at *
  refine spec_introG (env0 := [(0, _)]) (st0 := []) Tryd.func27 rfl rfl rfl rfl ?_
  repeat' (first | (with_reducible refine codeT_seq ?_) | (with_reducible refine codeT_block ?_) | (with_reducible refine codeT_skip ?_) | (with_reducible refine codeT_ret ?_) | (with_reducible refine codeT_regionL ?_) | (with_reducible refine lx_nil ?_) | (with_reducible refine q_then ?_) | (with_reducible refine q_then_ret ?_) | ((with_reducible refine g_move ?_); first | refine lx_move (r := (.t _)) rfl rfl rfl rfl rfl ?_) | ((with_reducible refine g_load ?_); first | refine lx_load_var rfl rfl rfl rfl rfl rfl rfl rfl ?_) | ((with_reducible refine g_fieldAddr ?_); first | refine lx_fieldAddr rfl rfl rfl rfl rfl rfl rfl ?_) | ((with_reducible refine g_binOp ?_); first | refine lx_arith rfl rfl rfl rfl rfl rfl rfl ?_) | ((with_reducible refine g_assign ?_); first | refine lx_assign (r := (.t _)) rfl rfl rfl rfl rfl ?_) | ((with_reducible refine g_box ?_); first | refine lx_box (r := (.t (.agg _))) (cs := (List.map .t _)) rfl rfl rfl rfl rfl rfl rfl rfl rfl ?_) | ((with_reducible refine g_len ?_); first | refine lx_len_map rfl rfl rfl rfl rfl ?_) | refine c_condN rfl (fun hc => ?_) (fun hc => ?_))
  · have hr2 : res = if Nd.allText is = true then (is.map Nd.text, true) else ([], false) := by rw [hr]; simp [hc]
    clear hc hr
    refine codeT_ghost (ghost_nilL 4 (.loc 100) 9 1 rfl rfl rfl) ?_
    refine codeT_ghost (ghost_keep2 [2, 3, 4, 11, 12, 13] [.loc 100] rfl rfl) ?_
    refine codeT_loop (fun p env st => ∃ (j : Nat), j ≤ is.length ∧ p = is.length - j ∧ Nd.allText is = Nd.allText (is.drop j) ∧
        env = EnvL.get [(2, .t .nilsl), (3, .t (.bool false)), (4, .row (.loc 100)), (11, .t (.sl 6 (is.map Nd.toT))), (12, .t (.int .i64 is.length)), (13, .t (.int .i64 (j : Int)))] ∧ st = StO.get [(.loc 100, some (.slt 9 1 (((is.take j).map Nd.text).map .str)))])
      ?_ (n := is.length) ⟨0, by omega, rfl, rfl, rfl, rfl⟩
    rintro p env st ⟨j, hj, rfl, hi, rfl, rfl⟩
    by_cases hlt : j < is.length
    · have hd : is.drop j = is[j] :: is.drop (j + 1) := List.drop_eq_getElem_cons hlt
      have hg : is.getD (j : Int).toNat default = is[j] := by simp [List.getD_eq_getElem?_getD, hlt]
      have eX := (is.getD (j : Int).toNat default).toT_full
      have hi2 : Nd.allText is = (decide ((is.getD (j : Int).toNat default).kind = 3) && Nd.allText (is.drop (j + 1))) := by rw [hi, hd, hg]; rfl
      have ht : (is.take (j + 1)).map Nd.text = (is.take j).map Nd.text ++ [(is.getD (j : Int).toNat default).text] := by rw [List.take_add_one, List.getElem?_eq_getElem hlt, ← hg, Option.toList_some, List.map_append, List.map_singleton]
      repeat' (first | (with_reducible refine codeT_seq ?_) | (with_reducible refine codeT_block ?_) | (with_reducible refine codeT_skip ?_) | (with_reducible refine codeT_ret ?_) | (with_reducible refine codeT_exit ?_) | (with_reducible refine codeT_regionL ?_) | (with_reducible refine lx_nil ?_) | (with_reducible refine q_then ?_) | (with_reducible refine q_then_exit ?_) | (with_reducible refine q_then_ret ?_) | (with_reducible refine q_block ?_) | (with_reducible refine q_block_ret ?_) | ((with_reducible refine q_block_same ?_ ?_); · rfl) | (with_reducible refine q_loop_exit ?_) | (with_reducible refine q_loop_ret ?_) | refine lx_load_tpAE rfl rfl eX rfl rfl rfl rfl rfl rfl ?_ | ((with_reducible refine g_move ?_); first | refine lx_move (r := (.t _)) rfl rfl rfl rfl rfl ?_ | refine lx_move (r := (.row _)) rfl rfl rfl rfl rfl ?_) | ((with_reducible refine g_load ?_); first | refine lx_load_var rfl rfl rfl rfl rfl rfl rfl rfl ?_) | ((with_reducible refine g_fieldAddr ?_); first | refine lx_fieldAddr rfl rfl rfl rfl rfl rfl rfl ?_) | ((with_reducible refine g_binOp ?_); first | refine lx_arith rfl rfl rfl rfl rfl rfl rfl ?_) | ((with_reducible refine g_assign ?_); first | refine lx_assign (r := (.t _)) rfl rfl rfl rfl rfl ?_ | refine lx_assign (r := (.row _)) rfl rfl rfl rfl rfl ?_) | ((with_reducible refine g_alloc ?_); first | refine lx_alloc rfl rfl rfl rfl rfl rfl rfl ?_) | ((with_reducible refine g_store ?_); first | refine lx_store_var (r := (.t (.agg _))) rfl rfl rfl rfl rfl rfl rfl rfl rfl rfl ?_) | ((with_reducible refine g_indexAddr ?_); first | refine lx_indexAddr_map rfl rfl rfl rfl rfl rfl ?_ ?_ ?_) | ((with_reducible refine g_buildSlice ?_); first | refine lx_buildSlice rfl rfl rfl rfl rfl rfl rfl ?_) | ((with_reducible refine g_append ?_); first | refine lx_append_row rfl rfl rfl rfl rfl rfl rfl rfl rfl rfl ?_ ?_ ?_) | refine c_condP rfl (fun hc => ?_) (fun hc => ?_) | refine c_condN rfl (fun hc => ?_) (fun hc => ?_))
      all_goals try omega
      · simp only [List.length_map, List.length_cons, List.length_nil, List.length_take]; omega
      · simp only [List.length_map, List.length_cons, List.length_nil, List.length_take]; omega
      · refine q_loop (n' := is.length - (j + 1)) (by omega) ((ghost_keep2 [2, 3, 4, 11, 12, 13] [.loc 24] rfl rfl).trans (ghost_renL2 (.loc 24) (.loc 100) rfl rfl rfl rfl)) ⟨j + 1, by omega, rfl, by rw [hi2, decide_eq_true hc, Bool.true_and], by rw [wrap64 (by omega) (by omega)]; rfl, ?_⟩
        rw [ht, List.map_append, List.map_singleton]; rfl
      · have e2 : res = ([], false) := by rw [hr2, if_neg (by rw [hi2, decide_eq_false hc]; simp)]
        rw [e2]
        exact q_done (q_ret (resT_twoL rfl rfl rfl (by repeat first | exact TLe.refl _ | exact TLe.nil _ | exact TLe.esl _ | refine TLe.agg ?_ | refine TLs.cons ?_ ?_ | exact TLs.nil) (by repeat first | exact TLe.refl _ | exact TLe.nil _ | exact TLe.esl _ | refine TLe.agg ?_ | refine TLs.cons ?_ ?_ | exact TLs.nil)) (by simp))
    · have hj2 : j = is.length := by omega
      subst hj2
      have e2 : res = (is.map Nd.text, true) := by rw [hr2, if_pos (by rw [hi, List.drop_length]; rfl)]
      rw [e2, List.take_length]
      repeat' (first | (with_reducible refine codeT_seq ?_) | (with_reducible refine codeT_block ?_) | (with_reducible refine codeT_skip ?_) | (with_reducible refine codeT_ret ?_) | (with_reducible refine codeT_exit ?_) | (with_reducible refine codeT_regionL ?_) | (with_reducible refine lx_nil ?_) | (with_reducible refine q_then ?_) | (with_reducible refine q_then_exit ?_) | ((with_reducible refine q_block_same ?_ ?_); · rfl) | (with_reducible refine q_loop_exit ?_) | ((with_reducible refine g_move ?_); first | refine lx_move (r := (.row _)) rfl rfl rfl rfl rfl ?_) | ((with_reducible refine g_binOp ?_); first | refine lx_arith rfl rfl rfl rfl rfl rfl rfl ?_) | ((with_reducible refine g_assign ?_); first | refine lx_assign (r := (.t _)) rfl rfl rfl rfl rfl ?_ | refine lx_assign (r := (.row _)) rfl rfl rfl rfl rfl ?_) | ((with_reducible refine g_indexAddr ?_); first | refine lx_indexAddr_map rfl rfl rfl rfl rfl rfl ?_ ?_ ?_) | refine c_condP rfl (fun hc => ?_) (fun hc => ?_))
      all_goals try (exfalso; omega)
      refine q_ghost (ghost_keep2 [2, 3] [.loc 100] rfl rfl) ?_
      refine q_ghost (ghost_freezeL (id := .loc 100) rfl rfl rfl) ?_
      exact q_done (q_ret (resT_twoL rfl rfl rfl (by repeat first | exact TLe.refl _ | exact TLe.nil _ | exact TLe.esl _ | refine TLe.agg ?_ | refine TLs.cons ?_ ?_ | exact TLs.nil) (by repeat first | exact TLe.refl _ | exact TLe.nil _ | exact TLe.esl _ | refine TLe.agg ?_ | refine TLs.cons ?_ ?_ | exact TLs.nil)) (by simp))
  · have e2 : res = ([], false) := by rw [hr, if_neg (fun e => hc e.1)]
    rw [e2]
    exact q_done (q_ret (resT_twoL rfl rfl rfl (by repeat first | exact TLe.refl _ | exact TLe.nil _ | exact TLe.esl _ | refine TLe.agg ?_ | refine TLs.cons ?_ ?_ | exact TLs.nil) (by repeat first | exact TLe.refl _ | exact TLe.nil _ | exact TLe.esl _ | refine TLe.agg ?_ | refine TLs.cons ?_ ?_ | exact TLs.nil)) (by simp))
end Go.AL
