/- What slices.Clone answers, for slices of texts and of nodes: a slice of its own. -/
import Derived.Test.YtmidabiehblekaaDoorAl3
import Derived.Test.YtmidabiehblekaaDoorTy
import Derived.Test.YtmidabiehblekaaDoorNod1
set_option linter.unusedVariables false
namespace Go.AL
open Go Go.Proofs Go.RowKit

end Go.AL

/- What node.Own answers: the same node. -/
set_option linter.unusedVariables false
namespace Go.AL
open Go Go.Proofs Go.RowKit

end Go.AL

/- What node.fields and slices.IndexFunc answer. -/
set_option linter.unusedVariables false
namespace Go.AL
open Go Go.Proofs Go.RowKit

set_option maxHeartbeats 4000000 in
theorem fields_spec (x : Nd) : Spec Tryd.prog 68 [.t x.toT] [] (.t (.bool x.fieldsOK)) [] := by
  cases x with
  | mk k b n t ns is =>
  rw [Nd.toT_eq]
  refine spec_intro (env0 := [(0, _)]) (st0 := []) Tryd.func68 rfl rfl rfl rfl ?_
  repeat' (first | (with_reducible refine codeT_seq ?_) | (with_reducible refine codeT_ret ?_) | (with_reducible refine codeT_regionL ?_) | (with_reducible refine lx_nil ?_) | (with_reducible refine q_then ?_) | ((with_reducible refine g_guard ?_); first | refine lx_skip rfl rfl rfl ?_) | ((with_reducible refine g_move ?_); first | refine lx_move (r := (.t _)) rfl rfl rfl rfl rfl ?_) | ((with_reducible refine g_load ?_); first | refine lx_load_var rfl rfl rfl rfl rfl rfl rfl rfl ?_) | ((with_reducible refine g_fieldAddr ?_); first | refine lx_fieldAddr rfl rfl rfl rfl rfl rfl rfl ?_) | ((with_reducible refine g_binOp ?_); first | refine lx_arith rfl rfl rfl rfl rfl rfl rfl ?_ | refine lx_str_eq rfl rfl rfl rfl rfl rfl ?_) | ((with_reducible refine g_assign ?_); first | refine lx_assign (r := (.t _)) rfl rfl rfl rfl rfl ?_) | ((with_reducible refine g_pick ?_); first | refine lx_pickT (r := (.t _)) rfl rfl rfl rfl rfl rfl ?_ | refine lx_pickF (r := (.t _)) rfl rfl rfl rfl rfl rfl ?_) | ((with_reducible refine g_box ?_); first | refine lx_box (r := (.t (.agg _))) (cs := (List.map .t _)) rfl rfl rfl rfl rfl rfl rfl rfl rfl ?_) | ((with_reducible refine g_unOp ?_); first | refine lx_not rfl rfl rfl rfl rfl ?_) | ((with_reducible refine g_len ?_); first | refine lx_len_map rfl rfl rfl rfl rfl ?_) | refine lx_splitP rfl (fun hc => ?_) (fun hc => ?_) | refine lx_splitB rfl (fun hc => ?_) (fun hc => ?_))
  all_goals (refine q_ret (resT_oneE rfl rfl ?_) (by simp); simp_all [Nd.fieldsOK])
end Go.AL

/- What slices.IndexFunc and slices.ContainsFunc answer over nodes, for a function whose answers are known. -/
set_option linter.unusedVariables false
namespace Go.AL
open Go Go.Proofs Go.RowKit

/-- The laid tables, and a captured number. -/
def tabsL (oF oA : Obj) : StL := [(.par 100, .dat (.fix 0 oF)), (.par 101, .dat (.fix 1 oA))]
def idxF (p : Nd → Bool) : List Nd → Int → Int
  | [], _ => -1
  | x :: xs, j => if p x then j else idxF p xs (j + 1)

set_option maxHeartbeats 4000000 in
theorem indexFunc_spec (is : List Nd) (hl : is.length ≤ 1599289640354) (p : Nd → Bool) (dp : Int) (oF oA : Obj)
    (hp : ∀ x ∈ is, Spec Tryd.prog 72 [.t x.toT, .ref (.par 0) 0 0 0] [(.par 0, .var 3 [.t (.int .i64 dp)]), (.par 100, .dat (.fix 0 oF)), (.par 101, .dat (.fix 1 oA))] (.t (.bool (p x))) [(.par 0, .var 3 [.t (.int .i64 dp)]), (.par 100, .dat (.fix 0 oF)), (.par 101, .dat (.fix 1 oA))]) :
    Spec Tryd.prog 79 [.t (.sl 6 (is.map Nd.toT)), .fn 72 [.ref (.par 0) 0 0 0]] [(.par 0, .var 3 [.t (.int .i64 dp)]), (.par 100, .dat (.fix 0 oF)), (.par 101, .dat (.fix 1 oA))] (.t (.int .i64 (idxF p is 0))) [(.par 0, .var 3 [.t (.int .i64 dp)]), (.par 100, .dat (.fix 0 oF)), (.par 101, .dat (.fix 1 oA))] := by
  refine spec_intro (env0 := [(0, _), (1, _)]) (st0 := [(_, some _), (_, some _), (_, some _)]) Tryd.func79 rfl rfl rfl rfl ?_
  repeat' (first | (with_reducible refine codeT_seq ?_) | (with_reducible refine codeT_block ?_) | (with_reducible refine codeT_regionL ?_) | (with_reducible refine lx_nil ?_) | (with_reducible refine q_then ?_) | ((with_reducible refine g_move ?_); first | refine lx_move (r := (.t _)) rfl rfl rfl rfl rfl ?_) | ((with_reducible refine g_assign ?_); first | refine lx_assign (r := (.t _)) rfl rfl rfl rfl rfl ?_) | ((with_reducible refine g_len ?_); first | refine lx_len_map rfl rfl rfl rfl rfl ?_))
  refine codeT_ghost (ghost_keep2 [0, 1, 4, 7, 8] [.par 0, .par 100, .par 101] rfl rfl) ?_
  refine codeT_loop (fun m env st => ∃ (j : Nat), j ≤ is.length ∧ m = is.length - j ∧ idxF p is 0 = idxF p (is.drop j) j ∧
      env = EnvL.get [(0, .t (.sl 6 (is.map Nd.toT))), (1, .fn 72 [.ref (.par 0) 0 0 0]), (4, .t (.int .i64 0)), (7, .t (.int .i64 is.length)), (8, .t (.int .i64 (j : Int)))] ∧
      st = StO.get [(.par 0, some (.var 3 [.t (.int .i64 dp)])), (.par 100, some (.dat (.fix 0 oF))), (.par 101, some (.dat (.fix 1 oA)))])
    ?_ (n := is.length) ⟨0, by omega, rfl, rfl, rfl, rfl⟩
  rintro m env st ⟨j, hj, rfl, hi, rfl, rfl⟩
  by_cases hlt : j < is.length
  · have hx := hp is[j] (List.getElem_mem hlt)
    have hd : is.drop j = is[j] :: is.drop (j + 1) := List.drop_eq_getElem_cons hlt
    have hg : is.getD (j : Int).toNat default = is[j] := by simp [List.getD_eq_getElem?_getD, hlt]
    rw [← hg] at hx
    have hstep : idxF p (is.drop j) j = if p (is.getD (j : Int).toNat default) then (j : Int) else idxF p (is.drop (j + 1)) (j + 1) := by rw [hd, hg]; rfl
    rw [hstep] at hi
    generalize p (is.getD (j : Int).toNat default) = pv at hx hi
    repeat' (first | (with_reducible refine codeT_seq ?_) | (with_reducible refine codeT_block ?_) | (with_reducible refine codeT_skip ?_) | (with_reducible refine codeT_ret ?_) | (with_reducible refine codeT_exit ?_) | (with_reducible refine codeT_regionL ?_) | (with_reducible refine lx_nil ?_) | (with_reducible refine q_then ?_) | (with_reducible refine q_then_exit ?_) | (with_reducible refine q_then_ret ?_) | (with_reducible refine q_block ?_) | (with_reducible refine q_block_ret ?_) | ((with_reducible refine q_block_same ?_ ?_); · rfl) | (with_reducible refine q_loop_exit ?_) | (with_reducible refine q_loop_ret ?_) | refine lx_load_tpA rfl rfl rfl rfl rfl rfl (Nd.toT_agg _).2 (Nd.toT_agg _).1 ?_ | ((with_reducible refine g_move ?_); first | refine lx_move (r := (.t _)) rfl rfl rfl rfl rfl ?_ | refine lx_move (r := (.fn _ _)) rfl rfl rfl rfl rfl ?_) | ((with_reducible refine g_binOp ?_); first | refine lx_arith rfl rfl rfl rfl rfl rfl rfl ?_) | ((with_reducible refine g_assign ?_); first | refine lx_assign (r := (.t _)) rfl rfl rfl rfl rfl ?_) | ((with_reducible refine g_indexAddr ?_); first | refine lx_indexAddr_map rfl rfl rfl rfl rfl rfl ?_ ?_ ?_) | ((with_reducible refine g_call ?_); first | refine lx_call (r' := .t (.bool pv)) [] rfl rfl hx (ArgsLE.refl _) rfl ⟨rfl, rfl, rfl, trivial⟩ rfl rfl rfl rfl rfl rfl rfl rfl rfl rfl ?_) | refine c_condP rfl (fun hc => ?_) (fun hc => ?_) | refine c_condB rfl (fun hc => ?_) (fun hc => ?_))
    all_goals try omega
    · refine q_ret (resT_oneE rfl rfl ?_) (stHas_spec ⟨rfl, rfl, rfl, trivial⟩)
      rw [hi, hc]; rfl
    · exact q_loop (n' := is.length - (j + 1)) (by omega) (ghost_keep2 [0, 1, 4, 7, 8] [.par 0, .par 100, .par 101] rfl rfl) ⟨j + 1, by omega, rfl, by rw [hi, hc]; rfl, by rw [wrap64 (by omega) (by omega)]; rfl, rfl⟩
  · repeat' (first | (with_reducible refine codeT_seq ?_) | (with_reducible refine codeT_block ?_) | (with_reducible refine codeT_skip ?_) | (with_reducible refine codeT_ret ?_) | (with_reducible refine codeT_exit ?_) | (with_reducible refine codeT_regionL ?_) | (with_reducible refine lx_nil ?_) | (with_reducible refine q_then ?_) | (with_reducible refine q_then_exit ?_) | ((with_reducible refine q_block_same ?_ ?_); · rfl) | (with_reducible refine q_loop_exit ?_) | ((with_reducible refine g_move ?_); first | refine lx_move (r := (.t _)) rfl rfl rfl rfl rfl ?_ | refine lx_move (r := (.fn _ _)) rfl rfl rfl rfl rfl ?_) | ((with_reducible refine g_binOp ?_); first | refine lx_arith rfl rfl rfl rfl rfl rfl rfl ?_) | ((with_reducible refine g_assign ?_); first | refine lx_assign (r := (.t _)) rfl rfl rfl rfl rfl ?_) | ((with_reducible refine g_indexAddr ?_); first | refine lx_indexAddr_map rfl rfl rfl rfl rfl rfl ?_ ?_ ?_) | refine c_condP rfl (fun hc => ?_) (fun hc => ?_))
    all_goals try (exfalso; omega)
    refine q_ret (resT_oneE rfl rfl ?_) (stHas_spec ⟨rfl, rfl, rfl, trivial⟩)
    have hd : is.drop j = [] := List.drop_eq_nil_of_le (by omega)
    rw [hi, hd]; rfl
end Go.AL

/- What slices.ContainsFunc answers over nodes, for a function whose answers are known. -/
set_option linter.unusedVariables false
namespace Go.AL
open Go Go.Proofs Go.RowKit

theorem idxF_any (p : Nd → Bool) : ∀ (is : List Nd) (j : Int), 0 ≤ j → (decide (0 ≤ idxF p is j)) = is.any p
  | [], j, _ => by simp [idxF]
  | x :: xs, j, hj => by
    have ih := idxF_any p xs (j + 1) (by omega)
    by_cases hp : p x = true
    · simp [idxF, hp, hj]
    · simp only [idxF, List.any_cons, if_neg hp, ih]
      simp [hp]

set_option maxHeartbeats 1000000 in
theorem containsFunc_spec (is : List Nd) (hl : is.length ≤ 1599289640354) (p : Nd → Bool) (dp : Int) (oF oA : Obj)
    (hp : ∀ x ∈ is, Spec Tryd.prog 72 [.t x.toT, .ref (.par 0) 0 0 0] [(.par 0, .var 3 [.t (.int .i64 dp)]), (.par 100, .dat (.fix 0 oF)), (.par 101, .dat (.fix 1 oA))] (.t (.bool (p x))) [(.par 0, .var 3 [.t (.int .i64 dp)]), (.par 100, .dat (.fix 0 oF)), (.par 101, .dat (.fix 1 oA))]) :
    Spec Tryd.prog 71 [.t (.sl 6 (is.map Nd.toT)), .fn 72 [.ref (.par 0) 0 0 0]] [(.par 0, .var 3 [.t (.int .i64 dp)]), (.par 100, .dat (.fix 0 oF)), (.par 101, .dat (.fix 1 oA))] (.t (.bool (is.any p))) [(.par 0, .var 3 [.t (.int .i64 dp)]), (.par 100, .dat (.fix 0 oF)), (.par 101, .dat (.fix 1 oA))] := by
  have h := indexFunc_spec is hl p dp oF oA hp
  have e := idxF_any p is 0 (by omega)
  generalize idxF p is 0 = ix at h e
  refine spec_intro (env0 := [(0, _), (1, _)]) (st0 := [(_, some _), (_, some _), (_, some _)]) Tryd.func71 rfl rfl rfl rfl ?_
  repeat' (first | (with_reducible refine codeT_seq ?_) | (with_reducible refine codeT_ret ?_) | (with_reducible refine codeT_regionL ?_) | (with_reducible refine lx_nil ?_) | (with_reducible refine q_then ?_) | ((with_reducible refine g_move ?_); first | refine lx_move (r := (.t _)) rfl rfl rfl rfl rfl ?_ | refine lx_move (r := (.fn _ _)) rfl rfl rfl rfl rfl ?_) | ((with_reducible refine g_binOp ?_); first | refine lx_arith rfl rfl rfl rfl rfl rfl rfl ?_) | ((with_reducible refine g_assign ?_); first | refine lx_assign (r := (.t _)) rfl rfl rfl rfl rfl ?_) | ((with_reducible refine g_call ?_); first | refine lx_call (r' := .t (.int .i64 ix)) [] rfl rfl h (ArgsLE.refl _) rfl ⟨rfl, rfl, rfl, trivial⟩ rfl rfl rfl rfl rfl rfl rfl rfl rfl rfl ?_))
  exact q_ret (resT_oneE rfl rfl (by rw [e])) (stHas_spec ⟨rfl, rfl, rfl, trivial⟩)
end Go.AL

/- What node.text and node.names answer, given what utf8.ValidString answers. -/
set_option linter.unusedVariables false
namespace Go.AL
open Go Go.Proofs Go.RowKit

/-- What ValidString answers, over the laid tables. -/
def VSpec (oF oA : Obj) (V : ByteArray → Bool) : Prop := ∀ s : ByteArray, s.size ≤ 65536 → Spec Tryd.prog 32 [.t (.str s)] [(.par 100, .dat (.fix 0 oF)), (.par 101, .dat (.fix 1 oA))] (.t (.bool (V s))) [(.par 100, .dat (.fix 0 oF)), (.par 101, .dat (.fix 1 oA))]

set_option maxHeartbeats 1000000 in
theorem text_spec {oF oA : Obj} {V : ByteArray → Bool} (hV : VSpec oF oA V) (s : ByteArray) : Spec Tryd.prog 69 [.t (.str s)] [(.par 100, .dat (.fix 0 oF)), (.par 101, .dat (.fix 1 oA))] (.t (.bool (textB V s))) [(.par 100, .dat (.fix 0 oF)), (.par 101, .dat (.fix 1 oA))] := by
  by_cases hs : (s.size : Int) ≤ 65536
  · have h := hV s (by omega)
    have e : textB V s = V s := by simp [textB, hs]
    rw [e]
    generalize V s = v at h
    refine spec_intro (env0 := [(0, _)]) (st0 := [(_, some _), (_, some _)]) Tryd.func69 rfl rfl rfl rfl ?_
    repeat' (first | (with_reducible refine codeT_seq ?_) | (with_reducible refine codeT_ret ?_) | (with_reducible refine codeT_regionL ?_) | (with_reducible refine lx_nil ?_) | (with_reducible refine q_then ?_) | ((with_reducible refine g_guard ?_); first | refine lx_skip rfl rfl rfl ?_) | ((with_reducible refine g_move ?_); first | refine lx_move (r := (.t _)) rfl rfl rfl rfl rfl ?_) | ((with_reducible refine g_binOp ?_); first | refine lx_arith rfl rfl rfl rfl rfl rfl rfl ?_) | ((with_reducible refine g_assign ?_); first | refine lx_assign (r := (.t _)) rfl rfl rfl rfl rfl ?_) | ((with_reducible refine g_pick ?_); first | refine lx_pickT (r := (.t _)) rfl rfl rfl rfl rfl rfl ?_ | refine lx_pickF (r := (.t _)) rfl rfl rfl rfl rfl rfl ?_) | ((with_reducible refine g_len ?_); first | refine lx_len_str rfl rfl rfl rfl rfl ?_) | ((with_reducible refine g_call ?_); first | refine lx_call (r' := .t (.bool v)) [] rfl rfl h (ArgsLE.refl _) rfl ⟨rfl, rfl, trivial⟩ rfl rfl rfl rfl rfl rfl rfl rfl rfl rfl ?_) | refine lx_splitP rfl (fun hc => ?_) (fun hc => ?_))
    · exact q_ret (resT_oneE rfl rfl rfl) (stHas_spec ⟨rfl, rfl, trivial⟩)
    · exact absurd hs ‹_›
  · have e : textB V s = false := by simp [textB, hs]
    rw [e]
    refine spec_intro (env0 := [(0, _)]) (st0 := [(_, some _), (_, some _)]) Tryd.func69 rfl rfl rfl rfl ?_
    repeat' (first | (with_reducible refine codeT_seq ?_) | (with_reducible refine codeT_ret ?_) | (with_reducible refine codeT_regionL ?_) | (with_reducible refine lx_nil ?_) | (with_reducible refine q_then ?_) | ((with_reducible refine g_guard ?_); first | refine lx_skip rfl rfl rfl ?_) | ((with_reducible refine g_move ?_); first | refine lx_move (r := (.t _)) rfl rfl rfl rfl rfl ?_) | ((with_reducible refine g_binOp ?_); first | refine lx_arith rfl rfl rfl rfl rfl rfl rfl ?_) | ((with_reducible refine g_assign ?_); first | refine lx_assign (r := (.t _)) rfl rfl rfl rfl rfl ?_) | ((with_reducible refine g_pick ?_); first | refine lx_pickF (r := (.t _)) rfl rfl rfl rfl rfl rfl ?_) | ((with_reducible refine g_len ?_); first | refine lx_len_str rfl rfl rfl rfl rfl ?_) | ((with_reducible refine g_call ?_); first | exact absurd ‹(s.size : Int) ≤ 65536› hs) | refine lx_splitP rfl (fun hc => ?_) (fun hc => ?_))
    all_goals first | (exfalso; omega) | exact q_ret (resT_oneE rfl rfl rfl) (stHas_spec ⟨rfl, rfl, trivial⟩)
end Go.AL

/- What utf8.ValidString answers, as a contract over the laid tables. -/
set_option linter.unusedVariables false
namespace Go.AL
open Go Go.Proofs Go.RowKit Go.Lib

theorem sim_below {h : Heap} {m : Names} {st : Store} {w w' : World} (hs : Sim h m st w) (hb : Below w.heap.size w w') : Sim h m st w' ∧ Since h m st w h m st w' := by
  have hk : ∀ b, b < w.heap.size → w'.heap[b]? = w.heap[b]? := fun b hlt => hb.block b hlt
  refine ⟨⟨fun b o ho => ?_, fun id row hr => ?_, fun id row b hr hbk => ⟨(hs.sep id row b hr hbk).1, Nat.lt_of_lt_of_le (hs.sep id row b hr hbk).2 hb.size⟩, hs.inj⟩, ⟨hb.os, hb.tape, hb.output, hb.size, fun b hlt _ => ⟨hk b hlt, rfl⟩, fun _ _ hu => hu, fun id row b h1 h2 => .inr ⟨id, row, h1, h2⟩⟩, fun _ => rfl⟩
  · have := hs.imm b o ho
    rw [hk b (Array.getElem?_eq_some_iff.1 this).1]; exact this
  · have hc := ((fresh_nil (fun _ => .junk) st).2 id row hr).2
    exact SimRow.mono (N := []) (fun _ _ hu => hu) (fun _ _ => rfl) (by simp) hc (fun b hbk => hk b (hs.sep id row b hr hbk).2) (hs.rows id row hr)

theorem vspec {oF oA : Obj} (hT : ∀ w : World, w.heap[0]? = some oF → w.heap[1]? = some oA → Utf8Tabs 0 1 w) : VSpec oF oA (fun s => validD s.data.toList) := by
  intro s hsz
  refine ⟨fun h m vs w hs hn hr => ?_⟩
  obtain ⟨⟨u, e1, e2⟩, _⟩ := hr
  simp only [RepA, RepT] at e2
  subst e2
  have hv : vs = #[.string s] := by
    apply Array.ext_getElem?
    intro i
    match i with
    | 0 => simpa using e1
    | i + 1 => simp at hn ⊢; omega
  subst hv
  obtain ⟨b, o, k1, k2, k3, rfl⟩ := hs.rows (.par 100) _ rfl
  rw [k3] at k1
  simp [blk] at k1
  subst k1
  obtain ⟨b, o, j1, j2, j3, rfl⟩ := hs.rows (.par 101) _ rfl
  rw [j3] at j1
  simp [blk] at j1
  subst j1
  refine (Any.utf8_ValidString vLays s w (by omega) (hT w k2 j2)).mono ?_
  rintro e w' ⟨rfl, hb⟩
  obtain ⟨q1, q2⟩ := sim_below hs hb
  exact ⟨_, h, m, rfl, rfl, q1, q2⟩
end Go.AL

/- What node.names answers. -/
set_option linter.unusedVariables false
namespace Go.AL
open Go Go.Proofs Go.RowKit

theorem mget_mset_str (es : List (T × T)) (s r : ByteArray) (y : T) (h : keysOK .string es = true) : mget (mset es (.str s) y) (.str r) = if r = s then some y else mget es (.str r) := by
  induction es with
  | nil => simp [mset, mget, keyEq]
  | cons p es ih =>
    obtain ⟨k, v⟩ := p
    simp only [keysOK, Bool.and_eq_true] at h
    cases k with
    | str a =>
      simp only [mset, keyEq]
      by_cases e : s = a
      · subst e
        simp only [decide_true, if_true, mget, keyEq]
        by_cases e2 : r = s
        · simp [e2]
        · simp [e2]
      · simp only [e, decide_false, Bool.false_eq_true, if_false, mget, keyEq, ih h.2]
        by_cases e2 : r = a
        · subst e2; simp [Ne.symm e]
        · simp [e2]
    | _ => simp [isKeyT] at h
theorem keysOK_mset (d : TypeDesc) (es : List (T × T)) (k v : T) (h : keysOK d es = true) (hk : isKeyT d k = true) : keysOK d (mset es k v) = true := by
  induction es with
  | nil => simp [mset, keysOK, hk]
  | cons p es ih =>
    obtain ⟨a, b⟩ := p
    simp only [keysOK, Bool.and_eq_true] at h
    simp only [mset]
    split
    · simp [keysOK, h.1, h.2]
    · simp [keysOK, h.1, ih h.2]

set_option maxHeartbeats 4000000 in
theorem names_spec {oF oA : Obj} {V : ByteArray → Bool} (hV : VSpec oF oA V) (k : Int) (b : Bool) (n : Int) (t : ByteArray) (ns : List ByteArray) (is : List Nd) (h1 : ns.length ≤ 8796093021952) : Spec Tryd.prog 70 [.t (.agg [.int .i64 k, .bool b, .int .i64 n, .str t, .sl 1 (ns.map .str), .sl 6 (is.map Nd.toT)])] [(.par 100, .dat (.fix 0 oF)), (.par 101, .dat (.fix 1 oA))] (.t (.bool (namesOk (textB V) [] ns && decide ((ns.length : Int) = is.length)))) [(.par 100, .dat (.fix 0 oF)), (.par 101, .dat (.fix 1 oA))] := by
  refine spec_intro (env0 := [(0, _)]) (st0 := [(_, some _), (_, some _)]) Tryd.func70 rfl rfl rfl rfl ?_
  repeat' (first | (with_reducible refine codeT_seq ?_) | (with_reducible refine codeT_block ?_) | (with_reducible refine codeT_regionL ?_) | (with_reducible refine lx_nil ?_) | (with_reducible refine q_then ?_) | ((with_reducible refine g_move ?_); first | refine lx_move (r := (.t _)) rfl rfl rfl rfl rfl ?_) | ((with_reducible refine g_load ?_); first | refine lx_load_var rfl rfl rfl rfl rfl rfl rfl rfl ?_) | ((with_reducible refine g_fieldAddr ?_); first | refine lx_fieldAddr rfl rfl rfl rfl rfl rfl rfl ?_) | ((with_reducible refine g_assign ?_); first | refine lx_assign (r := (.t _)) rfl rfl rfl rfl rfl ?_ | refine lx_assign (r := (.row _)) rfl rfl rfl rfl rfl ?_) | ((with_reducible refine g_box ?_); first | refine lx_box (r := (.t (.agg _))) (cs := (List.map .t _)) rfl rfl rfl rfl rfl rfl rfl rfl rfl ?_) | ((with_reducible refine g_len ?_); first | refine lx_len_map rfl rfl rfl rfl rfl ?_) | ((with_reducible refine g_makeMap ?_); first | refine lx_makeMap rfl rfl rfl rfl rfl ?_))
  refine codeT_ghost (ghost_keep2 [1, 2, 3, 8, 9, 10] [.loc 6, .loc 1, .par 100, .par 101] rfl rfl) ?_
  refine codeT_loop (fun m env st => ∃ (j : Nat) (seen : List ByteArray) (es : List (T × T)), j ≤ ns.length ∧ m = ns.length - j ∧ keysOK .string es = true ∧ (∀ s, (mget es (.str s)).getD (.bool false) = .bool (inB s seen)) ∧ namesOk (textB V) [] ns = namesOk (textB V) seen (ns.drop j) ∧
      env = EnvL.get [(1, .ref (.loc 1) 0 0 0), (2, .t (.bool false)), (3, .row (.loc 6)), (8, .t (.sl 1 (ns.map .str))), (9, .t (.int .i64 ns.length)), (10, .t (.int .i64 (j : Int)))] ∧
      st = StO.get [(.loc 6, some (.dat (.map es))), (.loc 1, some (.var 26 [.t (.int .i64 k), .t (.bool b), .t (.int .i64 n), .t (.str t), .t (.sl 1 (ns.map .str)), .t (.sl 6 (is.map Nd.toT))])), (.par 100, some (.dat (.fix 0 oF))), (.par 101, some (.dat (.fix 1 oA)))])
    ?_ (n := ns.length) ⟨0, [], [], by omega, rfl, rfl, fun s => rfl, rfl, rfl, rfl⟩
  rintro m env st ⟨j, seen, es, hj, rfl, hes, hget, hi, rfl, rfl⟩
  by_cases hlt : j < ns.length
  · have hd : ns.drop j = ns[j] :: ns.drop (j + 1) := List.drop_eq_getElem_cons hlt
    have hg : ns.getD (j : Int).toNat default = ns[j] := by simp [List.getD_eq_getElem?_getD, hlt]
    have ht := text_spec hV (ns.getD (j : Int).toNat default)
    have hy := hget (ns.getD (j : Int).toNat default)
    have hi2 : namesOk (textB V) [] ns = if inB (ns.getD (j : Int).toNat default) seen || !textB V (ns.getD (j : Int).toNat default) then false else namesOk (textB V) (ns.getD (j : Int).toNat default :: seen) (ns.drop (j + 1)) := by rw [hi, hd, hg]; rfl
    generalize textB V (ns.getD (j : Int).toNat default) = tv at ht hi2
    generalize inB (ns.getD (j : Int).toNat default) seen = sv at hy hi2
    repeat' (first | (with_reducible refine codeT_seq ?_) | (with_reducible refine codeT_block ?_) | (with_reducible refine codeT_skip ?_) | (with_reducible refine codeT_ret ?_) | (with_reducible refine codeT_exit ?_) | (with_reducible refine codeT_regionL ?_) | (with_reducible refine lx_nil ?_) | (with_reducible refine q_then ?_) | (with_reducible refine q_then_exit ?_) | (with_reducible refine q_then_ret ?_) | (with_reducible refine q_block ?_) | (with_reducible refine q_block_ret ?_) | ((with_reducible refine q_block_same ?_ ?_); · rfl) | (with_reducible refine q_loop_exit ?_) | (with_reducible refine q_loop_ret ?_) | refine c_condT rfl ?_ | refine lx_lookup_as rfl rfl rfl rfl hy (fun _ => rfl) rfl rfl rfl rfl ?_ ?_ | ((with_reducible refine g_guard ?_); first | refine lx_skip rfl rfl rfl ?_) | ((with_reducible refine g_move ?_); first | refine lx_move (r := (.t _)) rfl rfl rfl rfl rfl ?_ | refine lx_move (r := (.row _)) rfl rfl rfl rfl rfl ?_) | ((with_reducible refine g_load ?_); first | refine lx_load_var rfl rfl rfl rfl rfl rfl rfl rfl ?_ | refine lx_load_tp rfl rfl rfl rfl rfl rfl rfl ?_) | ((with_reducible refine g_fieldAddr ?_); first | refine lx_fieldAddr rfl rfl rfl rfl rfl rfl rfl ?_) | ((with_reducible refine g_binOp ?_); first | refine lx_arith rfl rfl rfl rfl rfl rfl rfl ?_) | ((with_reducible refine g_assign ?_); first | refine lx_assign (r := (.t _)) rfl rfl rfl rfl rfl ?_) | ((with_reducible refine g_pick ?_); first | refine lx_pickT (r := (.t _)) rfl rfl rfl rfl rfl rfl ?_ | refine lx_pickF (r := (.t _)) rfl rfl rfl rfl rfl rfl ?_) | ((with_reducible refine g_indexAddr ?_); first | refine lx_indexAddr_map rfl rfl rfl rfl rfl rfl ?_ ?_ ?_) | ((with_reducible refine g_unOp ?_); first | refine lx_not rfl rfl rfl rfl rfl ?_) | ((with_reducible refine g_len ?_); first | refine lx_len_map rfl rfl rfl rfl rfl ?_) | ((with_reducible refine g_mapUpdate ?_); first | refine lx_mapUpdate rfl rfl rfl rfl rfl rfl rfl rfl ?_ ?_) | ((with_reducible refine g_call ?_); first | refine lx_call (r' := .t (.bool tv)) [] rfl rfl ht (ArgsLE.refl _) rfl ⟨rfl, rfl, trivial⟩ rfl rfl rfl rfl rfl rfl rfl rfl rfl rfl ?_) | refine c_condP rfl (fun hc => ?_) (fun hc => ?_) | refine c_condB rfl (fun hc => ?_) (fun hc => ?_) | refine lx_splitB rfl (fun hc => ?_) (fun hc => ?_))
    all_goals try first | omega | exact hes
    · refine q_ret (resT_oneE rfl rfl ?_) (stHas_spec ⟨rfl, rfl, trivial⟩)
      rw [hi2, hc]; simp
    · refine q_ret (resT_oneE rfl rfl ?_) (stHas_spec ⟨rfl, rfl, trivial⟩)
      rw [hi2, hc]; simp
    · refine q_loop (n' := ns.length - (j + 1)) (by omega) (ghost_keep2 [1, 2, 3, 8, 9, 10] [.loc 6, .loc 1, .par 100, .par 101] rfl rfl) ⟨j + 1, ns.getD (j : Int).toNat default :: seen, mset es (.str (ns.getD (j : Int).toNat default)) (.bool true), by omega, rfl, keysOK_mset _ _ _ _ hes rfl, ?_, ?_, ?_, rfl⟩
      · intro s
        rw [mget_mset_str _ _ _ _ hes]
        by_cases e : s = ns.getD (j : Int).toNat default
        · rw [if_pos e]; simp [inB, e]
        · rw [if_neg e, hget s]
          simp only [inB, List.any_cons]
          rw [decide_eq_false e]; rfl
      · rw [hi2, ‹sv = false›, show tv = true by simpa using hc]; rfl
      · rw [wrap64 (by omega) (by omega)]; rfl
  · have hj2 : j = ns.length := by omega
    have hdr : ns.drop j = [] := List.drop_eq_nil_of_le (by omega)
    rw [hdr] at hi
    have hi3 : namesOk (textB V) [] ns = true := hi
    repeat' (first | (with_reducible refine codeT_seq ?_) | (with_reducible refine codeT_block ?_) | (with_reducible refine codeT_skip ?_) | (with_reducible refine codeT_ret ?_) | (with_reducible refine codeT_exit ?_) | (with_reducible refine codeT_regionL ?_) | (with_reducible refine lx_nil ?_) | (with_reducible refine q_then ?_) | (with_reducible refine q_then_exit ?_) | ((with_reducible refine q_block_same ?_ ?_); · rfl) | (with_reducible refine q_loop_exit ?_) | ((with_reducible refine g_move ?_); first | refine lx_move (r := (.t _)) rfl rfl rfl rfl rfl ?_ | refine lx_move (r := (.row _)) rfl rfl rfl rfl rfl ?_) | ((with_reducible refine g_load ?_); first | refine lx_load_var rfl rfl rfl rfl rfl rfl rfl rfl ?_ | refine lx_load_tp rfl rfl rfl rfl rfl rfl rfl ?_) | ((with_reducible refine g_fieldAddr ?_); first | refine lx_fieldAddr rfl rfl rfl rfl rfl rfl rfl ?_) | ((with_reducible refine g_binOp ?_); first | refine lx_arith rfl rfl rfl rfl rfl rfl rfl ?_) | ((with_reducible refine g_assign ?_); first | refine lx_assign (r := (.t _)) rfl rfl rfl rfl rfl ?_) | ((with_reducible refine g_indexAddr ?_); first | refine lx_indexAddr_map rfl rfl rfl rfl rfl rfl ?_ ?_ ?_) | ((with_reducible refine g_len ?_); first | refine lx_len_map rfl rfl rfl rfl rfl ?_) | ((with_reducible refine g_lookup ?_); first | refine lx_lookup (zT := .bool _) rfl rfl rfl (fun _ => rfl) rfl rfl rfl rfl rfl ?_ ?_) | refine c_condP rfl (fun hc => ?_) (fun hc => ?_))
    all_goals try (exfalso; omega)
    refine q_ret (resT_oneE rfl rfl ?_) (stHas_spec ⟨rfl, rfl, trivial⟩)
    rw [hi3]; simp
end Go.AL

/- What the closure within node.valid answers, given what valid answers for that node. -/
set_option linter.unusedVariables false
namespace Go.AL
open Go Go.Proofs Go.RowKit

set_option maxHeartbeats 1000000 in
theorem valid1_spec {oF oA : Obj} (x : Nd) (dp : Int) (hd : -1000 ≤ dp ∧ dp ≤ 1000) (v : Bool)
    (h : Spec Tryd.prog 54 [.t x.toT, .t (.int .i64 (dp - 1))] [(.par 100, .dat (.fix 0 oF)), (.par 101, .dat (.fix 1 oA))] (.t (.bool v)) [(.par 100, .dat (.fix 0 oF)), (.par 101, .dat (.fix 1 oA))]) :
    Spec Tryd.prog 72 [.t x.toT, .ref (.par 0) 0 0 0] [(.par 0, .var 3 [.t (.int .i64 dp)]), (.par 100, .dat (.fix 0 oF)), (.par 101, .dat (.fix 1 oA))] (.t (.bool (!v))) [(.par 0, .var 3 [.t (.int .i64 dp)]), (.par 100, .dat (.fix 0 oF)), (.par 101, .dat (.fix 1 oA))] := by
  cases x with
  | mk k b n t ns is =>
  rw [Nd.toT_eq] at *
  rw [← wrap64 (n := dp - 1) (by omega) (by omega)] at h
  refine spec_intro (env0 := [(0, _), (1, _)]) (st0 := [(_, some _), (_, some _), (_, some _)]) Tryd.func72 rfl rfl rfl rfl ?_
  repeat' (first | (with_reducible refine codeT_seq ?_) | (with_reducible refine codeT_ret ?_) | (with_reducible refine codeT_regionL ?_) | (with_reducible refine lx_nil ?_) | (with_reducible refine q_then ?_) | ((with_reducible refine g_load ?_); first | refine lx_load_var rfl rfl rfl rfl rfl rfl rfl rfl ?_ | refine lx_load_varA (r := (.t (.agg _))) rfl rfl rfl rfl rfl rfl rfl rfl rfl ?_) | ((with_reducible refine g_binOp ?_); first | refine lx_arith rfl rfl rfl rfl rfl rfl rfl ?_) | ((with_reducible refine g_assign ?_); first | refine lx_assign (r := (.t _)) rfl rfl rfl rfl rfl ?_) | ((with_reducible refine g_box ?_); first | refine lx_box (r := (.t (.agg _))) (cs := (List.map .t _)) rfl rfl rfl rfl rfl rfl rfl rfl rfl ?_) | ((with_reducible refine g_unOp ?_); first | refine lx_not rfl rfl rfl rfl rfl ?_) | ((with_reducible refine g_call ?_); first | refine lx_call (r' := .t (.bool v)) [] rfl rfl h (ArgsLE.refl _) rfl ⟨rfl, rfl, trivial⟩ rfl rfl rfl rfl rfl rfl rfl rfl rfl rfl ?_))
  exact q_ret (resT_oneE rfl rfl rfl) (stHas_spec ⟨rfl, rfl, rfl, trivial⟩)
end Go.AL

/- What node.valid answers. -/
set_option linter.unusedVariables false
namespace Go.AL
open Go Go.Proofs Go.RowKit

set_option maxHeartbeats 8000000 in
theorem valid_spec {oF oA : Obj} {V : ByteArray → Bool} (hV : VSpec oF oA V) : ∀ x : Nd, x.Ok → ∀ dp : Int, -900 ≤ dp → dp ≤ 1000 → Spec Tryd.prog 54 [.t x.toT, .t (.int .i64 dp)] [(.par 100, .dat (.fix 0 oF)), (.par 101, .dat (.fix 1 oA))] (.t (.bool (x.validB V dp))) [(.par 100, .dat (.fix 0 oF)), (.par 101, .dat (.fix 1 oA))] := by
  intro x hx
  induction hx with
  | @mk k b n t ns is h1 h2 h3 ih =>
  intro dp hd1 hd2
  have hf := fields_spec (.mk k b n t ns is)
  have ht := text_spec hV t
  have hn := names_spec hV k b n t ns is h1
  have hcf : 1 ≤ dp → Spec Tryd.prog 71 [.t (.sl 6 (is.map Nd.toT)), .fn 72 [.ref (.par 0) 0 0 0]] [(.par 0, .var 3 [.t (.int .i64 dp)]), (.par 100, .dat (.fix 0 oF)), (.par 101, .dat (.fix 1 oA))] (.t (.bool (Nd.anyBad V is (dp - 1)))) [(.par 0, .var 3 [.t (.int .i64 dp)]), (.par 100, .dat (.fix 0 oF)), (.par 101, .dat (.fix 1 oA))] := fun h => by
    rw [Nd.anyBad_any]
    exact containsFunc_spec is h2 _ dp oF oA fun x hx => valid1_spec x dp ⟨by omega, by omega⟩ _ (ih x hx (dp - 1) (by omega) (by omega))
  rw [Nd.validB]
  rw [Nd.toT_eq] at hf ⊢
  generalize (Nd.mk k b n t ns is).fieldsOK = bf at hf ⊢
  generalize textB V t = bt at ht ⊢
  generalize (namesOk (textB V) [] ns && decide ((ns.length : Int) = is.length)) = bn at hn ⊢
  generalize Nd.anyBad V is (dp - 1) = bc at hcf ⊢
  refine spec_intro (env0 := [(0, _), (1, _)]) (st0 := [(_, some _), (_, some _)]) Tryd.func54 rfl rfl rfl rfl ?_
  repeat' (first | (with_reducible refine codeT_seq ?_) | (with_reducible refine codeT_skip ?_) | (with_reducible refine codeT_ret ?_) | (with_reducible refine codeT_regionL ?_) | (with_reducible refine lx_nil ?_) | (with_reducible refine q_then ?_) | (with_reducible refine q_then_ret ?_) | refine c_condT rfl ?_ | refine c_condF rfl ?_ | ((with_reducible refine g_guard ?_); first | refine lx_skip rfl rfl rfl ?_) | ((with_reducible refine g_move ?_); first | refine lx_move (r := (.t _)) rfl rfl rfl rfl rfl ?_) | ((with_reducible refine g_load ?_); first | refine lx_load_var rfl rfl rfl rfl rfl rfl rfl rfl ?_ | refine lx_load_varA (r := (.t (.agg _))) rfl rfl rfl rfl rfl rfl rfl rfl rfl ?_) | ((with_reducible refine g_fieldAddr ?_); first | refine lx_fieldAddr rfl rfl rfl rfl rfl rfl rfl ?_) | ((with_reducible refine g_binOp ?_); first | refine lx_arith rfl rfl rfl rfl rfl rfl rfl ?_) | ((with_reducible refine g_assign ?_); first | refine lx_assign (r := (.t _)) rfl rfl rfl rfl rfl ?_) | ((with_reducible refine g_pick ?_); first | refine lx_pickT (r := (.t _)) rfl rfl rfl rfl rfl rfl ?_ | refine lx_pickF (r := (.t _)) rfl rfl rfl rfl rfl rfl ?_) | ((with_reducible refine g_box ?_); first | refine lx_box (r := (.t (.agg _))) (cs := (List.map .t _)) rfl rfl rfl rfl rfl rfl rfl rfl rfl ?_ | refine lx_box (r := (.t _)) (cs := [.t _]) rfl rfl rfl rfl rfl rfl rfl rfl rfl ?_) | ((with_reducible refine g_unOp ?_); first | refine lx_not rfl rfl rfl rfl rfl ?_) | ((with_reducible refine g_makeFunc ?_); first | refine lx_makeFunc rfl rfl rfl rfl rfl ?_) | ((with_reducible refine g_len ?_); first | refine lx_len_map rfl rfl rfl rfl rfl ?_) | ((with_reducible refine g_call ?_); first | refine lx_callT rfl rfl hf rfl rfl (ArgsLE.refl _) rfl rfl rfl rfl rfl ?_ | refine lx_call (r' := .t (.bool bt)) [] rfl rfl ht (ArgsLE.refl _) rfl ⟨rfl, rfl, trivial⟩ rfl rfl rfl rfl rfl rfl rfl rfl rfl rfl ?_ | refine lx_call (r' := .t (.bool bn)) [] rfl rfl hn (ArgsLE.refl _) rfl ⟨rfl, rfl, trivial⟩ rfl rfl rfl rfl rfl rfl rfl rfl rfl rfl ?_ | refine lx_call (r' := .t (.bool bc)) [(.par 0, .loc 3)] rfl rfl (hcf (by omega)) (ArgsLE.refl _) rfl ⟨rfl, rfl, rfl, trivial⟩ rfl rfl rfl rfl rfl rfl rfl rfl rfl rfl ?_) | refine c_condP rfl (fun hc => ?_) (fun hc => ?_) | refine c_condB rfl (fun hc => ?_) (fun hc => ?_) | refine lx_splitP rfl (fun hc => ?_) (fun hc => ?_) | refine lx_splitB rfl (fun hc => ?_) (fun hc => ?_))
  all_goals try clear hf
  all_goals try clear ht
  all_goals try clear hn
  all_goals try clear hcf
  all_goals try clear ih
  all_goals try (refine q_ret (resT_oneE rfl rfl ?_) (stHas_spec ⟨rfl, rfl, trivial⟩); simp_all; done)
end Go.AL

/- What node.Valid, node.Text, node.Number, node.List and node.Map answer. -/
set_option linter.unusedVariables false
namespace Go.AL
open Go Go.Proofs Go.RowKit

set_option maxHeartbeats 1000000 in
theorem Valid_spec {oF oA : Obj} {V : ByteArray → Bool} (hV : VSpec oF oA V) (x : Nd) (hx : x.Ok) : Spec Tryd.prog 36 [.t x.toT] [(.par 100, .dat (.fix 0 oF)), (.par 101, .dat (.fix 1 oA))] (.t (.bool (x.validB V 8))) [(.par 100, .dat (.fix 0 oF)), (.par 101, .dat (.fix 1 oA))] := by
  have h := valid_spec hV x hx 8 (by omega) (by omega)
  generalize x.validB V 8 = v at h ⊢
  cases x with
  | mk k b n t ns is =>
  rw [Nd.toT_eq] at *
  refine spec_intro (env0 := [(0, _)]) (st0 := [(_, some _), (_, some _)]) Tryd.func36 rfl rfl rfl rfl ?_
  repeat' (first | (with_reducible refine codeT_seq ?_) | (with_reducible refine codeT_ret ?_) | (with_reducible refine codeT_regionL ?_) | (with_reducible refine lx_nil ?_) | (with_reducible refine q_then ?_) | ((with_reducible refine g_load ?_); first | refine lx_load_varA (r := (.t (.agg _))) rfl rfl rfl rfl rfl rfl rfl rfl rfl ?_) | ((with_reducible refine g_assign ?_); first | refine lx_assign (r := (.t _)) rfl rfl rfl rfl rfl ?_) | ((with_reducible refine g_box ?_); first | refine lx_box (r := (.t (.agg _))) (cs := (List.map .t _)) rfl rfl rfl rfl rfl rfl rfl rfl rfl ?_) | ((with_reducible refine g_call ?_); first | refine lx_call (r' := .t (.bool v)) [] rfl rfl h (ArgsLE.refl _) rfl ⟨rfl, rfl, trivial⟩ rfl rfl rfl rfl rfl rfl rfl rfl rfl rfl ?_))
  exact q_ret (resT_oneE rfl rfl rfl) (stHas_spec ⟨rfl, rfl, trivial⟩)

end Go.AL
