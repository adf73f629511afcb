/- The layer of abstract values, third part: the steps of a walk, and what a law needs of its arguments; each under the conditions that its own theorem names. -/
import Derived.Test.YtmidabiehblekaaGreatDoorAl2
import Derived.SizedLaws
import Derived.OpenShut
import Derived.Carry
import Derived.SliceStrings
import Derived.MapKept
import Derived.Laws.Cover3
import Derived.Lib.Builder
import Derived.Lib.UnsafeStr
import Derived.Laws.Externs
set_option linter.unusedVariables false
set_option linter.unusedSimpArgs false
namespace Go.AL
open Go Go.RowKit
abbrev StO := List (Id × Option Row)
def StO.get : StO → zn
  | [], _ => none
  | (i, r) :: l, id => if i = id then r else StO.get l id
def zdW (N : List Id) : Option Row → Bool
  | none => true
  | some r => r.clean N
def zbl (N : List Id) : EnvL → Bool
  | [] => true
  | (_, x) :: l => x.clean N && zbl N l
def vp (N : List Id) : StO → Bool
  | [] => true
  | (i, r) :: l => !N.contains i && zdW N r && vp N l
theorem vT {N : List Id} : ∀ {l : EnvL}, zbl N l = true → ∀ t, (EnvL.get l t).clean N = true
  | [], _, t => rfl
  | (i, x) :: l, h, t => by
    simp only [zbl, Bool.and_eq_true] at h
    simp only [EnvL.get]
    split
    · exact h.1
    · exact vT h.2 t
theorem qx {N : List Id} : ∀ {l : StO}, vp N l = true → ∀ id row, StO.get l id = some row → id ∉ N ∧ row.clean N = true
  | [], _, id, row, h => by simp [StO.get] at h
  | (i, r) :: l, h, id, row, hr => by
    simp only [vp, Bool.and_eq_true, Bool.not_eq_true'] at h
    simp only [StO.get] at hr
    split at hr
    · rename_i e
      subst e
      rw [hr] at h
      exact ⟨by simpa using h.1.1, h.1.2⟩
    · exact qx h.2 id row hr
def zX (N : List Id) (env : EnvL) (st : StO) : Bool := zbl N env && vp N st
theorem zH {N : List Id} {env : EnvL} {st : StO} (h : zX N env st = true) : xI N env.get st.get := by
  simp only [zX, Bool.and_eq_true] at h
  exact ⟨vT h.1, qx h.2⟩
theorem xM (env : Env) (st : zn) : xI [] env st := by
  refine ⟨fun t => ?_, fun id row h => ⟨by simp, ?_⟩⟩
  · have := (xT [env t]).1
    simpa [AV.cleanL] using this
  · cases row with
    | var ty cs => exact (xT cs).1
    | slt => rfl
    | arr => rfl
    | dat => rfl
    | loop k cs =>
      simp only [Row.clean, List.all_eq_true]
      intro x _
      have := (xT [x.2]).1
      simpa [AV.cleanL] using this
section
variable {P : Program} {nt : Nat} {ops : Array Oper}
inductive LexP (P : Program) (nt : Nat) (ops : Array Oper) : List Oper → EnvL → StO → List SD → (EnvL → StO → List SD → Prop) → Prop
  | nil {env : EnvL} {st : StO} {acc : List SD} {K : EnvL → StO → List SD → Prop} (h : K env st acc) : LexP P nt ops [] env st acc K
  | cons {o : Oper} {rest : List Oper} {env env' : EnvL} {st st' : StO} {acc : List SD} {K : EnvL → StO → List SD → Prop} {d : SD} (h1 : StepOK P nt ops o d env.get st.get) (h2 : env'.get = zK o d env.get) (h3 : st'.get = zY d st.get) (h4 : LexP P nt ops rest env' st' (d :: acc) K) : LexP P nt ops (o :: rest) env st acc K
theorem LexP.ex {o : Oper} {rest : List Oper} {env : EnvL} {st : StO} {acc : List SD} {K : EnvL → StO → List SD → Prop} (h : ∃ d env' st', StepOK P nt ops o d env.get st.get ∧ env'.get = zK o d env.get ∧ st'.get = zY d st.get ∧ LexP P nt ops rest env' st' (d :: acc) K) : LexP P nt ops (o :: rest) env st acc K :=
  let ⟨_, _, _, h1, h2, h3, h4⟩ := h
  .cons h1 h2 h3 h4
theorem zaq : ∀ {l : List Oper} {env : EnvL} {st : StO} {acc : List SD} {K : EnvL → StO → List SD → Prop} {k : Nat}, (∀ j, l[j]? = ops[k + j]?) → acc.length = k → LexP P nt ops l env st acc K →
    ∃ env' st' accF, K env' st' accF ∧ (∃ more, accF = more ++ acc) ∧ accF.length = k + l.length ∧ Run P nt ops (fun i => accF.reverse.getD i default) (List.range' k l.length) env.get st.get env'.get st'.get
  | [], env, st, acc, K, k, hl, ha, .nil H => ⟨env, st, acc, H, ⟨[], rfl⟩, by simp [ha], by simpa using Run.nil _ _⟩
  | o :: l, env, st, acc, K, k, hl, ha, .cons (env' := env1) (st' := st1) (d := d) h1 h2 h3 h4 => by
    obtain ⟨env', st', accF, k1, ⟨more, k2⟩, k3, k4⟩ := zaq (k := k + 1) (fun j => by have := hl (j + 1); simpa [Nat.add_assoc, Nat.add_comm 1 j] using this) (by simp [ha]) h4
    refine ⟨env', st', accF, k1, ⟨more ++ [d], by simp [k2]⟩, by simp [k3]; omega, ?_⟩
    have hd : accF.reverse.getD k default = d := by
      rw [k2]
      simp [List.getD_eq_getElem?_getD, ha]
    rw [List.length_cons, List.range'_succ]
    have ho : ops[k]? = some o := by simpa using (hl 0).symm
    refine Run.cons ho (by rw [hd]; exact h1) ?_
    rw [hd, ← h2, ← h3]
    exact k4
theorem kK {id : Nat} {l : List Oper} {env : EnvL} {st : StO} {Q : Exit → Env → zn → Prop} (H : LexP P nt l.toArray l env st [] (fun env' st' _ => Q .normal env'.get st'.get)) : CodeT P nt (.region id l.toArray false) env.get st.get Q := by
  obtain ⟨env', st', accF, k1, _, _, k4⟩ := zaq (ops := l.toArray) (k := 0) (by simp) rfl H
  refine j5 (D := fun i => accF.reverse.getD i default) (env' := env'.get) (st' := st'.get) ?_ k1
  rw [← List.range_eq_range'] at k4
  simpa using k4
def zbt (ms : List Nat) (o : Oper) : Nat := o.after.toList.foldl (fun s e => if Region.binds .any e then s ||| 2 ^ e.on ||| ms.getD e.on 0 else s) 0
def zdU : List Oper → List Nat → List Nat
  | [], ms => ms
  | o :: l, ms => zdU l (ms ++ [zbt ms o])
theorem zas {ms : List Nat} {o : Oper} {i k : Nat} (ho : ops[i]? = some o) (hms : ∀ j k, (ms.getD j 0).testBit k = true → Anc ops k j) (h : (zbt ms o).testBit k = true) : Anc ops k i := by
  unfold zbt at h
  have key : ∀ (l : List Edge) (s : Nat), (∀ e ∈ l, e ∈ o.after) → (s.testBit k = true → Anc ops k i) → (l.foldl (fun s e => if Region.binds .any e then s ||| 2 ^ e.on ||| ms.getD e.on 0 else s) s).testBit k = true → Anc ops k i := by
    intro l
    induction l with
    | nil => intro s _ hs h; exact hs h
    | cons e l ih =>
      intro s hl hs h
      refine ih _ (fun e' he' => hl e' (by simp [he'])) ?_ h
      intro hb
      simp only at hb
      split at hb
      · rename_i hbind
        simp only [Nat.testBit_or, Bool.or_eq_true] at hb
        rcases hb with (hb | hb) | hb
        · exact hs hb
        · have : e.on = k := by
            rw [Nat.testBit_two_pow] at hb
            simpa using hb
          exact .edge ho (hl e (by simp)) hbind this
        · exact .step ho (hl e (by simp)) hbind (hms e.on k hb)
      · exact hs hb
  exact key o.after.toList 0 (fun e he => by simpa using he) (by simp) h
theorem q7 : ∀ {l : List Oper} {ms : List Nat}, (∀ j, l[j]? = ops[ms.length + j]?) → (∀ j k, (ms.getD j 0).testBit k = true → Anc ops k j) → ∀ j k, ((zdU l ms).getD j 0).testBit k = true → Anc ops k j
  | [], ms, _, h => h
  | o :: l, ms, hl, h => by
    refine q7 (l := l) (ms := ms ++ [zbt ms o]) (fun j => ?_) fun j k hb => ?_
    · have := hl (j + 1)
      simpa [Nat.add_assoc, Nat.add_comm 1 j] using this
    · rw [List.getD_eq_getElem?_getD, List.getElem?_append] at hb
      split at hb
      · exact h j k (by rw [List.getD_eq_getElem?_getD]; exact hb)
      · rename_i hj
        rcases Nat.lt_or_ge (j - ms.length) 1 with h1 | h1
        · have e : j = ms.length := by omega
          subst e
          simp at hb
          exact zas (by simpa using (hl 0).symm) h hb
        · rw [List.getElem?_eq_none (by simpa using h1)] at hb
          simp at hb
def zfS (d : SD) (N : List Id) : Bool := d.r.clean N && d.R'.all fun x => !N.contains x.1 && x.2.clean N
def zfs (a b : List Id) : Bool := a.all fun x => !b.contains x
def zbb (ops : Array Oper) (ok oi : Oper) (dk di : SD) : Bool := ok.apart ops oi && zfs dk.W di.R.ids && zfs di.W dk.R.ids && zfs dk.N di.R.ids && zfs dk.N di.N
theorem jM {d : SD} {N : List Id} (h : zfS d N = true) : xv d N := by
  simp only [zfS, Bool.and_eq_true, List.all_eq_true, Bool.not_eq_true'] at h
  refine ⟨h.1, fun id row hr => ?_⟩
  have := h.2 _ (StL.get_mem hr)
  exact ⟨by simpa using this.1, this.2⟩
theorem wW {a b : List Id} (h : zfs a b = true) : ∀ id, id ∈ a → id ∉ b := by
  simp only [zfs, List.all_eq_true, Bool.not_eq_true'] at h
  exact fun id hid => by simpa using h id hid
theorem jD {ok oi : Oper} {dk di : SD} (h : zbb ops ok oi dk di = true) : Compat ops ok oi dk di := by
  simp only [zbb, Bool.and_eq_true] at h
  exact ⟨h.1.1.1.1, wW h.1.1.1.2, wW h.1.1.2, wW h.1.2, wW h.2⟩
def zfp (ops : Array Oper) (ms : List Nat) (xs : List (Nat × Oper × SD)) : Bool :=
  xs.all fun (i, oi, di) => xs.all fun (k, ok, dk) =>
    if k < i then (ms.getD i 0).testBit k || (zbb ops ok oi dk di && zfS di dk.N && zfS dk di.N)
    else true
def zfj (xs : List (Nat × Oper × SD)) : Bool :=
  xs.all fun (i, oi, di) => xs.all fun (k, ok, dk) => if k < i then zfS dk di.N else true
def zeM (xs : List (Nat × Oper × SD)) : Bool := xs.all fun (i, oi, di) => oi.after.toList.all fun e => !Region.binds .any e || decide (e.on < i)
def zfu : Nat → List Oper → List SD → List (Nat × Oper × SD)
  | k, o :: l, d :: ds => (k, o, d) :: zfu (k + 1) l ds
  | _, _, _ => []
theorem zbB : ∀ {l : List Oper} {ds : List SD} {k j : Nat} {o : Oper}, l.length = ds.length → l[j]? = some o → (k + j, o, ds.getD j default) ∈ zfu k l ds
  | [], _, _, _, _, _, h => by simp at h
  | o :: l, [], _, _, _, hl, _ => by simp at hl
  | o :: l, d :: ds, k, 0, o', hl, h => by simp at h; subst h; simp [zfu]
  | o :: l, d :: ds, k, j + 1, o', hl, h => by
    have := zbB (l := l) (ds := ds) (k := k + 1) (j := j) (by simpa using hl) (by simpa using h)
    simp only [zfu, List.mem_cons]
    right
    rw [show k + (j + 1) = k + 1 + j from by omega]
    simpa [List.getD_eq_getElem?_getD] using this
def ky (l : List Oper) (ds : List SD) (env : EnvL) (st : StO) : Bool :=
  let xs := zfu 0 l ds
  zeM xs && zfj xs && zfp l.toArray (zdU l []) xs && ds.all fun d => zX d.N env st
theorem w5 {id : Nat} {l : List Oper} {env : EnvL} {st : StO} {Q : Exit → Env → zn → Prop} (hm : P.follows .mixedOrders = true) (H : LexP P nt l.toArray l env st [] (fun env' st' acc => ky l acc.reverse env st = true ∧ Q .normal env'.get st'.get)) : CodeT P nt (.region id l.toArray true) env.get st.get Q := by
  obtain ⟨env', st', accF, ⟨c, k1⟩, _, k3, k4⟩ := zaq (ops := l.toArray) (k := 0) (by simp) rfl H
  have hlen : l.length = accF.reverse.length := by simp [k3]
  have get : ∀ i o, l.toArray[i]? = some o → (i, o, accF.reverse.getD i default) ∈ zfu 0 l accF.reverse := fun i o ho => by
    have := zbB (k := 0) (j := i) hlen (by simpa using ho)
    simpa using this
  simp only [ky, Bool.and_eq_true] at c
  obtain ⟨⟨⟨c1, c2⟩, c3⟩, c4⟩ := c
  have hmask : ∀ j k, ((zdU l []).getD j 0).testBit k = true → Anc l.toArray k j := q7 (ops := l.toArray) (l := l) (ms := []) (by simp) (by simp)
  have pair : ∀ k i ok oi, l.toArray[k]? = some ok → l.toArray[i]? = some oi → k < i → Anc l.toArray k i ∨ (Compat l.toArray ok oi (accF.reverse.getD k default) (accF.reverse.getD i default) ∧ xv (accF.reverse.getD i default) (accF.reverse.getD k default).N) := fun k i ok oi hk hi hlt => by
    have := List.all_eq_true.1 (List.all_eq_true.1 c3 _ (get i oi hi)) _ (get k ok hk)
    simp only [hlt, if_true, Bool.or_eq_true, Bool.and_eq_true] at this
    rcases this with h | ⟨⟨h1, h2⟩, h3⟩
    · exact .inl (hmask i k h)
    · exact .inr ⟨jD h1, jM h2⟩
  refine ve (D := fun i => accF.reverse.getD i default) (env' := env'.get) (st' := st'.get) hm ⟨?_, ?_, ?_⟩ ?_ ?_ k1
  · intro i o ho e he hb
    have := List.all_eq_true.1 (List.all_eq_true.1 c1 _ (get i o ho)) e (by simpa using he)
    simpa [hb] using this
  · intro i j oi oj hi hj hne
    rcases Nat.lt_or_ge j i with h | h
    · rcases pair j i oj oi hj hi h with h1 | ⟨_, h2⟩
      · exact .inl h1
      · exact .inr h2
    · have hlt : i < j := by omega
      have := List.all_eq_true.1 (List.all_eq_true.1 c2 _ (get j oj hj)) _ (get i oi hi)
      simp only [hlt, if_true] at this
      exact .inr (jM this)
  · intro k i ok oi hk hi hlt
    rcases pair k i ok oi hk hi hlt with h1 | ⟨h2, _⟩
    · exact .inl h1
    · exact .inr h2
  · intro j hj
    have hj' : j < l.length := by simpa using hj
    have := List.all_eq_true.1 c4 (accF.reverse.getD j default) (by
      rw [List.getD_eq_getElem?_getD, List.getElem?_eq_getElem (by omega)]
      exact List.getElem_mem _)
    exact zH this
  · rw [← List.range_eq_range'] at k4
    simpa using k4
theorem yV (d : Nat) (r : AV) (env : EnvL) : EnvL.get ((d, r) :: env) = wg env.get (some d) r := by
  funext t
  simp only [EnvL.get, wg, Option.some.injEq]
def jK (R R' : StL) (N : List Id) (st : StO) : StO := R'.map (fun x => (x.1, some x.2)) ++ R.map (fun x => (x.1, none)) ++ N.map (fun i => (i, none)) ++ st
theorem StO.get_nones : ∀ {l : List Id} {b : StO} {id : Id}, StO.get (l.map (fun i => (i, (none : Option Row))) ++ b) id = if id ∈ l then none else StO.get b id
  | [], b, id => by simp
  | i :: l, b, id => by
    simp only [List.map_cons, List.cons_append, StO.get, List.mem_cons]
    by_cases e : i = id
    · simp [e]
    · rw [if_neg e, StO.get_nones]
      have : ¬ id = i := fun h => e h.symm
      simp [this]
theorem StO.get_somes : ∀ {l : StL} {b : StO} {id : Id}, StO.get (l.map (fun x => (x.1, some x.2)) ++ b) id = match StL.get l id with | some r => some r | none => StO.get b id
  | [], b, id => by simp [StL.get]
  | (i, r) :: l, b, id => by
    simp only [List.map_cons, List.cons_append, StO.get, StL.get]
    by_cases e : i = id
    · simp [e]
    · rw [if_neg e, if_neg e, StO.get_somes]
theorem xG (R R' : StL) (N : List Id) (st : StO) : StO.get (jK R R' N st) = yG st.get R R' N := by
  funext id
  unfold jK yG
  rw [List.append_assoc, List.append_assoc, StO.get_somes]
  cases StL.get R' id with
  | some r => rfl
  | none =>
    simp only
    have e : R.map (fun x => (x.1, (none : Option Row))) = R.ids.map (fun i => (i, none)) := by simp [StL.ids]
    rw [e, StO.get_nones, StO.get_nones]
    by_cases h1 : id ∈ R.ids <;> by_cases h2 : id ∈ N <;> simp [h1, h2]
variable {o : Oper} {rest : List Oper} {env : EnvL} {st : StO} {acc : List SD} {K : EnvL → StO → List SD → Prop}
theorem zeQ {R R' : StL} {N W : List Id} {r : AV} {d : Nat} (hT : OpT P o (zk env.get) (StL.get R) r (StL.get R') N) (hd : o.dst = some d) (hn : d < nt) (hw : xC ops o env.get) (hsub : ∀ x ∈ R, StO.get st x.1 = some x.2) (hdom : ∀ id ∈ R'.ids, id ∈ R.ids ∨ id ∈ N) (hsame : ∀ id ∈ R.ids, id ∉ W → StL.get R' id = StL.get R id) (hloc : ∀ id ∈ N, id.isLoc = true) (hfr : zX N env st = true)
    (H : LexP P nt ops rest ((d, r) :: env) (jK R R' N st) (⟨true, R, r, R', W, N⟩ :: acc) K) : LexP P nt ops (o :: rest) env st acc K :=
  LexP.ex ⟨⟨true, R, r, R', W, N⟩, _, _, ⟨(fun t ht => by rw [hd] at ht; cases ht; exact hn), fun _ => ⟨hw, hT⟩, (fun h => by cases h), fun id row hr => hsub _ (StL.get_mem hr), ⟨hdom, hsame, hloc⟩, zH hfr⟩, (by rw [yV]; unfold zK; rw [hd]), (by rw [xG]; rfl), H⟩
theorem zdY {r : AV} {d : Nat} (hT : OpT P o (zk env.get) (StL.get []) r (StL.get []) []) (hd : o.dst = some d) (hn : d < nt) (hw : xC ops o env.get)
    (H : LexP P nt ops rest ((d, r) :: env) st (⟨true, [], r, [], [], []⟩ :: acc) K) : LexP P nt ops (o :: rest) env st acc K :=
  LexP.ex ⟨⟨true, [], r, [], [], []⟩, _, _, ⟨(fun t ht => by rw [hd] at ht; cases ht; exact hn), fun _ => ⟨hw, hT⟩, (fun h => by cases h), (fun id row hr => by simp [StL.get] at hr), ⟨(fun id h => by simp [StL.ids] at h), (fun id h => by simp [StL.ids] at h), (fun id h => by simp at h)⟩, xM _ _⟩, (by rw [yV]; unfold zK; rw [hd]), (by unfold zY; exact (qw _).symm), H⟩
theorem zcw {st : zn} {id : Id} {row : Row} (h : st id = some row) : yG st [(id, row)] [(id, row)] [] = st := by
  funext x
  simp only [yG, StL.get]
  by_cases e : id = x
  · subst e; simp [h]
  · have : ¬ x = id := fun h => e h.symm
    simp [e, StL.ids, this]
theorem zdN {id : Id} {row : Row} {r : AV} {d : Nat} (hst : StO.get st id = some row) (hT : OpT P o (zk env.get) (StL.get [(id, row)]) r (StL.get [(id, row)]) []) (hd : o.dst = some d) (hn : d < nt) (hw : xC ops o env.get)
    (H : LexP P nt ops rest ((d, r) :: env) st (⟨true, [(id, row)], r, [(id, row)], [], []⟩ :: acc) K) : LexP P nt ops (o :: rest) env st acc K :=
  LexP.ex ⟨⟨true, [(id, row)], r, [(id, row)], [], []⟩, _, _, ⟨(fun t ht => by rw [hd] at ht; cases ht; exact hn), fun _ => ⟨hw, hT⟩, (fun h => by cases h), (fun x row' hr => by
      simp only [StL.get] at hr
      split at hr
      · rename_i e; cases hr; rw [← e]; exact hst
      · cases hr), ⟨fun id h => .inl h, fun id _ _ => rfl, fun id h => by simp at h⟩, xM _ _⟩, (by rw [yV]; unfold zK; rw [hd]), (by unfold zY; exact (zcw hst).symm), H⟩
theorem zfh {id : Id} {row : Row} {r : AV} {d : Nat} (hT : OpT P o (zk env.get) (StL.get []) r (StL.get [(id, row)]) [id]) (hd : o.dst = some d) (hn : d < nt) (hw : xC ops o env.get) (hloc : id.isLoc = true) (hfr : zX [id] env st = true)
    (H : LexP P nt ops rest ((d, r) :: env) ((id, some row) :: st) (⟨true, [], r, [(id, row)], [], [id]⟩ :: acc) K) : LexP P nt ops (o :: rest) env st acc K :=
  LexP.ex ⟨⟨true, [], r, [(id, row)], [], [id]⟩, _, _, ⟨(fun t ht => by rw [hd] at ht; cases ht; exact hn), fun _ => ⟨hw, hT⟩, (fun h => by cases h), (fun x row' hr => by simp [StL.get] at hr), ⟨(fun x h => by simp [StL.ids] at h; exact .inr (by simp [h])), (fun x h => by simp [StL.ids] at h), (fun x h => by simp at h; rw [h]; exact hloc)⟩, zH hfr⟩, (by rw [yV]; unfold zK; rw [hd]), (by
      unfold zY
      funext x
      simp only [StO.get, yG, StL.get]
      by_cases e : id = x
      · simp [e]
      · have : ¬ x = id := fun h => e h.symm
        simp [e, this, StL.ids]), H⟩
theorem zdh {id : Id} {row row' : Row} {r : AV} (hst : StO.get st id = some row) (hT : OpT P o (zk env.get) (StL.get [(id, row)]) r (StL.get [(id, row')]) []) (hd : o.dst = none) (hw : xC ops o env.get)
    (H : LexP P nt ops rest env ((id, some row') :: st) (⟨true, [(id, row)], r, [(id, row')], [id], []⟩ :: acc) K) : LexP P nt ops (o :: rest) env st acc K :=
  LexP.ex ⟨⟨true, [(id, row)], r, [(id, row')], [id], []⟩, _, _, ⟨(fun t ht => by rw [hd] at ht; cases ht), fun _ => ⟨hw, hT⟩, (fun h => by cases h), (fun x row1 hr => by
      simp only [StL.get] at hr
      split at hr
      · rename_i e; cases hr; rw [← e]; exact hst
      · cases hr), ⟨(fun id h => .inl (by simpa [StL.ids] using h)), (fun x h h' => by simp [StL.ids] at h; subst h; simp at h'), (fun id h => by simp at h)⟩, xM _ _⟩, (by unfold zK wg; rw [hd]; funext t; simp), (by
      unfold zY
      funext x
      simp only [StO.get, yG, StL.get]
      by_cases e : id = x
      · simp [e]
      · have : ¬ x = id := fun h => e h.symm
        simp [e, this, StL.ids]), H⟩
end
section
variable {P : Program} {fn : Func} {env : EnvL} {st : StO}
theorem yr {t : Nat} {x : AV} (hr : fn.results = #[.tmp t]) (hx : AVLE (env.get t) x) : zb2 P fn env.get st.get x := fun nt h m a w c =>
  ⟨a.tmps.getD t undef, by simp [results, hr], hx h m _ (c.env t)⟩
theorem w6 (hr : fn.results = #[]) : zb2 P fn env.get st.get (.tup []) := fun nt h m a w c =>
  ⟨.tuple #[], by simp [results, hr], #[], rfl, rfl, by simp [RepAs]⟩
theorem xU {t u : Nat} {x y : AV} (hr : fn.results = #[.tmp t, .tmp u]) (hx : AVLE (env.get t) x) (hy : AVLE (env.get u) y) : zb2 P fn env.get st.get (.tup [x, y]) := fun nt h m a w c =>
  ⟨.tuple #[a.tmps.getD t undef, a.tmps.getD u undef], by simp [results, hr], #[a.tmps.getD t undef, a.tmps.getD u undef], rfl, rfl, by
    simp only [RepAs, and_true]
    exact ⟨⟨_, rfl, hx h m _ (c.env t)⟩, ⟨_, rfl, hy h m _ (c.env u)⟩⟩⟩
theorem zbe {t : Nat} {ty : TypeId} {id : Id} {vty : TypeId} {cs : List AV} {d : TypeDesc} {size bytes : Nat} {z : Value} {nt : Nat} {h : Heap} {m : zu} {a : Act} {w : World} (c : Conc nt h m env.get st.get a w) (ht : env.get t = .ref id 0 0 0) (hst : StO.get st id = some (.var vty cs)) (tu : TyU P ty d) (hd : z7 d = true) (ti : TyI P ty size bytes z) (hl : cs.length = size) :
    ∃ v ad, a.tmps[t]?.getD undef = .pointer (some ad) ∧ (loadVar ty ad).run P w = .ok v w ∧ RepA h m v (qM cs) := by
  have h1 := c.env t
  rw [ht] at h1
  obtain ⟨b, hb, e⟩ := h1
  obtain ⟨b', arr, e1, e2, e3, e4⟩ := c.sim.rows id _ hst
  rw [e1] at hb
  simp [blk] at hb
  subst hb
  obtain ⟨vs, k1, k2, k3⟩ := xy e4
  refine ⟨.agg vs.toArray, ⟨b', 0, none⟩, by simpa using e, ?_, wG (by simpa using k1) (by simpa using k3)⟩
  exact yB (P := P) tu hd ti (a := ⟨b', 0, none⟩) (w := w) (by rw [k1, hl]) (fun j v hv => by rw [ya, zI e2]; simpa using k2 j v hv)
theorem zF {t : Nat} {ty : TypeId} {id : Id} {vty : TypeId} {cs : List AV} {d : TypeDesc} {size bytes : Nat} {z : Value} {x : AV} (hr : fn.results = #[.cell t ty]) (ht : env.get t = .ref id 0 0 0) (hst : StO.get st id = some (.var vty cs)) (tu : TyU P ty d) (hd : z7 d = true) (ti : TyI P ty size bytes z) (hl : cs.length = size) (hx : AVLE (qM cs) x) : zb2 P fn env.get st.get x := fun nt h m a w c => by
  obtain ⟨v, ad, k0, k1, k2⟩ := zbe (P := P) c ht hst tu hd ti hl
  exact ⟨v, by simp [results, hr, k0, asAddr, k1], hx h m v k2⟩
theorem yD {t u : Nat} {ty : TypeId} {id : Id} {vty : TypeId} {cs : List AV} {d : TypeDesc} {size bytes : Nat} {z : Value} {x y : AV} (hr : fn.results = #[.cell t ty, .tmp u]) (ht : env.get t = .ref id 0 0 0) (hst : StO.get st id = some (.var vty cs)) (tu : TyU P ty d) (hd : z7 d = true) (ti : TyI P ty size bytes z) (hl : cs.length = size) (hx : AVLE (qM cs) x) (hy : AVLE (env.get u) y) : zb2 P fn env.get st.get (.tup [x, y]) := fun nt h m a w c => by
  obtain ⟨v, ad, k0, k1, k2⟩ := zbe (P := P) c ht hst tu hd ti hl
  refine ⟨.tuple #[v, a.tmps.getD u undef], by simp [results, hr, k0, asAddr, k1], #[v, a.tmps.getD u undef], rfl, rfl, ?_⟩
  simp only [RepAs, and_true]
  exact ⟨⟨_, rfl, hx h m v k2⟩, ⟨_, rfl, hy h m _ (c.env u)⟩⟩
end
end Go.AL
set_option linter.unusedVariables false
set_option linter.unusedSimpArgs false
namespace Go.AL
open Go Go.RowKit
def zj (ops : Array Oper) (o : Oper) (env : EnvL) : Bool :=
  match o.guard with
  | none => true
  | some (j, want) => match yz ops j with
    | some t => match env.get t with
      | .t (.bool b) => b == want
      | _ => false
    | none => false
theorem zM {ops : Array Oper} {o : Oper} {env : EnvL} (h : zj ops o env = true) : xC ops o env.get := by
  unfold zj at h
  unfold xC
  cases hg : o.guard with
  | none => trivial
  | some x =>
    obtain ⟨j, want⟩ := x
    rw [hg] at h
    simp only at h ⊢
    split at h
    · rename_i t ht
      split at h
      · rename_i b he
        exact ⟨t, ht, by rw [he]; simp at h; rw [h]⟩
      · cases h
    · cases h
def zap (ops : Array Oper) (o : Oper) (env : EnvL) : Bool :=
  match o.guard with
  | none => false
  | some (j, want) => match yz ops j with
    | some t => match env.get t with
      | .t (.bool b) => b == !want
      | .tup [] => true
      | _ => false
    | none => false
theorem kY {ops : Array Oper} {o : Oper} {env : EnvL} (h : zap ops o env = true) : kQ ops o env.get := by
  unfold zap at h
  unfold kQ
  cases hg : o.guard with
  | none => rw [hg] at h; cases h
  | some x =>
    obtain ⟨j, want⟩ := x
    rw [hg] at h
    simp only at h
    split at h
    · rename_i t ht
      split at h
      · rename_i b he
        exact ⟨j, want, t, rfl, ht, .inl (by rw [he]; simp at h; rw [h])⟩
      · rename_i he
        exact ⟨j, want, t, rfl, ht, .inr he⟩
      · cases h
    · cases h
def fieldAt : List Field → Nat → Option (TypeId × Nat)
  | [], _ => none
  | { type := t, offset := o, .. } :: _, 0 => some (t, o)
  | _ :: l, k + 1 => fieldAt l k
theorem vw {ft : TypeId} {foff : Nat} : ∀ {l : List Field} {k : Nat}, fieldAt l k = some (ft, foff) → ∃ fd, l[k]? = some fd ∧ fd.type = ft ∧ fd.offset = foff
  | [], _, h => by simp [fieldAt] at h
  | f :: _, 0, h => by
    simp only [fieldAt, Option.some.injEq, Prod.mk.injEq] at h
    exact ⟨f, rfl, h.1, h.2⟩
  | _ :: l, k + 1, h => by
    obtain ⟨fd, h1, h2⟩ := vw (l := l) (k := k) h
    exact ⟨fd, by simpa using h1, h2⟩
section
variable {P : Program} {nt : Nat} {ops : Array Oper} {o : Oper} {rest : List Oper} {env : EnvL} {st : StO} {acc : List SD} {K : EnvL → StO → List SD → Prop} {d : Nat}
theorem ze5 (hg : zap ops o env = true) (hd : o.dst = some d) (hn : (decide (d < nt)) = true) (H : LexP P nt ops rest ((d, .tup []) :: env) st (⟨false, [], .tup [], [], [], []⟩ :: acc) K) : LexP P nt ops (o :: rest) env st acc K :=
  LexP.ex ⟨⟨false, [], .tup [], [], [], []⟩, _, _, ⟨(fun t' ht' => by rw [hd] at ht'; cases ht'; exact of_decide_eq_true hn), (fun h => by cases h), fun _ => ⟨kY hg, rfl, rfl, rfl, rfl⟩, (fun id row hr => by simp [StL.get] at hr), ⟨(fun id h => by simp [StL.ids] at h), (fun id h => by simp [StL.ids] at h), (fun id h => by simp at h)⟩, xM _ _⟩, (by rw [yV]; unfold zK; rw [hd]), (by unfold zY; exact (qw _).symm), H⟩
theorem xi {t : Nat} {b c : Bool} (he : env.get t = .t (.bool b)) (e : b = c) : EnvL.get ((t, .t (.bool c)) :: env) = env.get := by
  funext x
  simp only [EnvL.get]
  split
  · rename_i h; subst h; rw [he, e]
  · rfl
theorem vl {l : List Oper} {env1 env2 : EnvL} (e : env1.get = env2.get) (H : LexP P nt ops l env1 st acc K) (hl : l ≠ []) : LexP P nt ops l env2 st acc K := by
  cases l with
  | nil => exact absurd rfl hl
  | cons o l =>
    cases H with
    | cons h1 h2 h3 h4 => exact .cons (by rw [← e]; exact h1) (by rw [← e]; exact h2) h3 h4
def xE (ops : Array Oper) (o : Oper) (env : EnvL) : Option (Nat × Bool) :=
  match o.guard with
  | none => none
  | some (j, _) => match yz ops j with
    | some t => match env.get t with
      | .t (.bool b) => some (t, b)
      | _ => none
    | none => none
theorem yd {t : Nat} {b : Bool} (h : xE ops o env = some (t, b)) : env.get t = .t (.bool b) := by
  unfold xE at h
  split at h
  · cases h
  · split at h
    · split at h
      · rename_i he; cases h; exact he
      · cases h
    · cases h
theorem zG {t : Nat} {p : Prop} [Decidable p] (hg : xE ops o env = some (t, decide p)) (H1 : p → LexP P nt ops (o :: rest) ((t, .t (.bool true)) :: env) st acc K) (H2 : ¬ p → LexP P nt ops (o :: rest) ((t, .t (.bool false)) :: env) st acc K) : LexP P nt ops (o :: rest) env st acc K := by
  by_cases hp : p
  · exact vl (xi (yd hg) (by simp [hp])) (H1 hp) (by simp)
  · exact vl (xi (yd hg) (by simp [hp])) (H2 hp) (by simp)
theorem xj {t : Nat} {p : Prop} [Decidable p] (hg : xE ops o env = some (t, !decide p)) (H1 : p → LexP P nt ops (o :: rest) ((t, .t (.bool false)) :: env) st acc K) (H2 : ¬ p → LexP P nt ops (o :: rest) ((t, .t (.bool true)) :: env) st acc K) : LexP P nt ops (o :: rest) env st acc K := by
  by_cases hp : p
  · exact vl (xi (yd hg) (by simp [hp])) (H1 hp) (by simp)
  · exact vl (xi (yd hg) (by simp [hp])) (H2 hp) (by simp)
theorem zcR {t : Nat} {b : Bool} (hg : xE ops o env = some (t, b)) (H1 : b = true → LexP P nt ops (o :: rest) ((t, .t (.bool true)) :: env) st acc K) (H2 : b = false → LexP P nt ops (o :: rest) ((t, .t (.bool false)) :: env) st acc K) : LexP P nt ops (o :: rest) env st acc K := by
  cases hb : b with
  | true => exact vl (xi (yd hg) hb) (H1 hb) (by simp)
  | false => exact vl (xi (yd hg) hb) (H2 hb) (by simp)
theorem zw {r : AV} (hT : OpT P o (zk env.get) (StL.get []) r (StL.get []) []) (hd : o.dst = some d) (hn : (decide (d < nt)) = true) (hg : zj ops o env = true) (H : LexP P nt ops rest ((d, r) :: env) st (⟨true, [], r, [], [], []⟩ :: acc) K) : LexP P nt ops (o :: rest) env st acc K :=
  zdY hT hd (of_decide_eq_true hn) (zM hg) H
theorem xb {id : Id} {row : Row} {r : AV} (hst : StO.get st id = some row) (hT : OpT P o (zk env.get) (StL.get [(id, row)]) r (StL.get [(id, row)]) []) (hd : o.dst = some d) (hn : (decide (d < nt)) = true) (hg : zj ops o env = true)
    (H : LexP P nt ops rest ((d, r) :: env) st (⟨true, [(id, row)], r, [(id, row)], [], []⟩ :: acc) K) : LexP P nt ops (o :: rest) env st acc K :=
  zdN hst hT hd (of_decide_eq_true hn) (zM hg) H
theorem jh {id : Id} {row : Row} {r : AV} (hT : OpT P o (zk env.get) (StL.get []) r (StL.get [(id, row)]) [id]) (hd : o.dst = some d) (hn : (decide (d < nt)) = true) (hg : zj ops o env = true) (hloc : id.isLoc = true) (hfr : zX [id] env st = true)
    (H : LexP P nt ops rest ((d, r) :: env) ((id, some row) :: st) (⟨true, [], r, [(id, row)], [], [id]⟩ :: acc) K) : LexP P nt ops (o :: rest) env st acc K :=
  zfh hT hd (of_decide_eq_true hn) (zM hg) hloc hfr H
theorem vR {id : Id} {row row' : Row} {r : AV} (hst : StO.get st id = some row) (hT : OpT P o (zk env.get) (StL.get [(id, row)]) r (StL.get [(id, row')]) []) (hd : o.dst = none) (hg : zj ops o env = true)
    (H : LexP P nt ops rest env ((id, some row') :: st) (⟨true, [(id, row)], r, [(id, row')], [id], []⟩ :: acc) K) : LexP P nt ops (o :: rest) env st acc K :=
  zdh hst hT hd (zM hg) H
theorem qv {x : Operand} {r : AV} (ho : o.op = .move x) (hr : zk env.get x = r) (hd : o.dst = some d) (hn : (decide (d < nt)) = true) (hg : zj ops o env = true) (H : LexP P nt ops rest ((d, r) :: env) st (⟨true, [], r, [], [], []⟩ :: acc) K) : LexP P nt ops (o :: rest) env st acc K :=
  zw (by rw [← hr]; exact zdR ho) hd hn hg H
theorem xF {x : Operand} {r : AV} (ho : o.op = .assign x) (hr : zk env.get x = r) (hd : o.dst = some d) (hn : (decide (d < nt)) = true) (hg : zj ops o env = true) (H : LexP P nt ops rest ((d, r) :: env) st (⟨true, [], r, [], [], []⟩ :: acc) K) : LexP P nt ops (o :: rest) env st acc K :=
  zw (by rw [← hr]; exact zcB ho) hd hn hg H
theorem zd5 {c x y : Operand} {r : AV} (ho : o.op = .pick c x y) (hc : zk env.get c = .t (.bool true)) (hr : zk env.get x = r) (hd : o.dst = some d) (hn : (decide (d < nt)) = true) (hg : zj ops o env = true) (H : LexP P nt ops rest ((d, r) :: env) st (⟨true, [], r, [], [], []⟩ :: acc) K) : LexP P nt ops (o :: rest) env st acc K :=
  zw (by rw [← hr]; exact zbE (b := true) ho hc) hd hn hg H
theorem zdQ {c x y : Operand} {r : AV} (ho : o.op = .pick c x y) (hc : zk env.get c = .t (.bool false)) (hr : zk env.get y = r) (hd : o.dst = some d) (hn : (decide (d < nt)) = true) (hg : zj ops o env = true) (H : LexP P nt ops rest ((d, r) :: env) st (⟨true, [], r, [], [], []⟩ :: acc) K) : LexP P nt ops (o :: rest) env st acc K :=
  zw (by rw [← hr]; exact zbE (b := false) ho hc) hd hn hg H
theorem zdg {ty : TypeId} {x : Operand} {r : AV} {cs : List AV} (ho : o.op = .box ty x) (hr : zk env.get x = r) (hb : r.boxable = true) (hcs : r.cells = cs) (hd : o.dst = some d) (hn : (decide (d < nt)) = true) (hg : zj ops o env = true) (hc : AV.cleanL [.loc d] cs = true) (hfr : zX [.loc d] env st = true)
    (H : LexP P nt ops rest ((d, .ref (.loc d) 0 0 0) :: env) ((.loc d, some (.var ty cs)) :: st) (⟨true, [], .ref (.loc d) 0 0 0, [(.loc d, .var ty cs)], [], [.loc d]⟩ :: acc) K) : LexP P nt ops (o :: rest) env st acc K := by
  subst hr; subst hcs
  exact jh (zeJ (.loc d) ho hb hc) hd hn hg rfl hfr H
theorem zdL {ty : TypeId} {size bytes : Nat} {z : Value} {cs : List AV} (ho : o.op = .alloc ty) [ti : TyI P ty size bytes z] (h1 : z.cells.toList.all Value.oneCell' = true) (hcs : z.cells.toList.map xP = cs) (hd : o.dst = some d) (hn : (decide (d < nt)) = true) (hg : zj ops o env = true) (hfr : zX [.loc d] env st = true)
    (H : LexP P nt ops rest ((d, .ref (.loc d) 0 0 0) :: env) ((.loc d, some (.var ty cs)) :: st) (⟨true, [], .ref (.loc d) 0 0 0, [(.loc d, .var ty cs)], [], [.loc d]⟩ :: acc) K) : LexP P nt ops (o :: rest) env st acc K := by
  subst hcs
  exact jh (zc1 (.loc d) ho ti (List.all_eq_true.1 h1)) hd hn hg rfl hfr H
theorem zat {ty : TypeId} {p : Operand} {id : Id} {i sz off : Nat} {vty : TypeId} {cs : List AV} {dd : TypeDesc} {x : AV} (ho : o.op = .load ty p) (hp : zk env.get p = .ref id i sz off) [tu : TyU P ty dd] (ha : z7 dd = false) (hst : StO.get st id = some (.var vty cs)) (hx : cs[i * sz + off]? = some x) (hd : o.dst = some d) (hn : (decide (d < nt)) = true) (hg : zj ops o env = true)
    (H : LexP P nt ops rest ((d, x) :: env) st (⟨true, [(id, .var vty cs)], x, [(id, .var vty cs)], [], []⟩ :: acc) K) : LexP P nt ops (o :: rest) env st acc K :=
  xb hst (jN ho hp tu ha hx) hd hn hg H
theorem vy {ty : TypeId} {p : Operand} {id : Id} {i sz off : Nat} {vty : TypeId} {cs : List AV} {dd : TypeDesc} {size bytes : Nat} {z : Value} {r : AV} (ho : o.op = .load ty p) (hp : zk env.get p = .ref id i sz off) [tu : TyU P ty dd] (ha : z7 dd = true) [ti : TyI P ty size bytes z] (hst : StO.get st id = some (.var vty cs)) (hl : (decide (i * sz + off + size ≤ cs.length)) = true) (hr : qM ((cs.drop (i * sz + off)).take size) = r) (hd : o.dst = some d) (hn : (decide (d < nt)) = true) (hg : zj ops o env = true)
    (H : LexP P nt ops rest ((d, r) :: env) st (⟨true, [(id, .var vty cs)], r, [(id, .var vty cs)], [], []⟩ :: acc) K) : LexP P nt ops (o :: rest) env st acc K := by
  subst hr
  exact xb hst (kE ho hp tu ha ti (of_decide_eq_true hl)) hd hn hg H
theorem zbQ {ty : TypeId} {p : Operand} {e x : T} {off : Nat} {dd : TypeDesc} (ho : o.op = .load ty p) (hp : zk env.get p = .tp e off) [tu : TyU P ty dd] (ha : z7 dd = false) (hx : e.cells[off]? = some x) (hd : o.dst = some d) (hn : (decide (d < nt)) = true) (hg : zj ops o env = true)
    (H : LexP P nt ops rest ((d, .t x) :: env) st (⟨true, [], .t x, [], [], []⟩ :: acc) K) : LexP P nt ops (o :: rest) env st acc K :=
  zw (za8 ho hp tu ha hx) hd hn hg H
theorem zae {ty : TypeId} {p : Operand} {e : T} {dd : TypeDesc} {size bytes : Nat} {z : Value} (ho : o.op = .load ty p) (hp : zk env.get p = .tp e 0) [tu : TyU P ty dd] (ha : z7 dd = true) [ti : TyI P ty size bytes z] (hd : o.dst = some d) (hn : (decide (d < nt)) = true) (hg : zj ops o env = true) (hl : e.cells.length = size) (hagg : e.isAgg = true)
    (H : LexP P nt ops rest ((d, .t e) :: env) st (⟨true, [], .t e, [], [], []⟩ :: acc) K) : LexP P nt ops (o :: rest) env st acc K :=
  zw (vH ho hp tu ha ti hl hagg) hd hn hg H
theorem zaU {ty : TypeId} {p : Operand} {id : Id} {i sz off : Nat} {e : TypeId} {es : List T} {dd : TypeDesc} {x y : T} (ho : o.op = .load ty p) (hp : zk env.get p = .ref id i sz off) [tu : TyU P ty dd] (ha : z7 dd = false) (hst : StO.get st id = some (.slt e sz es)) (hd : o.dst = some d) (hn : (decide (d < nt)) = true) (hg : zj ops o env = true) (hx : es[i]? = some x) (hy : x.cells[off]? = some y)
    (H : LexP P nt ops rest ((d, .t y) :: env) st (⟨true, [(id, .slt e sz es)], .t y, [(id, .slt e sz es)], [], []⟩ :: acc) K) : LexP P nt ops (o :: rest) env st acc K :=
  xb hst (k8 ho hp (.inl ⟨e, rfl⟩) tu ha hx hy) hd hn hg H
theorem vD {ty : TypeId} {p : Operand} {id : Id} {i sz : Nat} {e : TypeId} {es : List T} {dd : TypeDesc} {x : T} {bytes : Nat} {z : Value} (ho : o.op = .load ty p) (hp : zk env.get p = .ref id i sz 0) [tu : TyU P ty dd] (ha : z7 dd = true) [ti : TyI P ty sz bytes z] (hst : StO.get st id = some (.slt e sz es)) (hd : o.dst = some d) (hn : (decide (d < nt)) = true) (hg : zj ops o env = true) (hx : es[i]? = some x) (hagg : x.isAgg = true)
    (H : LexP P nt ops rest ((d, .t x) :: env) st (⟨true, [(id, .slt e sz es)], .t x, [(id, .slt e sz es)], [], []⟩ :: acc) K) : LexP P nt ops (o :: rest) env st acc K :=
  xb hst (kJ ho hp (.inl ⟨e, rfl⟩) tu ha ti hx hagg) hd hn hg H
theorem y7 {ty : TypeId} {p x : Operand} {id : Id} {i sz off : Nat} {vty : TypeId} {cs cs' : List AV} {r : AV} {size bytes : Nat} {z : Value} (ho : o.op = .store ty p x) (hp : zk env.get p = .ref id i sz off) [ti : TyI P ty size bytes z] (hr : zk env.get x = r) (hb : r.boxable = true) (hx : (decide (r.cells.length = size)) = true) (hst : StO.get st id = some (.var vty cs)) (hl : (decide (i * sz + off + size ≤ cs.length)) = true) (hcs : zJ cs (i * sz + off) r.cells = cs') (hd : o.dst = none) (hg : zj ops o env = true)
    (H : LexP P nt ops rest env ((id, some (.var vty cs')) :: st) (⟨true, [(id, .var vty cs)], .junk, [(id, .var vty cs')], [id], []⟩ :: acc) K) : LexP P nt ops (o :: rest) env st acc K := by
  subst hr; subst hcs
  exact vR hst (kl ho hp ti hb (of_decide_eq_true hx) (of_decide_eq_true hl)) hd hg H
theorem yP {ty : TypeId} {p x : Operand} {id : Id} {i sz : Nat} {e : TypeId} {es : List T} {y : T} {bytes : Nat} {z : Value} (ho : o.op = .store ty p x) (hp : zk env.get p = .ref id i sz 0) (hx : zk env.get x = .t y) [ti : TyI P ty sz bytes z] (hst : StO.get st id = some (.slt e sz es)) (hd : o.dst = none) (hg : zj ops o env = true) (hy : y.cells.length = sz) (hi : i < es.length)
    (H : LexP P nt ops rest env ((id, some (.slt e sz (es.set i y))) :: st) (⟨true, [(id, .slt e sz es)], .junk, [(id, .slt e sz (es.set i y))], [id], []⟩ :: acc) K) : LexP P nt ops (o :: rest) env st acc K :=
  vR hst (wM (Row.slt e sz) (.inl ⟨e, rfl⟩) ho hp hx ti hy hi) hd hg H
theorem jp {ty : TypeId} {p x : Operand} {id : Id} {i sz : Nat} {aty : TypeId} {es : List T} {y : T} {bytes : Nat} {z : Value} (ho : o.op = .store ty p x) (hp : zk env.get p = .ref id i sz 0) (hx : zk env.get x = .t y) [ti : TyI P ty sz bytes z] (hst : StO.get st id = some (.arr aty sz es)) (hd : o.dst = none) (hg : zj ops o env = true) (hy : y.cells.length = sz) (hi : i < es.length)
    (H : LexP P nt ops rest env ((id, some (.arr aty sz (es.set i y))) :: st) (⟨true, [(id, .arr aty sz es)], .junk, [(id, .arr aty sz (es.set i y))], [id], []⟩ :: acc) K) : LexP P nt ops (o :: rest) env st acc K :=
  vR hst (wM (Row.arr aty sz) (.inr ⟨aty, rfl⟩) ho hp hx ti hy hi) hd hg H
theorem zaS {x : Operand} {r : AV} (ho : o.op = .nilCheck x) (hr : zk env.get x = r) (hx : r.nonNil = true) (hd : o.dst = some d) (hn : (decide (d < nt)) = true) (hg : zj ops o env = true) (H : LexP P nt ops rest ((d, r) :: env) st (⟨true, [], r, [], [], []⟩ :: acc) K) : LexP P nt ops (o :: rest) env st acc K := by
  subst hr
  exact zw (k6 ho hx) hd hn hg H
theorem vE {fields : Array Field} {k : Nat} {ft : TypeId} {foff : Nat} (h : fieldAt fields.toList k = some (ft, foff)) : ∃ fd, fields[k]? = some fd ∧ fd.type = ft ∧ fd.offset = foff := by
  obtain ⟨fd, h1, h2⟩ := vw h
  exact ⟨fd, by simpa using h1, h2⟩
theorem je {s : TypeId} {x : Operand} {k : Nat} {id : Id} {i sz off : Nat} {fields : Array Field} {ft : TypeId} {foff size bytes : Nat} {z : Value} (ho : o.op = .fieldAddr s x k) (hx : zk env.get x = .ref id i sz off) [tu : TyU P s (.struct fields)] (hf : fieldAt fields.toList k = some (ft, foff)) [ti : TyI P ft size bytes z] (hs : (decide (size ≠ 0)) = true) (hd : o.dst = some d) (hn : (decide (d < nt)) = true) (hg : zj ops o env = true)
    (H : LexP P nt ops rest ((d, .ref id i sz (off + foff)) :: env) st (⟨true, [], .ref id i sz (off + foff), [], [], []⟩ :: acc) K) : LexP P nt ops (o :: rest) env st acc K := by
  obtain ⟨fd, hf1, rfl, rfl⟩ := vE hf
  exact zw (vb ho hx tu hf1 ti (of_decide_eq_true hs)) hd hn hg H
theorem vU {s : TypeId} {x : Operand} {k : Nat} {e : T} {off : Nat} {fields : Array Field} {ft : TypeId} {foff size bytes : Nat} {z : Value} (ho : o.op = .fieldAddr s x k) (hx : zk env.get x = .tp e off) [tu : TyU P s (.struct fields)] (hf : fieldAt fields.toList k = some (ft, foff)) [ti : TyI P ft size bytes z] (hs : (decide (size ≠ 0)) = true) (hd : o.dst = some d) (hn : (decide (d < nt)) = true) (hg : zj ops o env = true)
    (H : LexP P nt ops rest ((d, .tp e (off + foff)) :: env) st (⟨true, [], .tp e (off + foff), [], [], []⟩ :: acc) K) : LexP P nt ops (o :: rest) env st acc K := by
  obtain ⟨fd, hf1, rfl, rfl⟩ := vE hf
  exact zw (vO ho hx tu hf1 ti (of_decide_eq_true hs)) hd hn hg H
theorem qr {t elem : TypeId} {x ix : Operand} {sz : Nat} {es : List T} {k : IntKind} {i : Int} {bytes : Nat} {z : Value} (ho : o.op = .indexAddr t x ix) (hx : zk env.get x = .t (.sl sz es)) (hi : zk env.get ix = .t (.int k i)) [tu : TyU P t (.slice elem)] [ti : TyI P elem sz bytes z] (hd : o.dst = some d) (hn : (decide (d < nt)) = true) (hg : zj ops o env = true) (h0 : 0 ≤ i) (h1 : i < (es.length : Int))
    (H : LexP P nt ops rest ((d, .tp (es.getD i.toNat .nilp) 0) :: env) st (⟨true, [], .tp (es.getD i.toNat .nilp) 0, [], [], []⟩ :: acc) K) : LexP P nt ops (o :: rest) env st acc K :=
  zw (vN ho hx hi tu ti h0 h1) hd hn hg H
theorem zE {t elem : TypeId} {x ix : Operand} {id : Id} {e : TypeId} {sz : Nat} {es : List T} {k : IntKind} {i : Int} {bytes : Nat} {z : Value} (ho : o.op = .indexAddr t x ix) (hx : zk env.get x = .row id) (hi : zk env.get ix = .t (.int k i)) [tu : TyU P t (.slice elem)] (hst : StO.get st id = some (.slt e sz es)) [ti : TyI P elem sz bytes z] (hd : o.dst = some d) (hn : (decide (d < nt)) = true) (hg : zj ops o env = true) (h0 : 0 ≤ i) (h1 : i < (es.length : Int))
    (H : LexP P nt ops rest ((d, .ref id i.toNat sz 0) :: env) st (⟨true, [(id, .slt e sz es)], .ref id i.toNat sz 0, [(id, .slt e sz es)], [], []⟩ :: acc) K) : LexP P nt ops (o :: rest) env st acc K :=
  xb hst (vk ho hx hi tu ti h0 h1) hd hn hg H
theorem xA {t elem : TypeId} {len : Nat} {x ix : Operand} {id : Id} {s0 sz : Nat} {k : IntKind} {i : Int} {bytes : Nat} {z : Value} (ho : o.op = .indexAddr t x ix) (hx : zk env.get x = .ref id 0 s0 0) (hi : zk env.get ix = .t (.int k i)) [tu : TyU P t (.array len elem)] [ti : TyI P elem sz bytes z] (hd : o.dst = some d) (hn : (decide (d < nt)) = true) (hg : zj ops o env = true) (h0 : 0 ≤ i) (h1 : i < (len : Int))
    (H : LexP P nt ops rest ((d, .ref id i.toNat sz 0) :: env) st (⟨true, [], .ref id i.toNat sz 0, [], [], []⟩ :: acc) K) : LexP P nt ops (o :: rest) env st acc K :=
  zw (vf ho hx hi tu ti h0 h1) hd hn hg H
theorem y6 {t : TypeId} {x ix : Operand} {s : ByteArray} {k : IntKind} {i : Int} (ho : o.op = .index t x ix) (hx : zk env.get x = .t (.str s)) (hi : zk env.get ix = .t (.int k i)) [tu : TyU P t .string] (hd : o.dst = some d) (hn : (decide (d < nt)) = true) (hg : zj ops o env = true) (h0 : 0 ≤ i) (h1 : i < (s.size : Int))
    (H : LexP P nt ops rest ((d, .t (.int .u8 (bAt s i))) :: env) st (⟨true, [], .t (.int .u8 (bAt s i)), [], [], []⟩ :: acc) K) : LexP P nt ops (o :: rest) env st acc K :=
  zw (kO ho hx hi tu h0 h1) hd hn hg H
theorem zdZ {op : BinOp} {ty yt : TypeId} {x y : Operand} {k : IntKind} {a b : Int} {r : T} (ho : o.op = .binOp op ty x y yt) (hx : zk env.get x = .t (.int k a)) (hy : zk env.get y = .t (.int k b)) (hr : zeN op k a b = some r) (hd : o.dst = some d) (hn : (decide (d < nt)) = true) (hg : zj ops o env = true)
    (H : LexP P nt ops rest ((d, .t r) :: env) st (⟨true, [], .t r, [], [], []⟩ :: acc) K) : LexP P nt ops (o :: rest) env st acc K :=
  zw (zdv ho hx hy hr) hd hn hg H
theorem zer {ty yt : TypeId} {x y : Operand} {k : IntKind} {a b : Int} (ho : o.op = .binOp .quo ty x y yt) (hx : zk env.get x = .t (.int k a)) (hy : zk env.get y = .t (.int k b)) (hd : o.dst = some d) (hn : (decide (d < nt)) = true) (hg : zj ops o env = true) (hb : b ≠ 0)
    (H : LexP P nt ops rest ((d, .t (.int k (k.wrap (a.tdiv b)))) :: env) st (⟨true, [], .t (.int k (k.wrap (a.tdiv b))), [], [], []⟩ :: acc) K) : LexP P nt ops (o :: rest) env st acc K :=
  zw (zeS ho hx hy hb) hd hn hg H
theorem zdm {ty yt : TypeId} {x y : Operand} {k : IntKind} {a b : Int} (ho : o.op = .binOp .rem ty x y yt) (hx : zk env.get x = .t (.int k a)) (hy : zk env.get y = .t (.int k b)) (hd : o.dst = some d) (hn : (decide (d < nt)) = true) (hg : zj ops o env = true) (hb : b ≠ 0)
    (H : LexP P nt ops rest ((d, .t (.int k (a.tmod b))) :: env) st (⟨true, [], .t (.int k (a.tmod b)), [], [], []⟩ :: acc) K) : LexP P nt ops (o :: rest) env st acc K :=
  zw (zeE ho hx hy hb) hd hn hg H
theorem zes {ty yt : TypeId} {x y : Operand} {k yk : IntKind} {a b : Int} (ho : o.op = .binOp .shl ty x y yt) (hx : zk env.get x = .t (.int k a)) (hy : zk env.get y = .t (.int yk b)) (hd : o.dst = some d) (hn : (decide (d < nt)) = true) (hg : zj ops o env = true) (hb : 0 ≤ b)
    (H : LexP P nt ops rest ((d, .t (.int k (k.wrap (a * 2 ^ min b.toNat k.bits)))) :: env) st (⟨true, [], .t (.int k (k.wrap (a * 2 ^ min b.toNat k.bits))), [], [], []⟩ :: acc) K) : LexP P nt ops (o :: rest) env st acc K :=
  zw (zeZ ho hx hy hb) hd hn hg H
theorem zfI {ty yt : TypeId} {x y : Operand} {k yk : IntKind} {a b : Int} (ho : o.op = .binOp .shr ty x y yt) (hx : zk env.get x = .t (.int k a)) (hy : zk env.get y = .t (.int yk b)) (hd : o.dst = some d) (hn : (decide (d < nt)) = true) (hg : zj ops o env = true) (hb : 0 ≤ b)
    (H : LexP P nt ops rest ((d, .t (.int k (a / 2 ^ min b.toNat k.bits))) :: env) st (⟨true, [], .t (.int k (a / 2 ^ min b.toNat k.bits)), [], [], []⟩ :: acc) K) : LexP P nt ops (o :: rest) env st acc K :=
  zw (zfi ho hx hy hb) hd hn hg H
theorem zfV {ty : TypeId} {x : Operand} {b : Bool} (ho : o.op = .unOp .not ty x) (hx : zk env.get x = .t (.bool b)) (hd : o.dst = some d) (hn : (decide (d < nt)) = true) (hg : zj ops o env = true)
    (H : LexP P nt ops rest ((d, .t (.bool (!b))) :: env) st (⟨true, [], .t (.bool (!b)), [], [], []⟩ :: acc) K) : LexP P nt ops (o :: rest) env st acc K :=
  zw (zeT ho hx) hd hn hg H
theorem zfF {ty : TypeId} {x : Operand} {k : IntKind} {n : Int} (ho : o.op = .unOp .neg ty x) (hx : zk env.get x = .t (.int k n)) (hd : o.dst = some d) (hn : (decide (d < nt)) = true) (hg : zj ops o env = true)
    (H : LexP P nt ops rest ((d, .t (.int k (k.wrap (0 - n)))) :: env) st (⟨true, [], .t (.int k (k.wrap (0 - n))), [], [], []⟩ :: acc) K) : LexP P nt ops (o :: rest) env st acc K :=
  zw (zeO ho hx) hd hn hg H
theorem zf1 {ty : TypeId} {x : Operand} {k : IntKind} {n : Int} (ho : o.op = .unOp .xor ty x) (hx : zk env.get x = .t (.int k n)) (hd : o.dst = some d) (hn : (decide (d < nt)) = true) (hg : zj ops o env = true)
    (H : LexP P nt ops rest ((d, .t (.int k (k.wrap (BitVec.ofInt k.bits (if k.signed then -1 else k.max) ^^^ BitVec.ofInt k.bits n).toNat))) :: env) st (⟨true, [], .t (.int k (k.wrap (BitVec.ofInt k.bits (if k.signed then -1 else k.max) ^^^ BitVec.ofInt k.bits n).toNat)), [], [], []⟩ :: acc) K) : LexP P nt ops (o :: rest) env st acc K :=
  zw (zeB ho hx) hd hn hg H
theorem za0 {src dst : TypeId} {x : Operand} {dd : TypeDesc} {k k' : IntKind} {n : Int} (ho : o.op = .convert src dst x) (hx : zk env.get x = .t (.int k n)) [ts : TyU P src dd] [td : TyU P dst (.int k')] (hd : o.dst = some d) (hn : (decide (d < nt)) = true) (hg : zj ops o env = true)
    (H : LexP P nt ops rest ((d, .t (.int k' (k'.wrap n))) :: env) st (⟨true, [], .t (.int k' (k'.wrap n)), [], [], []⟩ :: acc) K) : LexP P nt ops (o :: rest) env st acc K :=
  zw (jT ho hx ts td) hd hn hg H
theorem zdA {ty yt : TypeId} {x y : Operand} {s t : ByteArray} (ho : o.op = .binOp .add ty x y yt) (hx : zk env.get x = .t (.str s)) (hy : zk env.get y = .t (.str t)) (hd : o.dst = some d) (hn : (decide (d < nt)) = true) (hg : zj ops o env = true) (hl : s.size + t.size ≤ 9223372036854775807)
    (H : LexP P nt ops rest ((d, .t (.str (s ++ t))) :: env) st (⟨true, [], .t (.str (s ++ t)), [], [], []⟩ :: acc) K) : LexP P nt ops (o :: rest) env st acc K :=
  zw (zb0 ho hx hy hl) hd hn hg H
theorem zcZ {ty yt : TypeId} {x y : Operand} {s t : ByteArray} (ho : o.op = .binOp .eql ty x y yt) (hx : zk env.get x = .t (.str s)) (hy : zk env.get y = .t (.str t)) (hd : o.dst = some d) (hn : (decide (d < nt)) = true) (hg : zj ops o env = true)
    (H : LexP P nt ops rest ((d, .t (.bool (decide (s = t)))) :: env) st (⟨true, [], .t (.bool (decide (s = t))), [], [], []⟩ :: acc) K) : LexP P nt ops (o :: rest) env st acc K :=
  zw (zcD ho hx hy) hd hn hg H
theorem zdy {ty yt : TypeId} {x y : Operand} {s t : ByteArray} (ho : o.op = .binOp .neq ty x y yt) (hx : zk env.get x = .t (.str s)) (hy : zk env.get y = .t (.str t)) (hd : o.dst = some d) (hn : (decide (d < nt)) = true) (hg : zj ops o env = true)
    (H : LexP P nt ops rest ((d, .t (.bool (!decide (s = t)))) :: env) st (⟨true, [], .t (.bool (!decide (s = t))), [], [], []⟩ :: acc) K) : LexP P nt ops (o :: rest) env st acc K :=
  zw (zcs ho hx hy) hd hn hg H
theorem zbT {ty yt : TypeId} {x y : Operand} {a b : Bool} (ho : o.op = .binOp .eql ty x y yt) (hx : zk env.get x = .t (.bool a)) (hy : zk env.get y = .t (.bool b)) [tu : TyU P ty .bool] (hd : o.dst = some d) (hn : (decide (d < nt)) = true) (hg : zj ops o env = true)
    (H : LexP P nt ops rest ((d, .t (.bool (a == b))) :: env) st (⟨true, [], .t (.bool (a == b)), [], [], []⟩ :: acc) K) : LexP P nt ops (o :: rest) env st acc K :=
  zw (za3 ho hx hy tu) hd hn hg H
theorem zbH {ty yt : TypeId} {x y : Operand} {a b : Bool} (ho : o.op = .binOp .neq ty x y yt) (hx : zk env.get x = .t (.bool a)) (hy : zk env.get y = .t (.bool b)) [tu : TyU P ty .bool] (hd : o.dst = some d) (hn : (decide (d < nt)) = true) (hg : zj ops o env = true)
    (H : LexP P nt ops rest ((d, .t (.bool (!(a == b)))) :: env) st (⟨true, [], .t (.bool (!(a == b))), [], [], []⟩ :: acc) K) : LexP P nt ops (o :: rest) env st acc K :=
  zw (zab ho hx hy tu) hd hn hg H
theorem zcl {x : Operand} {i : Nat} {vs : List AV} {y : AV} (ho : o.op = .extract x i) (hx : zk env.get x = .tup vs) (hy : vs[i]? = some y) (hd : o.dst = some d) (hn : (decide (d < nt)) = true) (hg : zj ops o env = true)
    (H : LexP P nt ops rest ((d, y) :: env) st (⟨true, [], y, [], [], []⟩ :: acc) K) : LexP P nt ops (o :: rest) env st acc K :=
  zw (zaP ho hx hy) hd hn hg H
theorem za5 {f : FuncId} {caps : Array Operand} {cs : List AV} (ho : o.op = .makeFunc (.func f) #[] caps) (hc : caps.toList.map (zk env.get) = cs) (hd : o.dst = some d) (hn : (decide (d < nt)) = true) (hg : zj ops o env = true)
    (H : LexP P nt ops rest ((d, .fn f cs) :: env) st (⟨true, [], .fn f cs, [], [], []⟩ :: acc) K) : LexP P nt ops (o :: rest) env st acc K := by
  subst hc
  exact zw (kX ho) hd hn hg H
theorem k7 {t : TypeId} {x : Operand} {sz : Nat} {es : List T} {e : TypeId} (ho : o.op = .call { callee := .builtin .len, args := #[x], argTypes := #[t] }) (hx : zk env.get x = .t (.sl sz es)) [tu : TyU P t (.slice e)] (hd : o.dst = some d) (hn : (decide (d < nt)) = true) (hg : zj ops o env = true)
    (H : LexP P nt ops rest ((d, .t (.int .i64 (es.length : Int))) :: env) st (⟨true, [], .t (.int .i64 (es.length : Int)), [], [], []⟩ :: acc) K) : LexP P nt ops (o :: rest) env st acc K :=
  zw (zb1 (rt := 0) ho hx tu) hd hn hg H
theorem zb6 {t : TypeId} {x : Operand} {s : ByteArray} (ho : o.op = .call { callee := .builtin .len, args := #[x], argTypes := #[t] }) (hx : zk env.get x = .t (.str s)) [tu : TyU P t .string] (hd : o.dst = some d) (hn : (decide (d < nt)) = true) (hg : zj ops o env = true)
    (H : LexP P nt ops rest ((d, .t (.int .i64 (s.size : Int))) :: env) st (⟨true, [], .t (.int .i64 (s.size : Int)), [], [], []⟩ :: acc) K) : LexP P nt ops (o :: rest) env st acc K :=
  zw (zax ho hx tu) hd hn hg H
theorem zcr {t : TypeId} {x : Operand} {id : Id} {e e' : TypeId} {sz : Nat} {es : List T} (ho : o.op = .call { callee := .builtin .len, args := #[x], argTypes := #[t] }) (hx : zk env.get x = .row id) (hst : StO.get st id = some (.slt e' sz es)) [tu : TyU P t (.slice e)] (hd : o.dst = some d) (hn : (decide (d < nt)) = true) (hg : zj ops o env = true)
    (H : LexP P nt ops rest ((d, .t (.int .i64 (es.length : Int))) :: env) st (⟨true, [(id, .slt e' sz es)], .t (.int .i64 (es.length : Int)), [(id, .slt e' sz es)], [], []⟩ :: acc) K) : LexP P nt ops (o :: rest) env st acc K :=
  xb hst (zaF ho hx tu) hd hn hg H
theorem vx {t : TypeId} {x : Operand} {lo hi : Option Operand} {s : ByteArray} {l hh : Int} (ho : o.op = .slice t x lo hi none) (hx : zk env.get x = .t (.str s)) [tu : TyU P t .string] (hlo : yj (zk env.get) lo 0 l) (hhi : yj (zk env.get) hi (s.size : Int) hh) (hd : o.dst = some d) (hn : (decide (d < nt)) = true) (hg : zj ops o env = true) (h0 : 0 ≤ l) (h1 : l ≤ hh) (h2 : hh ≤ (s.size : Int))
    (H : LexP P nt ops rest ((d, .t (.str (s.extract l.toNat hh.toNat))) :: env) st (⟨true, [], .t (.str (s.extract l.toNat hh.toNat)), [], [], []⟩ :: acc) K) : LexP P nt ops (o :: rest) env st acc K :=
  zw (kD ho hx tu hlo hhi h0 h1 h2) hd hn hg H
theorem wq {t elem : TypeId} {x : Operand} {lo hi : Option Operand} {sz : Nat} {es : List T} {l hh : Int} {bytes : Nat} {z : Value} (ho : o.op = .slice t x lo hi none) (hx : zk env.get x = .t (.sl sz es)) [tu : TyU P t (.slice elem)] [ti : TyI P elem sz bytes z] (hlo : yj (zk env.get) lo 0 l) (hhi : yj (zk env.get) hi (es.length : Int) hh) (hd : o.dst = some d) (hn : (decide (d < nt)) = true) (hg : zj ops o env = true) (h0 : 0 ≤ l) (h1 : l ≤ hh) (h2 : hh ≤ (es.length : Int))
    (H : LexP P nt ops rest ((d, .t (.sl sz ((es.take hh.toNat).drop l.toNat))) :: env) st (⟨true, [], .t (.sl sz ((es.take hh.toNat).drop l.toNat)), [], [], []⟩ :: acc) K) : LexP P nt ops (o :: rest) env st acc K :=
  zw (jk ho hx tu ti hlo hhi h0 h1 h2) hd hn hg H
theorem zfN {ts : Array TypeId} {x y : Operand} {k k' : IntKind} {a b : Int} (ho : o.op = .call { callee := .builtin .min, args := #[x, y], argTypes := ts }) (hx : zk env.get x = .t (.int k a)) (hy : zk env.get y = .t (.int k' b)) (hd : o.dst = some d) (hn : (decide (d < nt)) = true) (hg : zj ops o env = true)
    (H : LexP P nt ops rest ((d, .t (.int k (if b < a then b else a))) :: env) st (⟨true, [], .t (.int k (if b < a then b else a)), [], [], []⟩ :: acc) K) : LexP P nt ops (o :: rest) env st acc K :=
  zw (zfb (t := 0) ho hx hy) hd hn hg H
theorem zg {f : Operand} {as : Array Operand} {ts : Array TypeId} {g : FuncId} {caps args : List AV} {r : AV} (ho : o.op = .call { callee := .value f, args := as, argTypes := ts }) (hf : yl (zk env.get f) = some (g, caps)) [hb : FnB P g] (H0 : Spec P g args [] r []) (hr : r.all (fun _ => false) = true) (hlen : (decide (as.size + caps.length = args.length)) = true) (hargs : ArgsLE (as.toList.map (zk env.get) ++ caps) args) (hren : AV.renL id args = args) (hrr : r.ren id = r) (hd : o.dst = some d) (hn : (decide (d < nt)) = true) (hg : zj ops o env = true)
    (H : LexP P nt ops rest ((d, r) :: env) st (⟨true, [], r, [], [], []⟩ :: acc) K) : LexP P nt ops (o :: rest) env st acc K := by
  refine zw (r := r) ?_ hd hn hg H
  have all_mono : ∀ x : AV, x.all (fun _ => false) = true → x.all (fun id => y2 id || (zZ id && (StL.ids []).contains id)) = true := by
    intro x
    induction x using AV.rec (motive_2 := fun xs => AV.allL (fun _ => false) xs = true → AV.allL (fun id => y2 id || (zZ id && (StL.ids []).contains id)) xs = true) with
    | t x => intro _; rfl
    | tp e off => intro _; rfl
    | ref j i sz off => intro hx; simp [AV.all] at hx
    | view j n c => intro hx; simp [AV.all] at hx
    | row j => intro hx; simp [AV.all] at hx
    | agg cs ih => intro hx; simp only [AV.all] at hx ⊢; exact ih hx
    | tup cs ih => intro hx; simp only [AV.all] at hx ⊢; exact ih hx
    | fn f cs ih => intro hx; simp only [AV.all] at hx ⊢; exact ih hx
    | junk => intro _; rfl
    | nil => rfl
    | cons x xs h1 h2 =>
      rename_i hx
      simp only [AV.allL, Bool.and_eq_true] at hx ⊢
      exact ⟨h1 hx.1, h2 hx.2⟩
  have ok : CallOK [] [] r id := ⟨fun i hi => by simp [StL.ids] at hi, fun k hk => by simp [StL.ids] at hk, all_mono r hr, fun x hx => by simp at hx, fun k hk => by simp [StL.ids] at hk⟩
  have := zbx (P := P) (ρ := zk env.get) id ho hf hb H0 ok (of_decide_eq_true hlen) (by rw [hren]; exact hargs)
  rw [hrr] at this
  simpa [StL.ren, StL.ids] using this
end
end Go.AL
set_option linter.unusedVariables false
set_option linter.unusedSimpArgs false
namespace Go.AL
open Go Go.RowKit
section
variable {P : Program} {nt : Nat} {ops : Array Oper} {env : EnvL} {st : StO} {acc : List SD} {K : EnvL → StO → List SD → Prop} {Q : Exit → Env → zn → Prop}
theorem zfO (H : K env st acc) : LexP P nt ops [] env st acc K := .nil H
theorem zfR {y : Code} (H : CodeT P nt y env.get st.get Q) : zbZ P nt y Q .normal env.get st.get := H
theorem zam {y : Code} {i : Nat} (H : Q (.exit i) env.get st.get) : zbZ P nt y Q (.exit i) env.get st.get := H
theorem zcn {y : Code} (H : Q .ret env.get st.get) : zbZ P nt y Q .ret env.get st.get := H
theorem zeR {i : Nat} (H : Q .normal env.get st.get) : xX i Q .normal env.get st.get := H
theorem zaO {i : Nat} (H : Q .ret env.get st.get) : xX i Q .ret env.get st.get := H
theorem jJ {i j : Nat} (hij : (i == j) = true) (H : Q .normal env.get st.get) : xX i Q (.exit j) env.get st.get := by
  have : i = j := by simpa using hij
  subst this
  simpa [xX] using H
theorem za7 {I : Nat → Env → zn → Prop} {n i : Nat} (H : Q (.exit i) env.get st.get) : zeh nt I n Q (.exit i) env.get st.get := H
theorem zbW {I : Nat → Env → zn → Prop} {n : Nat} (H : Q .ret env.get st.get) : zeh nt I n Q .ret env.get st.get := H
theorem zN {I : Nat → Env → zn → Prop} {n n' : Nat} {env1 : EnvL} {st1 : StO} (hn : n' < n) (g : Ghost nt env.get st.get env1.get st1.get) (H : I n' env1.get st1.get) : zeh nt I n Q .normal env.get st.get := ⟨n', hn, env1.get, st1.get, g, H⟩
theorem kq {l : List Oper} {ds : List SD} {env0 : EnvL} {st0 : StO} (hc : ky l ds env0 st0 = true) (H : Q .normal env.get st.get) : ky l ds env0 st0 = true ∧ Q .normal env.get st.get := ⟨hc, H⟩
theorem ze0 {x : Operand} {y z : Code} (hb : zk env.get x = .t (.bool true)) (H : CodeT P nt y env.get st.get Q) : CodeT P nt (.cond x y z) env.get st.get Q := vh hb H
theorem zeU {x : Operand} {y z : Code} (hb : zk env.get x = .t (.bool false)) (H : CodeT P nt z env.get st.get Q) : CodeT P nt (.cond x y z) env.get st.get Q := vh hb H
theorem zh {x : Operand} {y z : Code} {p : Prop} [Decidable p] (hb : zk env.get x = .t (.bool (decide p))) (H1 : p → CodeT P nt y env.get st.get Q) (H2 : ¬ p → CodeT P nt z env.get st.get Q) : CodeT P nt (.cond x y z) env.get st.get Q :=
  ww hb (fun h => H1 (of_decide_eq_true h)) (fun h => H2 (of_decide_eq_false h))
theorem ye {x : Operand} {y z : Code} {p : Prop} [Decidable p] (hb : zk env.get x = .t (.bool (!decide p))) (H1 : p → CodeT P nt z env.get st.get Q) (H2 : ¬ p → CodeT P nt y env.get st.get Q) : CodeT P nt (.cond x y z) env.get st.get Q :=
  ww hb (fun h => H2 (by simpa using h)) (fun h => H1 (by simpa using h))
theorem zfo {x : Operand} {y z : Code} {b : Bool} (hb : zk env.get x = .t (.bool b)) (H1 : b = true → CodeT P nt y env.get st.get Q) (H2 : b = false → CodeT P nt z env.get st.get Q) : CodeT P nt (.cond x y z) env.get st.get Q := ww hb H1 H2
end
section
variable {P : Program} {nt : Nat} {ops : Array Oper} {o : Oper} {rest : List Oper} {env : EnvL} {st : StO} {acc : List SD} {K : EnvL → StO → List SD → Prop} {d : Nat}
theorem zd4 {α : Type} {f : α → T} {l : List α} {i : Nat} (a : α) (h : i < l.length) : (l.map f).getD i .nilp = f (l.getD i a) := by
  simp [List.getD_eq_getElem?_getD, h]
theorem zb {α : Type} [Inhabited α] {f : α → T} {l : List α} {t elem : TypeId} {x ix : Operand} {sz : Nat} {k : IntKind} {i : Int} {bytes : Nat} {z : Value} (ho : o.op = .indexAddr t x ix) (hx : zk env.get x = .t (.sl sz (l.map f))) (hi : zk env.get ix = .t (.int k i)) [tu : TyU P t (.slice elem)] [ti : TyI P elem sz bytes z] (hd : o.dst = some d) (hn : (decide (d < nt)) = true) (hg : zj ops o env = true) (h0 : 0 ≤ i) (h1 : i < (l.length : Int))
    (H : LexP P nt ops rest ((d, .tp (f (l.getD i.toNat default)) 0) :: env) st (⟨true, [], .tp (f (l.getD i.toNat default)) 0, [], [], []⟩ :: acc) K) : LexP P nt ops (o :: rest) env st acc K := by
  have h1' : i < ((l.map f).length : Int) := by simpa using h1
  have e := zd4 (f := f) (l := l) (i := i.toNat) default (kA h0 h1)
  refine qr ho hx hi hd hn hg h0 h1' ?_
  rw [e]; exact H
theorem zbJ {α : Type} {f : α → T} {l : List α} {t : TypeId} {x : Operand} {sz : Nat} {e : TypeId} (ho : o.op = .call { callee := .builtin .len, args := #[x], argTypes := #[t] }) (hx : zk env.get x = .t (.sl sz (l.map f))) [tu : TyU P t (.slice e)] (hd : o.dst = some d) (hn : (decide (d < nt)) = true) (hg : zj ops o env = true)
    (H : LexP P nt ops rest ((d, .t (.int .i64 (l.length : Int))) :: env) st (⟨true, [], .t (.int .i64 (l.length : Int)), [], [], []⟩ :: acc) K) : LexP P nt ops (o :: rest) env st acc K := by
  refine k7 ho hx hd hn hg ?_
  rw [List.length_map]; exact H
theorem kv {α : Type} {f : α → T} {l : List α} {t : TypeId} {x : Operand} {id : Id} {e e' : TypeId} {sz : Nat} (ho : o.op = .call { callee := .builtin .len, args := #[x], argTypes := #[t] }) (hx : zk env.get x = .row id) (hst : StO.get st id = some (.slt e' sz (l.map f))) [tu : TyU P t (.slice e)] (hd : o.dst = some d) (hn : (decide (d < nt)) = true) (hg : zj ops o env = true)
    (H : LexP P nt ops rest ((d, .t (.int .i64 (l.length : Int))) :: env) st (⟨true, [(id, .slt e' sz (l.map f))], .t (.int .i64 (l.length : Int)), [(id, .slt e' sz (l.map f))], [], []⟩ :: acc) K) : LexP P nt ops (o :: rest) env st acc K := by
  refine zcr ho hx hst hd hn hg ?_
  rw [List.length_map]; exact H
theorem jL {α : Type} [Inhabited α] {f : α → T} {l : List α} {ty : TypeId} {p : Operand} {id : Id} {i sz off : Nat} {e : TypeId} {dd : TypeDesc} {y : T} (ho : o.op = .load ty p) (hp : zk env.get p = .ref id i sz off) [tu : TyU P ty dd] (ha : z7 dd = false) (hst : StO.get st id = some (.slt e sz (l.map f))) (hy : (f (l.getD i default)).cells[off]? = some y) (hd : o.dst = some d) (hn : (decide (d < nt)) = true) (hg : zj ops o env = true) (hx : i < l.length)
    (H : LexP P nt ops rest ((d, .t y) :: env) st (⟨true, [(id, .slt e sz (l.map f))], .t y, [(id, .slt e sz (l.map f))], [], []⟩ :: acc) K) : LexP P nt ops (o :: rest) env st acc K :=
  zaU ho hp ha hst hd hn hg (x := f (l.getD i default)) (by rw [List.getElem?_map]; simp [List.getD_eq_getElem?_getD, hx]) hy H
end
theorem zx {n : Int} (h0 : -9223372036854775808 ≤ n) (h1 : n ≤ 9223372036854775807) : IntKind.i64.wrap n = n := by
  simp only [IntKind.wrap, IntKind.signed, IntKind.bits]
  simp
  split <;> omega
section
variable {P : Program} {env : EnvL} {st : StO}
theorem kb (S : StL) : StO.get (S.map fun x => (x.1, some x.2)) = StL.get S := by
  funext id
  induction S with
  | nil => rfl
  | cons x S ih =>
    obtain ⟨i, r⟩ := x
    simp only [List.map_cons, StO.get, StL.get]
    split
    · rfl
    · exact ih
theorem zc {f : FuncId} {fn : Func} {c : Code} {args : List AV} {S S' : StL} {r : AV} {env0 : EnvL} {st0 : StO} (hf : P.funcs[f]? = some fn) (hb : fn.body = some c) (hn : (decide (args.length ≤ fn.ntmps)) = true) (he : vt 0 args = env0) (hs : S.map (fun x => (x.1, some x.2)) = st0)
    (H : CodeT P fn.ntmps c env0.get st0.get (ze8 P fn r S')) : Spec P f args S r S' := by
  subst he; subst hs
  rw [kb] at H
  exact jI hf hb (of_decide_eq_true hn) H
theorem zq {fn : Func} {r : AV} {S' : StL} (h1 : zb2 P fn env.get st.get r) (h2 : ∀ x ∈ S', StO.get st x.1 = some x.2) : ze8 P fn r S' .ret env.get st.get := ⟨h1, fun id row h => h2 _ (StL.get_mem h)⟩
theorem zfa {fn : Func} {r : AV} {S' : StL} (h1 : zb2 P fn env.get st.get r) (h2 : ∀ x ∈ S', StO.get st x.1 = some x.2) : ze8 P fn r S' .normal env.get st.get := ⟨h1, fun id row h => h2 _ (StL.get_mem h)⟩
theorem AVLE.of_eq {x y : AV} (e : x = y) : AVLE x y := e ▸ AVLE.refl x
theorem zi {fn : Func} {t : Nat} {y x : T} (hr : fn.results = #[.tmp t]) (hx : env.get t = .t y) (e : y = x) : zb2 P fn env.get st.get (.t x) := yr hr (AVLE.of_eq (by rw [hx, e]))
def zct : List Nat → EnvL → EnvL
  | [], _ => []
  | t :: ts, env => (t, env.get t) :: zct ts env
theorem js : ∀ (ts : List Nat) (env : EnvL) (t : Nat), EnvL.get (zct ts env) t = env.get t ∨ EnvL.get (zct ts env) t = .junk
  | [], env, t => .inr rfl
  | u :: ts, env, t => by
    simp only [zct, EnvL.get]
    split
    · rename_i e; subst e; exact .inl rfl
    · exact js ts env t
theorem zbM {nt : Nat} (ts : List Nat) (env' : EnvL) (st' : StO) (he : zct ts env = env') (hs : ∀ x ∈ st', x.2 = none ∨ StO.get st x.1 = x.2) : Ghost nt env.get st.get env'.get st'.get := by
  subst he
  refine zci (fun t => ?_) fun id row h => ?_
  · rcases js ts env t with h | h
    · rw [h]; exact AVLE.refl _
    · rw [h]; exact AVLE.junk _
  · have mem : ∀ {l : StO}, StO.get l id = some row → (id, some row) ∈ l := by
      intro l
      induction l with
      | nil => intro h; simp [StO.get] at h
      | cons x l ih =>
        obtain ⟨i, r⟩ := x
        intro hq
        simp only [StO.get] at hq
        split at hq
        · rename_i e; subst e; rw [hq]; simp
        · exact List.mem_cons_of_mem _ (ih hq)
    rcases hs _ (mem h) with h1 | h1
    · cases h1
    · exact h1
end
section
variable {P : Program} {nt : Nat} {ops : Array Oper} {rest : List Oper} {env : EnvL} {st : StO} {acc : List SD} {K : EnvL → StO → List SD → Prop} {d : Option Tmp} {ty : TypeId} {pos : String} {after : Array Edge} {g : Option (Nat × Bool)}
theorem zfx {x : Operand} (H : LexP P nt ops ({ dst := d, op := .move x, type := ty, pos := pos, after := after, guard := g } :: rest) env st acc K) : LexP P nt ops ({ dst := d, op := .move x, type := ty, pos := pos, after := after, guard := g } :: rest) env st acc K := H
theorem zd2 {x : Operand} (H : LexP P nt ops ({ dst := d, op := .assign x, type := ty, pos := pos, after := after, guard := g } :: rest) env st acc K) : LexP P nt ops ({ dst := d, op := .assign x, type := ty, pos := pos, after := after, guard := g } :: rest) env st acc K := H
theorem zfU {c x y : Operand} (H : LexP P nt ops ({ dst := d, op := .pick c x y, type := ty, pos := pos, after := after, guard := g } :: rest) env st acc K) : LexP P nt ops ({ dst := d, op := .pick c x y, type := ty, pos := pos, after := after, guard := g } :: rest) env st acc K := H
theorem zgf {t : TypeId} {x : Operand} (H : LexP P nt ops ({ dst := d, op := .box t x, type := ty, pos := pos, after := after, guard := g } :: rest) env st acc K) : LexP P nt ops ({ dst := d, op := .box t x, type := ty, pos := pos, after := after, guard := g } :: rest) env st acc K := H
theorem zfn {t : TypeId} (H : LexP P nt ops ({ dst := d, op := .alloc t, type := ty, pos := pos, after := after, guard := g } :: rest) env st acc K) : LexP P nt ops ({ dst := d, op := .alloc t, type := ty, pos := pos, after := after, guard := g } :: rest) env st acc K := H
theorem jU {t : TypeId} {x : Operand} (H : LexP P nt ops ({ dst := d, op := .load t x, type := ty, pos := pos, after := after, guard := g } :: rest) env st acc K) : LexP P nt ops ({ dst := d, op := .load t x, type := ty, pos := pos, after := after, guard := g } :: rest) env st acc K := H
theorem xK {t : TypeId} {x y : Operand} (H : LexP P nt ops ({ dst := d, op := .store t x y, type := ty, pos := pos, after := after, guard := g } :: rest) env st acc K) : LexP P nt ops ({ dst := d, op := .store t x y, type := ty, pos := pos, after := after, guard := g } :: rest) env st acc K := H
theorem zbI {x : Operand} (H : LexP P nt ops ({ dst := d, op := .nilCheck x, type := ty, pos := pos, after := after, guard := g } :: rest) env st acc K) : LexP P nt ops ({ dst := d, op := .nilCheck x, type := ty, pos := pos, after := after, guard := g } :: rest) env st acc K := H
theorem zaR {t : TypeId} {x : Operand} {k : Nat} (H : LexP P nt ops ({ dst := d, op := .fieldAddr t x k, type := ty, pos := pos, after := after, guard := g } :: rest) env st acc K) : LexP P nt ops ({ dst := d, op := .fieldAddr t x k, type := ty, pos := pos, after := after, guard := g } :: rest) env st acc K := H
theorem ze {t : TypeId} {x y : Operand} (H : LexP P nt ops ({ dst := d, op := .indexAddr t x y, type := ty, pos := pos, after := after, guard := g } :: rest) env st acc K) : LexP P nt ops ({ dst := d, op := .indexAddr t x y, type := ty, pos := pos, after := after, guard := g } :: rest) env st acc K := H
theorem kP {t : TypeId} {x y : Operand} (H : LexP P nt ops ({ dst := d, op := .index t x y, type := ty, pos := pos, after := after, guard := g } :: rest) env st acc K) : LexP P nt ops ({ dst := d, op := .index t x y, type := ty, pos := pos, after := after, guard := g } :: rest) env st acc K := H
theorem xu {b : BinOp} {t u : TypeId} {x y : Operand} (H : LexP P nt ops ({ dst := d, op := .binOp b t x y u, type := ty, pos := pos, after := after, guard := g } :: rest) env st acc K) : LexP P nt ops ({ dst := d, op := .binOp b t x y u, type := ty, pos := pos, after := after, guard := g } :: rest) env st acc K := H
theorem zfy {b : UnOp} {t : TypeId} {x : Operand} (H : LexP P nt ops ({ dst := d, op := .unOp b t x, type := ty, pos := pos, after := after, guard := g } :: rest) env st acc K) : LexP P nt ops ({ dst := d, op := .unOp b t x, type := ty, pos := pos, after := after, guard := g } :: rest) env st acc K := H
theorem qi {t u : TypeId} {x : Operand} (H : LexP P nt ops ({ dst := d, op := .convert t u x, type := ty, pos := pos, after := after, guard := g } :: rest) env st acc K) : LexP P nt ops ({ dst := d, op := .convert t u x, type := ty, pos := pos, after := after, guard := g } :: rest) env st acc K := H
theorem zdF {x : Operand} {k : Nat} (H : LexP P nt ops ({ dst := d, op := .extract x k, type := ty, pos := pos, after := after, guard := g } :: rest) env st acc K) : LexP P nt ops ({ dst := d, op := .extract x k, type := ty, pos := pos, after := after, guard := g } :: rest) env st acc K := H
theorem zcf {f : Fn} {xs ys : Array Operand} (H : LexP P nt ops ({ dst := d, op := .makeFunc f xs ys, type := ty, pos := pos, after := after, guard := g } :: rest) env st acc K) : LexP P nt ops ({ dst := d, op := .makeFunc f xs ys, type := ty, pos := pos, after := after, guard := g } :: rest) env st acc K := H
theorem v7 {t : TypeId} {x : Operand} {l h m : Option Operand} (H : LexP P nt ops ({ dst := d, op := .slice t x l h m, type := ty, pos := pos, after := after, guard := g } :: rest) env st acc K) : LexP P nt ops ({ dst := d, op := .slice t x l h m, type := ty, pos := pos, after := after, guard := g } :: rest) env st acc K := H
theorem jX {t : TypeId} {n : Nat} {ps : Array (Nat × Operand)} (H : LexP P nt ops ({ dst := d, op := .buildSlice t n ps, type := ty, pos := pos, after := after, guard := g } :: rest) env st acc K) : LexP P nt ops ({ dst := d, op := .buildSlice t n ps, type := ty, pos := pos, after := after, guard := g } :: rest) env st acc K := H
theorem zeF {t : TypeId} {ps : Array (Nat × Operand)} (H : LexP P nt ops ({ dst := d, op := .build t ps, type := ty, pos := pos, after := after, guard := g } :: rest) env st acc K) : LexP P nt ops ({ dst := d, op := .build t ps, type := ty, pos := pos, after := after, guard := g } :: rest) env st acc K := H
theorem zgd {xs : Array Operand} {ts : Array TypeId} (H : LexP P nt ops ({ dst := d, op := .call { callee := .builtin .len, args := xs, argTypes := ts }, type := ty, pos := pos, after := after, guard := g } :: rest) env st acc K) : LexP P nt ops ({ dst := d, op := .call { callee := .builtin .len, args := xs, argTypes := ts }, type := ty, pos := pos, after := after, guard := g } :: rest) env st acc K := H
theorem yo {xs : Array Operand} {ts : Array TypeId} (H : LexP P nt ops ({ dst := d, op := .call { callee := .builtin .append, args := xs, argTypes := ts }, type := ty, pos := pos, after := after, guard := g } :: rest) env st acc K) : LexP P nt ops ({ dst := d, op := .call { callee := .builtin .append, args := xs, argTypes := ts }, type := ty, pos := pos, after := after, guard := g } :: rest) env st acc K := H
theorem zf7 {xs : Array Operand} {ts : Array TypeId} (H : LexP P nt ops ({ dst := d, op := .call { callee := .builtin .min, args := xs, argTypes := ts }, type := ty, pos := pos, after := after, guard := g } :: rest) env st acc K) : LexP P nt ops ({ dst := d, op := .call { callee := .builtin .min, args := xs, argTypes := ts }, type := ty, pos := pos, after := after, guard := g } :: rest) env st acc K := H
theorem zo {f : Operand} {xs : Array Operand} {ts : Array TypeId} (H : LexP P nt ops ({ dst := d, op := .call { callee := .value f, args := xs, argTypes := ts }, type := ty, pos := pos, after := after, guard := g } :: rest) env st acc K) : LexP P nt ops ({ dst := d, op := .call { callee := .value f, args := xs, argTypes := ts }, type := ty, pos := pos, after := after, guard := g } :: rest) env st acc K := H
theorem zeI {o : Op} {j : Nat} {b : Bool} (H : LexP P nt ops ({ dst := d, op := o, type := ty, pos := pos, after := after, guard := some (j, b) } :: rest) env st acc K) : LexP P nt ops ({ dst := d, op := o, type := ty, pos := pos, after := after, guard := some (j, b) } :: rest) env st acc K := H
end
end Go.AL
set_option linter.unusedVariables false
namespace Go.AL
open Go Go.RowKit Go.ChangeShapes Go.WideShapes Go.ChangeMaps
def yA (w : World) : Heap := fun b => w.heap[b]?
theorem xJ {w : World} {b o : Nat} : yU (yA w) b o = w.cell? ⟨b, o, none⟩ := by
  unfold yU yA World.cell?
  cases w.heap[b]? with
  | none => rfl
  | some x => cases x <;> simp
theorem zeD (w : World) (m : zu) : Sim (yA w) m (StL.get []) w :=
  ⟨fun b o h => h, fun id row h => by simp [StL.get] at h, fun id row b h => by simp [StL.get] at h, fun id id' r r' b h => by simp [StL.get] at h⟩
theorem Spec.calls {P : Program} {f : FuncId} {args : List AV} {b : Bool} (S : Spec P f args [] (.t (.bool b)) []) {vs : Array Value} {w : World} (hn : vs.size = args.length) (hr : RepAs (yA w) (fun _ => undef) (fun j => vs[j]?) 0 args) :
    Calls P f vs w fun e w' => e = .returned (.bool b) ∧ Below w.heap.size w w' := by
  refine (S.run _ _ vs w (zeD w _) hn hr).mono ?_
  rintro e w' ⟨v, h', m', rfl, hv, hs, hf⟩
  refine ⟨by simp only [RepA, RepT] at hv; rw [hv], hf.foot.os, hf.foot.tape, hf.foot.output, hf.foot.size, fun k hk => (hf.foot.keep k hk (fun id row h => by simp [StL.get] at h)).1⟩
section
variable {H : Type} {enc : TypeId × Value → H} {P : Program}
theorem wU (hl : laidOutB P = true) {W W' : World} (hb : Below W.heap.size W W') {sp : Nat → Bool} : ∀ {ts : List TypeId} {vs : List Value} {ds : List (DataW H)} {ps : List MemPlace},
    (∀ t ∈ ts, P.readableRec t = true ∧ t < P.types.size) → DataW.TrodAll enc P W 0 (fun _ => true) true ts vs ds ps → (∀ p ∈ ps, p.block < W.heap.size ∧ sp p.block = true) → DataW.TrodAll enc P W' 0 sp true ts vs ds ps
  | [], _, _, _, _, h, _ => by
    obtain ⟨rfl, rfl, rfl⟩ := trodAll_nil h
    exact trodAll_mk0
  | t :: ts, _, _, _, ht, h, hp => by
    obtain ⟨v, vs1, d, ds1, a, b, rfl, rfl, rfl, h1, h2⟩ := trodAll_cons h
    obtain ⟨r1, r2⟩ := ht t (List.mem_cons_self ..)
    exact trodAll_cons_mk (WideElems.Trod_stays hl r1 r2 h1 (fun x hx => hb.same (hp x (List.mem_append.2 (.inl hx))).1) (fun x hx => (hp x (List.mem_append.2 (.inl hx))).2))
      (wU hl hb (fun t' h' => ht t' (List.mem_cons_of_mem _ h')) h2 (fun x hx => hp x (List.mem_append.2 (.inr hx))))
theorem zdJ {f : Func} {s : ChangeSpec} {apart fresh handsOn again : Bool} {W W' : World} {args : Array Value} {ds gs : List (DataW H)} {before : List MemPlace} {tb : TypeId}
    (hl : laidOutB P = true) (hv : s.vars = []) (hW : DataW.Whole enc P f.params.toList s.vars apart W args.toList ds gs before)
    (hts : ∀ t ∈ f.params.toList, P.readableRec t = true ∧ t < P.types.size)
    (hr : f.resultTypes = #[tb]) (hu : P.underlying tb = some .bool)
    (hfn : ∀ ds : List (DataW H), ds.length = f.params.toList.length → s.fn H ds = { results := [.lit (.bool true)], args := ds })
    (hb : Below W.heap.size W W') : s.post enc P f apart fresh handsOn again W args (.bool true) W' := by
  have hW' := hW
  obtain ⟨p, q, hA, hV, rfl, hfz, hnd⟩ := hW
  have hV' := hV
  rw [hv] at hV
  obtain ⟨rfl, rfl⟩ := trodVars_none hV
  have hlt := hW'.lt
  have hlen : ds.length = f.params.toList.length := by
    have : ∀ {ts : List TypeId} {vs : List Value} {ds : List (DataW H)} {ps : List MemPlace}, DataW.TrodAll enc P W 0 (fun _ => true) true ts vs ds ps → ds.length = ts.length := by
      intro ts
      induction ts with
      | nil => intro vs ds ps h; obtain ⟨_, rfl, _⟩ := trodAll_nil h; rfl
      | cons t ts ih =>
        intro vs ds ps h
        obtain ⟨v, vs1, d, ds1, a, b, rfl, rfl, rfl, h1, h2⟩ := trodAll_cons h
        simp [ih h2]
    exact this hA
  have e := hfn ds hlen
  have hz : ∀ b off, MemPlace.cell b off ∈ p → W'.frozen? ⟨b, off, none⟩ = false := fun b off hp => by
    rw [hb.frozen (p := ⟨b, off, none⟩) (by simpa [MemPlace.block] using hlt (.cell b off) (by simpa using hp))]
    exact hfz b off (by simpa using hp)
  have hargs : ∀ sp : Nat → Bool, (∀ x ∈ p, sp x.block = true) → DataW.TrodAll enc P W' 0 sp true f.params.toList args.toList ds p := fun sp hsp =>
    wU hl hb hts hA (fun x hx => ⟨hlt x (by simpa using hx), hsp x hx⟩)
  have hvars : ∀ sp : Nat → Bool, DataW.TrodVars enc P W' sp s.vars ([] : List (DataW H)) [] := fun sp => by rw [hv]; rfl
  have hres : ∀ (b : Nat) (sp : Nat → Bool) (hd : Bool), DataW.TrodAll enc P W' b sp hd f.resultTypes.toList ((Value.bool true).resultList f.resultTypes.size) [DataW.lit (.bool true)] [] := fun b sp hd => by
    rw [hr]; exact trodAll_cons_mk (shut_bool hu _) trodAll_mk0
  refine ⟨ds, [], p ++ [], [], p, [], hW', ?_, ?_, ?_, World.keptBut_mono (fun x hx => ⟨hx, ?_⟩) (hb.frame _), fun _ => ⟨?_, [DataW.lit (.bool true)] ++ ds, [], ([] ++ p) ++ [], ⟨[] ++ p, [], ?_, hvars _, rfl, ?_, ?_⟩, ?_⟩⟩
  · simp only [List.append_nil]; rw [e]; exact hres _ _ _
  · simp only [List.append_nil]; rw [e]; exact hargs _ (fun x hx => by simpa using hlt x (by simpa using hx))
  · simp only [List.append_nil]; rw [e]; exact hvars _
  · simp at hx; exact .inr (.inl hx)
  · exact ok_one (by rw [hr]) rfl (okWide_bool_mk hu _)
  · exact trodAll_append (hargs _ (fun _ _ => rfl)) (hres _ _ _)
  · intro b off hp; exact hz b off (by simpa using hp)
  · intro ha; simpa using hnd ha
  · intro x hx _; simpa using hx
end
theorem xO {H : Type} {P : Program} {t : TypeId} {d : DataW H} : ∀ {es : List (DataW H)}, d ∈ es → ∀ n ∈ DataW.weights P t d, n ∈ DataW.weightsAll P t es
  | x :: es, h, n, hn => by
    simp only [DataW.weightsAll, List.mem_append]
    rcases List.mem_cons.1 h with rfl | h
    · exact .inl hn
    · exact .inr (xO h n hn)
structure WtOK (P : Program) {H : Type} (mul : TypeId → Nat) (wt : TypeId → DataW H → List Nat) : Prop where
  str : ∀ t b, ∃ n ∈ wt t (.lit (.string b)), b.length ≤ n
  len : ∀ t e es sp, P.underlying t = some (.slice e) → ∃ n ∈ wt t (.slice es sp), es.length * mul e ≤ n
  elem : ∀ t e es sp x, P.underlying t = some (.slice e) → x ∈ es → ∀ n ∈ wt e x, ∃ n' ∈ wt t (.slice es sp), n ≤ n'
  part : ∀ (t : TypeId) (fs : Array Field) (ps : List (DataW H)) (i : Nat) (f : Field) (p : DataW H), P.underlying t = some (.struct fs) → fs[i]? = some f → ps[i]? = some p → ∀ n ∈ wt f.type p, ∃ n' ∈ wt t (.agg ps), n ≤ n'
theorem zcv (P : Program) (H : Type) : WtOK P (H := H) P.bytesOf (DataW.weights P) where
  str t b := ⟨b.length, by simp [DataW.weights], Nat.le_refl _⟩
  len t e es sp ht := ⟨(es.length + sp.length) * P.bytesOf e, by simp [DataW.weights, ht], Nat.mul_le_mul_right _ (Nat.le_add_right _ _)⟩
  elem t e es sp x ht hx n hn := ⟨n, by simp only [DataW.weights, ht, List.mem_cons, List.mem_append]; exact .inr (.inl (xO hx n hn)), Nat.le_refl _⟩
  part t fs ps i f p ht hf hp n hn := ⟨n, by simp only [DataW.weights, ht]; exact DataW.weights_mem_each (j := i) (by simp [hf]) hp n hn, Nat.le_refl _⟩
structure Rd (P : Program) (t : TypeId) (n : Nat) (X : Type) where
  toT : X → T
  ok : (TypeId → Nat) → Nat → X → Prop
  len : ∀ x, (toT x).cells.length = n
  opens : ∀ {H : Type} {enc : TypeId × Value → H} {w : World} {base : Nat} {spare : Nat → Bool} {held : Bool} {fuel : Nat} {cs : List Value} {d : DataW H × List MemPlace}, DataW.trod enc P w base spare held fuel t cs = some d → ∀ {mul : TypeId → Nat} {wt : TypeId → DataW H → List Nat} {B : Nat}, WtOK P mul wt → (∀ n ∈ wt t d.1, n ≤ B) →
    ∃ x, ok mul B x ∧ cs.length = n ∧ ∀ (g : Nat → Option Value) (o : Nat), (∀ i u, cs[i]? = some u → g (o + i) = some u) → RepL (yA w) g o (toT x).cells
  one : ∀ {H : Type} {enc : TypeId × Value → H} {w : World} {base : Nat} {spare : Nat → Bool} {held : Bool} {v : Value} {d : DataW H} {ps : List MemPlace} {b0 : Nat}, DataW.Trod enc P w base spare held t v d ps → Value.okWide P w .any b0 t v → ∀ {mul : TypeId → Nat} {wt : TypeId → DataW H → List Nat} {B : Nat}, WtOK P mul wt → (∀ n ∈ wt t d, n ≤ B) →
    ∃ x, ok mul B x ∧ RepT (yA w) v (toT x)
section
variable {P : Program}
def Rd.int {t : TypeId} {k : IntKind} (ht : P.underlying t = some (.int k)) : Rd P t 1 Int where
  toT n := .int k n
  ok _ _ n := (Lit.int k n).wf = true
  len _ := rfl
  opens h _ _ _ _ _ := by
    obtain ⟨n, rfl, rfl, hw⟩ := DataW.trod_int ht h
    refine ⟨n, hw, rfl, fun g o hg => ?_⟩
    simp only [T.cells, RepL, and_true]
    exact ⟨_, by simpa using hg 0 _ rfl, rfl, rfl⟩
  one hd hv _ _ _ _ _ := by
    obtain ⟨n, rfl, _, _, hw⟩ := open_int ht hv hd
    exact ⟨n, hw, rfl⟩
def Rd.bool {t : TypeId} (ht : P.underlying t = some .bool) : Rd P t 1 Bool where
  toT b := .bool b
  ok _ _ b := True
  len _ := rfl
  opens h _ _ _ _ _ := by
    obtain ⟨n, rfl, rfl⟩ := DataW.trod_bool ht h
    refine ⟨n, trivial, rfl, fun g o hg => ?_⟩
    simp only [T.cells, RepL, and_true]
    exact ⟨_, by simpa using hg 0 _ rfl, rfl, rfl⟩
  one hd hv _ _ _ _ _ := by
    obtain ⟨n, rfl, _, _⟩ := open_bool ht hv hd
    exact ⟨n, trivial, rfl⟩
def Rd.str {t : TypeId} (ht : P.underlying t = some .string) : Rd P t 1 ByteArray where
  toT s := .str s
  ok _ B s := s.size ≤ maxLen ∧ s.size ≤ B
  len _ := rfl
  opens h mul wt B hwt hbk := by
    obtain ⟨n, rfl, rfl, hw⟩ := DataW.trod_string ht h
    refine ⟨n, ⟨hw, by obtain ⟨q, h1, h2⟩ := hwt.str t n.data.toList; have := hbk q h1; rw [Array.length_toList] at h2; exact Nat.le_trans h2 this⟩, rfl, fun g o hg => ?_⟩
    simp only [T.cells, RepL, and_true]
    exact ⟨_, by simpa using hg 0 _ rfl, rfl, rfl⟩
  one hd hv mul wt B hwt hbk := by
    obtain ⟨n, rfl, rfl, _, hw⟩ := open_string ht hv hd
    exact ⟨n, ⟨hw, by obtain ⟨q, h1, h2⟩ := hwt.str t n.data.toList; have := hbk q h1; rw [Array.length_toList] at h2; exact Nat.le_trans h2 this⟩, rfl⟩
def zeo {X : Type} (n : Nat) (f : X → T) : Option (List X) → T
  | none => .nilsl
  | some l => .sl n (l.map f)
theorem zbd {h : Heap} {g : Nat → Option Value} {sz : Nat} : ∀ {es : List T} {o : Nat}, (∀ i e, es[i]? = some e → e.cells.length = sz ∧ RepL h g (o + i * sz) e.cells) → RepEs h g o sz es
  | [], _, _ => by simp [RepEs]
  | e :: es, o, H => by
    rw [zA]
    refine ⟨by simpa using H 0 e rfl, zbd fun i e' he => ?_⟩
    have := H (i + 1) e' (by simpa using he)
    rw [Nat.add_mul, Nat.one_mul] at this
    rw [show o + sz + i * sz = o + (i * sz + sz) from by omega]; exact this
theorem zaX {t e : TypeId} {n : Nat} {X : Type} (ht : P.underlying t = some (.slice e)) (hc : P.cellsOf e = n) (hn : 0 < n) (toT : X → T) (okX : X → Prop) (hlenT : ∀ x, (toT x).cells.length = n)
    {H : Type} {enc : TypeId × Value → H} {w : World} {base : Nat} {spare : Nat → Bool} {held : Bool} {fuel : Nat} {cs : List Value} {d : DataW H × List MemPlace} (h : DataW.trod enc P w base spare held fuel t cs = some d) {mul : TypeId → Nat} {wt : TypeId → DataW H → List Nat} {B : Nat} (hwt : WtOK P mul wt)
    (hop : ∀ (fuel' : Nat), fuel' < fuel → ∀ (cs : List Value) (d : DataW H × List MemPlace), DataW.trod enc P w base spare held fuel' e cs = some d → (∀ n ∈ wt e d.1, n ≤ B) → ∃ x, okX x ∧ cs.length = n ∧ ∀ (g : Nat → Option Value) (o : Nat), (∀ i u, cs[i]? = some u → g (o + i) = some u) → RepL (yA w) g o (toT x).cells) (hbk : ∀ n ∈ wt t d.1, n ≤ B) :
    ∃ v, cs = [v] ∧ v.oneCell' = true ∧ ∃ x : Option (List X), (∀ l, x = some l → l.length ≤ maxLen ∧ l.length * mul e ≤ B ∧ ∀ y ∈ l, okX y) ∧ RepT (yA w) v (zeo n toT x) := by
  rcases DataW.trod_slice ht h with ⟨rfl, _⟩ | ⟨a, len, cap, elems, rest, m, hfu, rfl, rfl, hb, hl, hm, hlen, hel, hsp, hns⟩
  · exact ⟨_, rfl, rfl, none, ⟨(fun l h => by cases h), rfl⟩⟩
  · rw [hc] at hel
    have hKe : ∀ x ∈ elems, ∀ n ∈ wt e x.1, n ≤ B := fun x hx n hn => by
      obtain ⟨q, h1, h2⟩ := hwt.elem t e (elems.map (·.1)) (rest.map (·.1)) x.1 ht (List.mem_map_of_mem (f := (·.1)) hx) n hn
      exact Nat.le_trans h2 (hbk q h1)
    have hKl : elems.length * mul e ≤ B := by
      obtain ⟨q, h1, h2⟩ := hwt.len t e (elems.map (·.1)) (rest.map (·.1)) ht
      rw [List.length_map] at h2
      exact Nat.le_trans h2 (hbk q h1)
    have key : ∀ i, i < len → ∃ x, okX x ∧ ∃ cs, w.cells? base (a.add (i * n)) n = some cs ∧ cs.length = n ∧ ∀ (g : Nat → Option Value) (o : Nat), (∀ i u, cs[i]? = some u → g (o + i) = some u) → RepL (yA w) g o (toT x).cells := fun i hi => by
      have h1 := hel i hi
      have h2 : elems[i]? = some (elems[i]'(by omega)) := List.getElem?_eq_getElem (by omega)
      rw [h2] at h1
      cases hcs : w.cells? base (a.add (i * n)) n with
      | none => rw [hcs] at h1; simp at h1
      | some cs =>
        rw [hcs] at h1
        obtain ⟨x, k1, k2, k3⟩ := hop m (by omega) _ _ (by simpa using h1) (hKe _ (List.getElem_mem _))
        exact ⟨x, k1, cs, rfl, k2, k3⟩
    have cellAt : ∀ i cs, w.cells? base (a.add (i * n)) n = some cs → cs.length = n → ∀ j u, cs[j]? = some u → w.cell? (a.add (i * n + j)) = some u := fun i cs hcs hcl j u hu => by
      unfold World.cells? at hcs
      split at hcs
      · have hj : j < n := by
          have := (List.getElem?_eq_some_iff.1 hu).1
          omega
        have := mapM_some_get hcs j j (by simp [hj])
        rw [hu] at this
        have e : (a.add (i * n)).add j = a.add (i * n + j) := by by_cases hj0 : j = 0 <;> by_cases hi0 : i * n = 0 <;> simp [Addr.add, hj0, hi0, Nat.add_assoc]
        rw [← e]; exact this
      · cases hcs
    have all : ∀ k, k ≤ len → ∃ xs : List X, xs.length = k ∧ (∀ y ∈ xs, okX y) ∧ ∀ i y, xs[i]? = some y → ∃ cs, w.cells? base (a.add (i * n)) n = some cs ∧ cs.length = n ∧ ∀ (g : Nat → Option Value) (o : Nat), (∀ i u, cs[i]? = some u → g (o + i) = some u) → RepL (yA w) g o (toT y).cells := fun k => by
      induction k with
      | zero => exact fun _ => ⟨[], rfl, by simp, by simp⟩
      | succ k ih =>
        intro hk
        obtain ⟨xs, h1, h2, h3⟩ := ih (by omega)
        obtain ⟨x, k1, cs, k2, k3, k4⟩ := key k (by omega)
        refine ⟨xs ++ [x], by simp [h1], ?_, ?_⟩
        · intro y hy
          rcases List.mem_append.1 hy with hy | hy
          · exact h2 y hy
          · simp at hy; subst hy; exact k1
        · intro i y hy
          by_cases hi : i < k
          · rw [List.getElem?_append_left (by omega)] at hy; exact h3 i y hy
          · rw [List.getElem?_append_right (by omega)] at hy
            have : i = k := by
              have := (List.getElem?_eq_some_iff.1 hy).1
              simp at this; omega
            subst this
            simp [h1] at hy
            subst hy
            exact ⟨cs, k2, k3, k4⟩
    obtain ⟨xs, h1, h2, h3⟩ := all len (Nat.le_refl _)
    refine ⟨_, rfl, rfl, some xs, ?_, ?_⟩
    · intro l hl'; cases hl'; exact ⟨by omega, by rw [h1, ← hlen]; exact hKl, h2⟩
    · simp only [zeo, RepT]
      refine ⟨some a, len, cap, rfl, by simp [h1], hl, ⟨hm, fun h => by cases h⟩, fun hne => ?_⟩
      have hpos : 0 < len := by omega
      obtain ⟨x, k1, cs, k2, k3, k4⟩ := key 0 hpos
      have hsp : a.spot = none := by
        have : cs[0]? = some (cs[0]'(by omega)) := List.getElem?_eq_getElem (by omega)
        have := cellAt 0 cs k2 k3 0 _ this
        simpa [Addr.add] using World.cell?_spot this
      obtain ⟨b, off, spot⟩ := a
      simp only at hsp
      subst hsp
      refine ⟨b, off, rfl, zbd fun i e he => ?_⟩
      rw [List.getElem?_map, Option.map_eq_some_iff] at he
      obtain ⟨y, hy, rfl⟩ := he
      obtain ⟨cs, k2, k3, k4⟩ := h3 i y hy
      refine ⟨hlenT y, k4 _ _ fun j u hu => ?_⟩
      have := cellAt i cs k2 k3 j u hu
      rw [add_plain] at this
      rw [xJ]
      rw [Nat.add_assoc]; exact this
theorem Rd.slice_open {t e : TypeId} {n : Nat} {X : Type} (ht : P.underlying t = some (.slice e)) (hc : P.cellsOf e = n) (hn : 0 < n) (R : Rd P e n X)
    {H : Type} {enc : TypeId × Value → H} {w : World} {base : Nat} {spare : Nat → Bool} {held : Bool} {fuel : Nat} {cs : List Value} {d : DataW H × List MemPlace} (h : DataW.trod enc P w base spare held fuel t cs = some d) {mul : TypeId → Nat} {wt : TypeId → DataW H → List Nat} {B : Nat} (hwt : WtOK P mul wt) (hbk : ∀ n ∈ wt t d.1, n ≤ B) :
    ∃ v, cs = [v] ∧ v.oneCell' = true ∧ ∃ x : Option (List X), (∀ l, x = some l → l.length ≤ maxLen ∧ l.length * mul e ≤ B ∧ ∀ y ∈ l, R.ok mul B y) ∧ RepT (yA w) v (zeo n R.toT x) :=
  zaX ht hc hn R.toT (R.ok mul B) R.len h hwt (fun fuel' _ cs d hd hB => R.opens hd hwt hB) hbk
def Rd.slice {t e : TypeId} {n : Nat} {X : Type} (ht : P.underlying t = some (.slice e)) (hc : P.cellsOf e = n) (hn : 0 < n) (R : Rd P e n X) : Rd P t 1 (Option (List X)) where
  toT := zeo n R.toT
  ok mul B x := ∀ l, x = some l → l.length ≤ maxLen ∧ l.length * mul e ≤ B ∧ ∀ y ∈ l, R.ok mul B y
  len x := by cases x <;> rfl
  opens h mul wt B hwt hbk := by
    obtain ⟨v, rfl, h1, x, hx, hr⟩ := Rd.slice_open ht hc hn R h hwt hbk
    refine ⟨x, hx, rfl, fun g o hg => ?_⟩
    have e : (zeo n R.toT x).cells = [zeo n R.toT x] := by cases x <;> rfl
    rw [e]
    simp only [RepL, and_true]
    exact ⟨v, by simpa using hg 0 _ rfl, h1, hr⟩
  one hd hv mul wt B hwt hbk := by
    obtain ⟨fuel, hf⟩ := hd
    obtain ⟨a, len, cap, rfl⟩ := okWide_slice ht hv
    obtain ⟨v, e, h1, x, hx, hr⟩ := Rd.slice_open ht hc hn R hf hwt hbk
    simp [Value.cells] at e
    subst e
    exact ⟨x, hx, hr⟩
theorem zcK {X : Type} {n : Nat} {f : X → T} {h : Heap} {v : Value} {x : Option (List X)} (H : RepT h v (zeo n f x)) : RepT h v (.sl n ((x.getD []).map f)) := by
  cases x with
  | some l => exact H
  | none =>
    simp only [zeo, RepT] at H
    simp only [RepT]
    exact ⟨none, 0, 0, H, by simp, Nat.le_refl _, ⟨Nat.zero_le _, fun _ => rfl⟩, fun h => absurd rfl h⟩
def Rd.list {t e : TypeId} {n : Nat} {X : Type} (ht : P.underlying t = some (.slice e)) (hc : P.cellsOf e = n) (hn : 0 < n) (R : Rd P e n X) : Rd P t 1 (List X) where
  toT l := .sl n (l.map R.toT)
  ok mul B l := l.length ≤ maxLen ∧ l.length * mul e ≤ B ∧ ∀ y ∈ l, R.ok mul B y
  len x := rfl
  opens h mul wt B hwt hbk := by
    obtain ⟨v, rfl, h1, x, hx, hr⟩ := Rd.slice_open ht hc hn R h hwt hbk
    refine ⟨x.getD [], ?_, rfl, fun g o hg => ?_⟩
    · cases x with
      | none => exact ⟨Nat.zero_le _, by simp, by simp⟩
      | some l => exact hx l rfl
    · simp only [T.cells, RepL, and_true]
      exact ⟨v, by simpa using hg 0 _ rfl, h1, zcK hr⟩
  one hd hv mul wt B hwt hbk := by
    obtain ⟨x, hx, hr⟩ := (Rd.slice ht hc hn R).one hd hv hwt hbk
    refine ⟨x.getD [], ?_, zcK hr⟩
    cases x with
    | none => exact ⟨Nat.zero_le _, by simp⟩
    | some l => exact hx l rfl
end
theorem zdq {h : Heap} {m : zu} {g : Nat → Option Value} {o : Nat} : RepAs h m g o [] := trivial
theorem zcy {h : Heap} {m : zu} {g : Nat → Option Value} {o : Nat} {v : Value} {x : T} {xs : List AV} (e : g o = some v) (H : RepT h v x) (H2 : RepAs h m g (o + 1) xs) : RepAs h m g o (.t x :: xs) := ⟨⟨v, e, H⟩, H2⟩
end Go.AL
set_option linter.unusedVariables false
set_option linter.unusedSimpArgs false
namespace Go.AL
open Go Go.RowKit
def za1 : Nat → List (Nat × AV) → Option (List T)
  | _, [] => some []
  | k, (i, .t e) :: ps => match i == k, za1 (k + 1) ps with
    | true, some l => some (e :: l)
    | _, _ => none
  | _, _ => none
theorem kg {ps : List (Nat × AV)} {k : Nat} {es : List T} (h : za1 k ps = some es) : ps = (es.zipIdx k).map fun e => (e.2, AV.t e.1) := by
  induction ps generalizing k es with
  | nil => simp [za1] at h; subst h; rfl
  | cons p ps ih =>
    obtain ⟨i, x⟩ := p
    cases x with
    | t e =>
      simp only [za1] at h
      split at h
      · rename_i l hi h1
        cases h
        simp at hi
        subst hi
        simp [ih h1]
      · cases h
    | _ => simp [za1] at h
theorem zb7 {α : Type} (A B C : List α) (off : Nat) (X : List α) (h : A.length = off) (h2 : X.length = B.length) : zJ (A ++ B ++ C) off X = A ++ X ++ C := by
  subst h
  unfold zJ
  rw [h2, ← List.length_append, List.drop_left, List.append_assoc A B C, List.take_left]
theorem zba (e : T) : (AV.t e).cells = e.cells.map AV.t := by cases e <;> rfl
theorem kp {sz : Nat} : ∀ (es : List T) (A : List AV) (k : Nat), A.length = k * sz → (∀ e ∈ es, e.cells.length = sz) →
    km (A ++ List.replicate (es.length * sz) AV.junk) ((es.zipIdx k).map fun e => (e.2 * sz, AV.t e.1)) = A ++ (es.flatMap T.cells).map AV.t
  | [], A, k, hA, _ => by simp [km]
  | e :: es, A, k, hA, he => by
    have h1 := he e (List.mem_cons_self ..)
    simp only [List.zipIdx_cons, List.map_cons, km]
    have e1 : List.replicate ((e :: es).length * sz) AV.junk = List.replicate sz AV.junk ++ List.replicate (es.length * sz) AV.junk := by
      rw [List.length_cons, Nat.add_mul, Nat.one_mul, Nat.add_comm, List.replicate_append_replicate]
    rw [e1, ← List.append_assoc, zb7 A _ _ _ _ hA (by rw [zba]; simp [h1]), zba]
    rw [kp es (A ++ e.cells.map AV.t) (k + 1) (by simp [hA, h1, Nat.add_mul]) (fun x hx => he x (List.mem_cons_of_mem _ hx))]
    simp
theorem vZ {ρ : Operand → AV} {sz n : Nat} : ∀ (ps : List (Nat × Operand)) (es : List T) (k : Nat), ps.map (fun p => (p.1, ρ p.2)) = (es.zipIdx k).map (fun e => (e.2, AV.t e.1)) → (∀ e ∈ es, e.cells.length = sz) → (k + es.length) * sz ≤ n →
    PartsOK (fun i => some (i * sz, sz)) ρ n ps ((es.zipIdx k).map fun e => (e.2 * sz, AV.t e.1))
  | [], [], _, _, _, _ => by simp [PartsOK]
  | [], e :: es, _, h, _, _ => by simp at h
  | p :: ps, [], _, h, _, _ => by simp at h
  | (i, x) :: ps, e :: es, k, h, he, hn => by
    simp only [List.map_cons, List.zipIdx_cons, List.cons.injEq, Prod.mk.injEq] at h
    obtain ⟨⟨rfl, h2⟩, h3⟩ := h
    have h1 := he e (List.mem_cons_self ..)
    simp only [List.zipIdx_cons, List.map_cons, PartsOK]
    have hl : (AV.t e).cells.length = sz := by rw [zba]; simp [h1]
    have e1 : i * sz + sz ≤ n := Nat.le_trans (by rw [List.length_cons, Nat.add_mul, Nat.add_mul]; omega) hn
    refine ⟨⟨h2.symm, rfl, by rw [hl], by rw [hl]; exact e1⟩, vZ ps es (i + 1) h3 (fun x hx => he x (List.mem_cons_of_mem _ hx)) ?_⟩
    rw [List.length_cons] at hn
    rw [show i + 1 + es.length = i + (es.length + 1) from by omega]; exact hn
section
variable {P : Program} {nt : Nat} {ops : Array Oper} {o : Oper} {rest : List Oper} {env : EnvL} {st : StO} {acc : List SD} {K : EnvL → StO → List SD → Prop} {d : Nat}
theorem w7 {R R' : StL} {N W : List Id} {r : AV} {st' : StO} (hT : OpT P o (zk env.get) (StL.get R) r (StL.get R') N) (hd : o.dst = some d) (hn : d < nt) (hw : xC ops o env.get) (hsub : ∀ x ∈ R, StO.get st x.1 = some x.2) (hdom : ∀ id ∈ R'.ids, id ∈ R.ids ∨ id ∈ N) (hsame : ∀ id ∈ R.ids, id ∉ W → StL.get R' id = StL.get R id) (hloc : ∀ id ∈ N, id.isLoc = true) (hfr : zX N env st = true)
    (he : StO.get st' = StO.get (jK R R' N st)) (H : LexP P nt ops rest ((d, r) :: env) st' (⟨true, R, r, R', W, N⟩ :: acc) K) : LexP P nt ops (o :: rest) env st acc K :=
  LexP.ex ⟨⟨true, R, r, R', W, N⟩, _, _, ⟨(fun t ht => by rw [hd] at ht; cases ht; exact hn), fun _ => ⟨hw, hT⟩, (fun h => by cases h), fun id row hr => hsub _ (StL.get_mem hr), ⟨hdom, hsame, hloc⟩, zH hfr⟩, (by rw [yV]; unfold zK; rw [hd]), (by rw [he, xG]; rfl), H⟩
theorem kM {t elem : TypeId} {len : Nat} {parts : Array (Nat × Operand)} {sz bytes : Nat} {z : Value} {es : List T} (ho : o.op = .buildSlice t len parts) [tu : TyU P t (.slice elem)] [ti : TyI P elem sz bytes z]
    (hes : za1 0 (parts.toList.map (fun p => (p.1, zk env.get p.2))) = some es) (hside : (decide (es.length = len) && (es.all (fun e => decide (e.cells.length = sz)) && (decide (z.cells.size = sz) && (decide (0 < sz) && (z.cells.toList.all Value.oneCell' && decide (len * sz ≤ 16777216)))))) = true)
    (hd : o.dst = some d) (hn : (decide (d < nt)) = true) (hg : zj ops o env = true) (hfr : zX [.loc d] env st = true)
    (H : LexP P nt ops rest ((d, .row (.loc d)) :: env) ((.loc d, some (.slt elem sz es)) :: st) (⟨true, [], .row (.loc d), [(.loc d, .slt elem sz es)], [], [.loc d]⟩ :: acc) K) : LexP P nt ops (o :: rest) env st acc K := by
  simp only [Bool.and_eq_true, decide_eq_true_eq, List.all_eq_true] at hside
  obtain ⟨s1, s2, s3, s4, s5, s6⟩ := hside
  have e := kg hes
  subst s1
  have f := kp (sz := sz) es [] 0 (by simp) s2
  simp only [List.nil_append] at f
  exact jh (wd (.loc d) ho tu ti s3 s4 s5 s6 (vZ _ _ 0 e s2 (by simp)) f rfl s2) hd hn hg rfl hfr H
theorem vr {s x : Operand} {t t2 elem e2 : TypeId} {id : Id} {sz bytes : Nat} {z : Value} {xs ys : List T} (ho : o.op = .call { callee := .builtin .append, args := #[s, x], argTypes := #[t, t2] }) (hs1 : zk env.get s = .row id) (hx : zk env.get x = .t (.sl sz ys)) [tu : TyU P t (.slice elem)] [ti : TyI P elem sz bytes z] [tu2 : TyU P t2 (.slice e2)]
    (hst : StO.get st id = some (.slt elem sz xs)) (hside : (decide (z.cells.size = sz) && (decide (0 < sz))) = true)
    (hd : o.dst = some d) (hn : (decide (d < nt)) = true) (hg : zj ops o env = true) (hfr : zX [.loc d] env st = true)
    (hb : (xs.length + ys.length) * bytes ≤ 140737488355328) (hm : xs.length + ys.length ≤ 9223372036854775807)
    (H : LexP P nt ops rest ((d, .row (.loc d)) :: env) ((.loc d, some (.slt elem sz (xs ++ ys))) :: (id, none) :: st) (⟨true, [(id, .slt elem sz xs)], .row (.loc d), [(.loc d, .slt elem sz (xs ++ ys))], [id], [.loc d]⟩ :: acc) K) : LexP P nt ops (o :: rest) env st acc K := by
  simp only [Bool.and_eq_true, decide_eq_true_eq] at hside
  have hne : Id.loc d ≠ id := fun e => by
    have := (zH hfr).2 id _ hst
    rw [e] at this
    simp at this
  refine w7 (R := [(id, .slt elem sz xs)]) (R' := [(.loc d, .slt elem sz (xs ++ ys))]) (N := [.loc d]) (W := [id]) (r := .row (.loc d)) ?_ hd (of_decide_eq_true hn) (zM hg) ?_ ?_ ?_ ?_ hfr ?_ H
  · exact vo (R2 := []) (.loc d) ho hs1 tu ti tu2 (by rw [hx]; exact .sl) hside.1 hside.2 (by simp [StL.ids]) (by simp [StL.ids]) hb hm
  · intro y hy; simp at hy; subst hy; exact hst
  · intro j hj; simp [StL.ids] at hj; exact .inr (by simp [hj])
  · intro j hj hj'; simp [StL.ids] at hj; simp [hj] at hj'
  · intro j hj; simp at hj; rw [hj]; rfl
  · funext y
    show StO.get ((.loc d, some (.slt elem sz (xs ++ ys))) :: (id, none) :: st) y = StO.get ((.loc d, some (.slt elem sz (xs ++ ys))) :: (id, none) :: (.loc d, none) :: st) y
    simp only [StO.get]
    by_cases e1 : Id.loc d = y
    · simp [e1]
    · simp [e1]
end
def zfW (id : Id) (x : T) : EnvL → EnvL
  | [] => []
  | (t, v) :: l => (t, v.sub id x) :: zfW id x l
def zc7 (id : Id) (x : T) : StO → StO
  | [] => []
  | (i, r) :: l => (i, r.map (Row.sub id x)) :: zc7 id x l
theorem zby {id : Id} {x : T} {t : Nat} : ∀ {l : EnvL}, EnvL.get (zfW id x l) t = (EnvL.get l t).sub id x
  | [] => rfl
  | (i, v) :: l => by
    simp only [zfW, EnvL.get]
    split
    · rfl
    · exact zby
theorem jF {id : Id} {x : T} {j : Id} : ∀ {l : StO}, StO.get (zc7 id x l) j = (StO.get l j).map (Row.sub id x)
  | [] => rfl
  | (i, v) :: l => by
    simp only [zc7, StO.get]
    split
    · rfl
    · exact jF
theorem zy {nt : Nat} {env env' : EnvL} {st st' : StO} {id : Id} {e : TypeId} {sz : Nat} {es : List T} (hr : StO.get st id = some (.slt e sz es)) (he : zfW id (.sl sz es) env = env') (hs : (id, none) :: zc7 id (.sl sz es) st = st') : Ghost nt env.get st.get env'.get st'.get := by
  subst he; subst hs
  have := jo (nt := nt) (env := env.get) (st := st.get) hr
  have e1 : (fun t => (env.get t).sub id (.sl sz es)) = EnvL.get (zfW id (.sl sz es) env) := by funext t; exact zby.symm
  have e2 : (fun j => if j = id then none else (st.get j).map (Row.sub id (.sl sz es))) = StO.get ((id, none) :: zc7 id (.sl sz es) st) := by
    funext j
    simp only [StO.get]
    by_cases h : id = j
    · simp [h]
    · rw [if_neg h, if_neg (fun h' => h h'.symm), jF]
  rw [e1, e2] at this
  exact this
end Go.AL
set_option linter.unusedVariables false
set_option linter.unusedSimpArgs false
namespace Go.AL
open Go Go.RowKit
section
variable {P : Program} {nt : Nat} {ops : Array Oper} {o : Oper} {rest : List Oper} {env : EnvL} {st : StO} {acc : List SD} {K : EnvL → StO → List SD → Prop} {d : Nat}
theorem kR {id : Id} {row : Row} (hfr : zX [.loc d] env st = true) (hst : StO.get st id = some row) : Id.loc d ≠ id := fun e => by
  have := (zH hfr).2 id _ hst
  rw [e] at this
  simp at this
theorem zL {s x : Operand} {t t2 elem e2 e2' : TypeId} {id id2 : Id} {sz bytes : Nat} {z : Value} {xs ys : List T} (ho : o.op = .call { callee := .builtin .append, args := #[s, x], argTypes := #[t, t2] }) (hs1 : zk env.get s = .row id) (hx : zk env.get x = .row id2) [tu : TyU P t (.slice elem)] [ti : TyI P elem sz bytes z] [tu2 : TyU P t2 (.slice e2)]
    (hst : StO.get st id = some (.slt elem sz xs)) (hst2 : StO.get st id2 = some (.slt e2' sz ys)) (hside : (decide (z.cells.size = sz) && (decide (0 < sz) && decide (id ≠ id2))) = true)
    (hd : o.dst = some d) (hn : (decide (d < nt)) = true) (hg : zj ops o env = true) (hfr : zX [.loc d] env st = true)
    (hb : (xs.length + ys.length) * bytes ≤ 140737488355328) (hm : xs.length + ys.length ≤ 9223372036854775807)
    (H : LexP P nt ops rest ((d, .row (.loc d)) :: env) ((.loc d, some (.slt elem sz (xs ++ ys))) :: (id, none) :: st) (⟨true, [(id, .slt elem sz xs), (id2, .slt e2' sz ys)], .row (.loc d), [(.loc d, .slt elem sz (xs ++ ys)), (id2, .slt e2' sz ys)], [id], [.loc d]⟩ :: acc) K) : LexP P nt ops (o :: rest) env st acc K := by
  simp only [Bool.and_eq_true, decide_eq_true_eq] at hside
  have hne := kR hfr hst
  have hne2 := kR hfr hst2
  refine w7 (R := [(id, .slt elem sz xs), (id2, .slt e2' sz ys)]) (R' := [(.loc d, .slt elem sz (xs ++ ys)), (id2, .slt e2' sz ys)]) (N := [.loc d]) (W := [id]) (r := .row (.loc d)) ?_ hd (of_decide_eq_true hn) (zM hg) ?_ ?_ ?_ ?_ hfr ?_ H
  · exact vo (R2 := [(id2, .slt e2' sz ys)]) (.loc d) ho hs1 tu ti tu2 (by rw [hx]; exact .row) hside.1 hside.2.1 (by simp [StL.ids, hside.2.2]) (by simp [StL.ids, hne2]) hb hm
  · intro y hy; simp at hy; rcases hy with rfl | rfl
    · exact hst
    · exact hst2
  · intro j hj; simp [StL.ids] at hj; rcases hj with rfl | rfl
    · exact .inr (by simp)
    · exact .inl (by simp [StL.ids])
  · intro j hj hj'; simp [StL.ids] at hj; simp at hj'; rcases hj with rfl | rfl
    · exact absurd rfl hj'
    · simp [StL.get, hne2, hside.2.2]
  · intro j hj; simp at hj; rw [hj]; rfl
  · funext y
    show StO.get ((.loc d, some (.slt elem sz (xs ++ ys))) :: (id, none) :: st) y = StO.get ((.loc d, some (.slt elem sz (xs ++ ys))) :: (id2, some (.slt e2' sz ys)) :: (id, none) :: (id2, none) :: (.loc d, none) :: st) y
    simp only [StO.get]
    by_cases e1 : Id.loc d = y
    · simp [e1]
    · by_cases e2 : id2 = y
      · subst e2; simp [hne2, hside.2.2, hst2]
      · simp [e1, e2]
theorem zb3 {src dst elem : TypeId} {x : Operand} {s : ByteArray} (ho : o.op = .convert src dst x) (hx : zk env.get x = .t (.str s)) [ts : TyU P src .string] [td : TyU P dst (.slice elem)] [te : TyU P elem (.int .u8)]
    (hd : o.dst = some d) (hn : (decide (d < nt)) = true) (hg : zj ops o env = true) (hfr : zX [.loc d] env st = true) (hl : s.size ≤ 9223372036854775807)
    (H : LexP P nt ops rest ((d, .row (.loc d)) :: env) ((.loc d, some (.slt elem 1 (xe s))) :: st) (⟨true, [], .row (.loc d), [(.loc d, .slt elem 1 (xe s))], [], [.loc d]⟩ :: acc) K) : LexP P nt ops (o :: rest) env st acc K :=
  jh (zaE (.loc d) ho hx ts td te hl) hd hn hg rfl hfr H
theorem kS {src dst elem : TypeId} {x : Operand} {es : List T} (ho : o.op = .convert src dst x) (hx : zk env.get x = .t (.sl 1 es)) [ts : TyU P src (.slice elem)] [td : TyU P dst .string] [te : TyU P elem (.int .u8)]
    (hd : o.dst = some d) (hn : (decide (d < nt)) = true) (hg : zj ops o env = true) (hu : zf4 es)
    (H : LexP P nt ops rest ((d, .t (.str (zdH es))) :: env) st (⟨true, [], .t (.str (zdH es)), [], [], []⟩ :: acc) K) : LexP P nt ops (o :: rest) env st acc K :=
  zw (zad (R2 := []) (d := .slice elem) ho (by rw [hx]; exact .sl) ts td te hu) hd hn hg H
end
def zeV (σ : Id → Id) : EnvL → EnvL
  | [] => []
  | (t, v) :: l => (t, v.ren σ) :: zeV σ l
theorem kC {σ : Id → Id} {t : Nat} : ∀ {l : EnvL}, EnvL.get (zeV σ l) t = (EnvL.get l t).ren σ
  | [] => rfl
  | (i, v) :: l => by
    simp only [zeV, EnvL.get]
    split
    · rfl
    · exact kC
theorem yw {nt : Nat} {env : EnvL} {st : StO} (t : Nat) (id : Id) (e sz : Nat) (ht : EnvL.get env t = .t .nilsl) (hf : zX [id] env st = true) (hloc : id.isLoc = true) : Ghost nt env.get st.get (EnvL.get ((t, .row id) :: env)) (StO.get ((id, some (.slt e sz [])) :: st)) := by
  have := zdt (nt := nt) (env := env.get) (st := st.get) (t := t) id e sz ht (zH hf) hloc
  have e1 : (fun x => if x = t then AV.row id else env.get x) = EnvL.get ((t, .row id) :: env) := by
    funext x
    simp only [EnvL.get]
    by_cases h : t = x
    · simp [h]
    · rw [if_neg h, if_neg (fun h' => h h'.symm)]
  have e2 : (fun x => if x = id then some (Row.slt e sz []) else st.get x) = StO.get ((id, some (.slt e sz [])) :: st) := by
    funext x
    simp only [StO.get]
    by_cases h : id = x
    · simp [h]
    · rw [if_neg h, if_neg (fun h' => h h'.symm)]
  rw [e1, e2] at this
  exact this
def jj (ids : List Id) (st : StO) : StO := match ids with
  | [] => []
  | i :: l => (i, StO.get st i) :: jj l st
theorem q5 {st : StO} : ∀ {ids : List Id}, ∀ x ∈ jj ids st, x.2 = none ∨ StO.get st x.1 = x.2
  | [], x, h => by simp [jj] at h
  | i :: l, x, h => by
    simp only [jj, List.mem_cons] at h
    rcases h with rfl | h
    · exact .inr rfl
    · exact q5 x h
theorem za {nt : Nat} {env env' : EnvL} {st st' : StO} (ts : List Nat) (ids : List Id) (he : zct ts env = env') (hs : jj ids st = st') : Ghost nt env.get st.get env'.get st'.get := by
  subst hs
  exact zbM ts env' _ he q5
def stR (a b : Id) : StO → StO
  | [] => []
  | (i, r) :: l => (xD a b i, r.map (Row.ren (xD a b))) :: stR a b l
theorem zaz {a b j : Id} (hab : a ≠ b) : ∀ {l : StO}, vp [b] l = true → StO.get (stR a b l) j = if j = b then (StO.get l a).map (Row.ren (xD a b)) else if j = a then none else (StO.get l j).map (Row.ren (xD a b))
  | [], _ => by simp [stR, StO.get]
  | (i, r) :: l, h => by
    simp only [vp, Bool.and_eq_true, Bool.not_eq_true'] at h
    have hib : i ≠ b := by have := h.1.1; simpa using this
    simp only [stR, StO.get, zaz hab h.2]
    unfold xD
    by_cases e1 : i = a
    · subst e1
      by_cases e2 : j = b
      · subst e2; simp
      · by_cases e3 : j = i
        · subst e3; simp [e2, Ne.symm e2]
        · simp [e2, e3, Ne.symm e2, Ne.symm e3]
    · by_cases e2 : j = b
      · subst e2; simp [e1, hib]
      · by_cases e3 : j = a
        · subst e3; simp [e1, e2]
        · simp [e1, e2, e3]
          by_cases e4 : i = j
          · subst e4; simp
          · simp [e4]
theorem zv {nt : Nat} {env env' : EnvL} {st st' : StO} (a b : Id) (hab : (decide (a ≠ b) && (a.isLoc && !y2 b)) = true) (hf : zX [b] env st = true) (he : zeV (xD a b) env = env') (hs : stR a b st = st') : Ghost nt env.get st.get env'.get st'.get := by
  subst he; subst hs
  simp only [Bool.and_eq_true, decide_eq_true_eq, Bool.not_eq_true'] at hab
  have := zcU (nt := nt) (env := env.get) (st := st.get) a b hab.1 hab.2.1 hab.2.2 (zH hf)
  have e1 : (fun t => (env.get t).ren (xD a b)) = EnvL.get (zeV (xD a b) env) := by funext t; exact kC.symm
  have hf2 : vp [b] st = true := by unfold zX at hf; simp only [Bool.and_eq_true] at hf; exact hf.2
  have e2 : (fun j => if j = b then (st.get a).map (Row.ren (xD a b)) else if j = a then none else (st.get j).map (Row.ren (xD a b))) = StO.get (stR a b st) := by
    funext j
    exact (zaz hab.1 hf2).symm
  rw [e1, e2] at this
  exact this
end Go.AL
set_option linter.unusedVariables false
set_option linter.unusedSimpArgs false
namespace Go.AL
open Go Go.RowKit
def y8 : TypeDesc → T → Bool
  | .string, .str _ => true
  | .int k, .int k' _ => decide (k' = k)
  | .bool, .bool _ => true
  | _, _ => false
def qQ : T → T → Bool
  | .str a, .str b => decide (a = b)
  | .int _ a, .int _ b => decide (a = b)
  | .bool a, .bool b => decide (a = b)
  | _, _ => false
def jd : List (T × T) → T → Option T
  | [], _ => none
  | (k, v) :: es, x => if qQ x k then some v else jd es x
def j9 : List (T × T) → T → T → List (T × T)
  | [], x, y => [(x, y)]
  | (k, v) :: es, x, y => if qQ x k then (k, y) :: es else (k, v) :: j9 es x y
def xB (d : TypeDesc) : List (T × T) → Bool
  | [] => true
  | (k, _) :: es => y8 d k && xB d es
theorem zaD {h : Heap} {d : TypeDesc} {x k : T} {u v : Value} (hx : y8 d x = true) (hk : y8 d k = true) (r1 : RepT h u x) (r2 : RepT h v k) : Instr.sameNow d u v = some (qQ x k) := by
  cases d <;> cases x <;> simp [y8] at hx <;> cases k <;> simp [y8] at hk <;> simp only [RepT] at r1 r2 <;> subst r1 <;> subst r2
  · rename_i a b
    cases a <;> cases b <;> rfl
  · subst hx; subst hk
    rename_i k a b
    simp only [Instr.sameNow, qQ, if_true]
    congr 1
  · rename_i a b
    simp only [Instr.sameNow, qQ]
    congr 1
    by_cases e : a = b
    · subst e; simp [(MapKept.bytes_beq a a).2 rfl]
    · have : (a == b) = false := by
        cases hab : (a == b) with
        | false => rfl
        | true => exact absurd ((MapKept.bytes_beq a b).1 hab) e
      simp [e, this]
theorem wV {h : Heap} {d : TypeDesc} {x : T} {u : Value} (hx : y8 d x = true) (r1 : RepT h u x) : MapKept.IsKey d u := by
  cases d <;> cases x <;> simp [y8] at hx <;> simp only [RepT] at r1 <;> subst r1 <;> simp [MapKept.IsKey, hx]
theorem wz {h : Heap} {d : TypeDesc} {x : T} {u : Value} (hx : y8 d x = true) (r1 : RepT h u x) : ∀ {xs : List MapEntry} {es : List (T × T)} (i : Nat), RepEnts h xs es → xB d es = true →
    (jd es x = none ∧ Instr.findNow d u xs i = some none ∧ j9 es x = fun y => es ++ [(x, y)]) ∨
    ∃ y v j e, jd es x = some y ∧ Instr.findNow d u xs i = some (some (i + j, v)) ∧ RepT h v y ∧ xs[j]? = some e ∧ e.key = u ∧ ∀ (f : MapEntry → MapEntry) (z : T) (fv : Value), (∀ e, e.key = u → (f e).key = u ∧ (f e).val = fv) → RepT h fv z → RepEnts h (xs.modify j f) (j9 es x z)
  | [], [], i, _, _ => .inl ⟨rfl, rfl, rfl⟩
  | [], _ :: _, i, H, _ => H.elim
  | _ :: _, [], i, H, _ => H.elim
  | e :: xs, (k, v) :: es, i, H, hk => by
    simp only [xB, Bool.and_eq_true] at hk
    obtain ⟨H1, H2, H3⟩ := H
    have hs := zaD hx hk.1 r1 H1
    cases hq : qQ x k with
    | true =>
      right
      have hkey : e.key = u := by
        have h1 := wV hx r1
        have h2 := wV hk.1 H1
        obtain ⟨r, hr, hiff⟩ := MapKept.sameNow_of_keys h1 h2
        rw [hs, hq] at hr
        cases hr
        exact (hiff.1 rfl).symm
      refine ⟨v, e.val, 0, e, by simp [jd, hq], by simp [Instr.findNow, hs, hq], H2, rfl, hkey, ?_⟩
      intro f z fv hf hz
      obtain ⟨f1, f2⟩ := hf e hkey
      simp only [j9, hq, if_true, List.modify_zero_cons]
      exact ⟨by rw [f1, ← hkey]; exact H1, by rw [f2]; exact hz, H3⟩
    | false =>
      rcases wz hx r1 (i + 1) H3 hk.2 with ⟨g1, g2, g3⟩ | ⟨y, v', j, e', g1, g2, g3, g4, g5, g6⟩
      · left
        refine ⟨by simp [jd, hq, g1], by simp [Instr.findNow, hs, hq, g2], ?_⟩
        funext z
        simp [j9, hq, g3]
      · right
        refine ⟨y, v', j + 1, e', by simp [jd, hq, g1], by simp [Instr.findNow, hs, hq, g2]; omega, g3, by simpa using g4, g5, ?_⟩
        intro f z fv hf hz
        simp only [j9, hq, List.modify_succ_cons]
        exact ⟨H1, H2, g6 f z fv hf hz⟩
theorem wb {h : Heap} : ∀ {xs ys : List MapEntry} {es fs : List (T × T)}, RepEnts h xs es → RepEnts h ys fs → RepEnts h (xs ++ ys) (es ++ fs)
  | [], _, [], _, _, H => H
  | [], _, _ :: _, _, H, _ => H.elim
  | _ :: _, _, [], _, H, _ => H.elim
  | x :: xs, ys, (k, v) :: es, fs, H, H2 => ⟨H.1, H.2.1, wb H.2.2 H2⟩
theorem zaC {ents : Array MapEntry} {clock : Nat} (S : vz ents.toList clock) (e : MapEntry) (he : e.born = clock) : vz (ents.push e).toList (clock + 1) := by
  refine ⟨fun x hx => ?_, ?_⟩
  · simp only [Array.toList_push, List.mem_append, List.mem_singleton] at hx
    rcases hx with hx | rfl
    · exact Nat.lt_succ_of_lt (S.1 x hx)
    · omega
  · simp only [Array.toList_push, List.map_append, List.map_cons, List.map_nil]
    rw [List.nodup_append]
    refine ⟨S.2, by simp, fun a ha b hb => ?_⟩
    obtain ⟨x, hx, rfl⟩ := List.mem_map.1 ha
    have := S.1 x hx
    simp at hb
    omega
theorem vX (f : MapEntry → MapEntry) (hf : ∀ e, (f e).born = e.born) : ∀ (l : List MapEntry) (j : Nat), (l.modify j f).map (·.born) = l.map (·.born)
  | [], j => by simp
  | x :: l, 0 => by simp [hf]
  | x :: l, j + 1 => by simp [vX f hf l j]
theorem kz {ents : List MapEntry} {clock : Nat} (S : vz ents clock) (f : MapEntry → MapEntry) (j : Nat) (hf : ∀ e, (f e).born = e.born) : vz (ents.modify j f) clock := by
  have hm := vX f hf ents j
  refine ⟨fun x hx => ?_, by rw [hm]; exact S.2⟩
  have h1 : x.born ∈ (ents.modify j f).map (·.born) := List.mem_map.2 ⟨x, hx, rfl⟩
  rw [hm] at h1
  obtain ⟨y, hy, e⟩ := List.mem_map.1 h1
  rw [← e]; exact S.1 y hy
section
variable {P : Program} {o : Oper} {ρ : Operand → AV}
theorem zaf {t : TypeId} (id : Id) (ho : o.op = .makeMap t none) : OpT P o ρ (StL.get []) (.row id) (StL.get [(id, .dat (.map []))]) [id] := by
  refine OpT.of ?_
  intro h m a w hs hr K Q hK
  have hrun : (execOp a.eval o).run P w = .ok (.value (.map (some w.heap.size))) (w.alloc (.map #[] 0)) := by
    simp [execOp, ho, RowKit.run_makeMap]
  obtain ⟨s1, s2⟩ := qf (m := m) hs.imm (xt w (.map #[] 0)) (id := id) (v := .map (some w.heap.size)) rfl (row := .dat (.map []))
    ⟨w.heap.size, .map #[] 0, by rw [zm]; rfl, xz w _, w.heap.size, #[], 0, zm _ _ _, rfl, trivial, ⟨fun x hx => by simp at hx, by simp⟩⟩
  unfold Oper.wp
  rw [hrun]
  exact hK _ h _ _ ⟨(zm _ _ _).symm, rfl⟩ s1 s2 fun _ => zD
theorem zaB {h : Heap} {m : zu} {w : World} {id : Id} {es : List (T × T)} (hs : Sim h m (StL.get [(id, .dat (.map es))]) w) : ∃ r ents clock, m id = .map (some r) ∧ w.heap[r]? = some (.map ents clock) ∧ RepEnts h ents.toList es ∧ vz ents.toList clock := by
  obtain ⟨b, ob, e1, e2, r, ents, clock, e3, e4, e5, e6⟩ := yR hs (zC id _)
  rw [e3] at e1
  simp [blk] at e1
  subst e1
  exact ⟨r, ents, clock, e3, by rw [e2, e4], e5, e6⟩
theorem zcg {t kt et : TypeId} {x ix : Operand} {ok : Bool} {id : Id} {es : List (T × T)} {k zT : T} {kd : TypeDesc} {sz bytes : Nat} {z : Value} (ho : o.op = .lookup t x ix ok) (hx : ρ x = .row id) (hk : ρ ix = .t k) (tu : TyU P t (.map kt et)) (td : TyU P kt kd) (ti : TyI P et sz bytes z)
    (hz : ∀ h, RepT h z zT) (hkey : y8 kd k = true) (hes : xB kd es = true) :
    OpT P o ρ (StL.get [(id, .dat (.map es))]) (if ok then .tup [.t ((jd es k).getD zT), .t (.bool (jd es k).isSome)] else .t ((jd es k).getD zT)) (StL.get [(id, .dat (.map es))]) [] :=
  yg fun h m a w hs hr => by
    have r1 := hr x (by simp [ho, Op.operands])
    have r2 := hr ix (by simp [ho, Op.operands])
    rw [hx] at r1
    rw [hk] at r2
    simp only [RepA] at r1 r2
    obtain ⟨r, ents, clock, e1, e2, e3, _⟩ := zaB hs
    rw [e1] at r1
    have hK := wV hkey r2
    rcases wz hkey r2 0 e3 hes with ⟨g1, g2, g3⟩ | ⟨y, v, j, e, g1, g2, g3, g4, g5, g6⟩
    · cases ok with
      | true => exact ⟨.tuple #[z, .bool false], by simp [execOp, ho, r1.1, Instr.lookup, run_underlying tu.h, MapKept.run_getObj_map e2, MapKept.run_checkKey td.h hK, MapKept.run_findKey td.h g2, zR ti, Result.andThen], by
          simp only [if_true, RepA, g1, Option.getD_none, Option.isSome_none]
          exact ⟨_, rfl, rfl, ⟨z, rfl, hz h⟩, ⟨_, rfl, rfl⟩, trivial⟩⟩
      | false => exact ⟨z, by simp [execOp, ho, r1.1, Instr.lookup, run_underlying tu.h, MapKept.run_getObj_map e2, MapKept.run_checkKey td.h hK, MapKept.run_findKey td.h g2, zR ti, Result.andThen], by
          simp only [RepA, g1, Option.getD_none]
          exact hz h⟩
    · cases ok with
      | true => exact ⟨.tuple #[v, .bool true], by simp [execOp, ho, r1.1, Instr.lookup, run_underlying tu.h, MapKept.run_getObj_map e2, MapKept.run_checkKey td.h hK, MapKept.run_findKey td.h g2, Result.andThen], by
          simp only [if_true, RepA, g1, Option.getD_some, Option.isSome_some]
          exact ⟨_, rfl, rfl, ⟨v, rfl, g3⟩, ⟨_, rfl, rfl⟩, trivial⟩⟩
      | false => exact ⟨v, by simp [execOp, ho, r1.1, Instr.lookup, run_underlying tu.h, MapKept.run_getObj_map e2, MapKept.run_checkKey td.h hK, MapKept.run_findKey td.h g2, Result.andThen], by
          simp only [RepA, g1, Option.getD_some]
          exact g3⟩
theorem kH {t kt et : TypeId} {x ix y : Operand} {id : Id} {es : List (T × T)} {k v : T} {kd : TypeDesc} (ho : o.op = .mapUpdate t x ix y ∨ o.op = .insert t x ix y) (hx : ρ x = .row id) (hk : ρ ix = .t k) (hv : ρ y = .t v) (tu : TyU P t (.map kt et)) (td : TyU P kt kd) (hkey : y8 kd k = true) (hes : xB kd es = true) :
    OpT P o ρ (StL.get [(id, .dat (.map es))]) .junk (StL.get [(id, .dat (.map (j9 es k v)))]) [] := by
  refine OpT.of ?_
  intro h m a w hs hr K Q hK'
  have hmem : x ∈ o.op.operands ∧ ix ∈ o.op.operands ∧ y ∈ o.op.operands := by rcases ho with ho | ho <;> simp [ho, Op.operands]
  have r1 := hr x hmem.1
  have r2 := hr ix hmem.2.1
  have r3 := hr y hmem.2.2
  rw [hx] at r1
  rw [hk] at r2
  rw [hv] at r3
  simp only [RepA] at r1 r2 r3
  obtain ⟨r, ents, clock, e1, e2, e3, hS⟩ := zaB hs
  rw [e1] at r1
  have hK := wV hkey r2
  have hlt : r < w.heap.size := (Array.getElem?_eq_some_iff.1 e2).1
  have fin : ∀ (ents' : Array MapEntry) (clock' : Nat), RepEnts h ents'.toList (j9 es k v) → vz ents'.toList clock' → (Instr.mapUpdate t (a.eval x) (a.eval ix) (a.eval y)).run P w = .ok () { w with heap := w.heap.setIfInBounds r (.map ents' clock') } → o.wp P a w K Q := fun ents' clock' hE hS' hrun => by
    have hw : Wrote w { w with heap := w.heap.setIfInBounds r (.map ents' clock') } r := ⟨rfl, rfl, rfl, by simp, fun b hb => (MapKept.heap_set e2).2 b hb⟩
    obtain ⟨s1, s2⟩ := qt hs (by rw [e1]; rfl) hw (row' := .dat (.map (j9 es k v))) ⟨r, .map ents' clock', by rw [e1]; rfl, (MapKept.heap_set e2).1, r, ents', clock', e1, rfl, hE, hS'⟩
    unfold Oper.wp
    have hrun' : (execOp a.eval o).run P w = .ok .skip { w with heap := w.heap.setIfInBounds r (.map ents' clock') } := by
      rcases ho with ho | ho <;> simp [execOp, ho, hrun]
    rw [hrun']
    exact hK' undef h m _ trivial s1 s2 fun _ _ => rfl
  rcases wz hkey r2 0 e3 hes with ⟨g1, g2, g3⟩ | ⟨y', v', j, e, g1, g2, g3, g4, g5, g6⟩
  · refine fin (ents.push { key := a.eval ix, val := a.eval y, born := clock }) (clock + 1) ?_ ?_ ?_
    · rw [g3]
      simp only [Array.toList_push]
      exact wb e3 ⟨r2, r3, trivial⟩
    · exact zaC hS _ rfl
    · simp [Instr.mapUpdate, r1.1, run_underlying tu.h, MapKept.run_getObj_map e2, MapKept.run_checkKey td.h hK, MapKept.run_findKey td.h g2, MapKept.run_setObj_map _ e2, Result.andThen]
  · have hj : ents[j]? = some e := by simpa using g4
    refine fin (ents.modify j fun e => { e with key := a.eval ix, val := a.eval y }) clock ?_ ?_ ?_
    · rw [Array.toList_modify]
      exact g6 _ v (a.eval y) (fun e he => ⟨rfl, rfl⟩) r3
    · rw [Array.toList_modify]
      exact kz hS _ _ fun _ => rfl
    · simp [Instr.mapUpdate, r1.1, run_underlying tu.h, MapKept.run_getObj_map e2, MapKept.run_checkKey td.h hK, MapKept.run_findKey td.h g2, hj, g5, MapKept.run_keyThatStays hK, MapKept.run_setObj_map _ e2, Result.andThen]
end
end Go.AL
set_option linter.unusedVariables false
set_option linter.unusedSimpArgs false
namespace Go.AL
open Go Go.RowKit
section
variable {P : Program} {nt : Nat} {ops : Array Oper} {o : Oper} {rest : List Oper} {env : EnvL} {st : StO} {acc : List SD} {K : EnvL → StO → List SD → Prop} {d : Nat}
theorem zb9 {t : TypeId} (ho : o.op = .makeMap t none) (hd : o.dst = some d) (hn : (decide (d < nt)) = true) (hg : zj ops o env = true) (hfr : zX [.loc d] env st = true)
    (H : LexP P nt ops rest ((d, .row (.loc d)) :: env) ((.loc d, some (.dat (.map []))) :: st) (⟨true, [], .row (.loc d), [(.loc d, .dat (.map []))], [], [.loc d]⟩ :: acc) K) : LexP P nt ops (o :: rest) env st acc K :=
  jh (zaf (.loc d) ho) hd hn hg rfl hfr H
theorem zds {t kt et : TypeId} {x ix : Operand} {id : Id} {es : List (T × T)} {k zT : T} {kd : TypeDesc} {sz bytes : Nat} {z : Value} (ho : o.op = .lookup t x ix false) (hx : zk env.get x = .row id) (hk : zk env.get ix = .t k) [tu : TyU P t (.map kt et)] [td : TyU P kt kd] [ti : TyI P et sz bytes z]
    (hz : ∀ h, RepT h z zT) (hst : StO.get st id = some (.dat (.map es))) (hkey : y8 kd k = true) (hd : o.dst = some d) (hn : (decide (d < nt)) = true) (hg : zj ops o env = true) (hes : xB kd es = true)
    (H : LexP P nt ops rest ((d, .t ((jd es k).getD zT)) :: env) st (⟨true, [(id, .dat (.map es))], .t ((jd es k).getD zT), [(id, .dat (.map es))], [], []⟩ :: acc) K) : LexP P nt ops (o :: rest) env st acc K :=
  xb hst (by have := zcg (ρ := zk env.get) ho hx hk tu td ti hz hkey hes; simpa using this) hd hn hg H
theorem k9 {t kt et : TypeId} {x ix y : Operand} {id : Id} {es : List (T × T)} {k v : T} {kd : TypeDesc} (ho : o.op = .mapUpdate t x ix y) (hx : zk env.get x = .row id) (hk : zk env.get ix = .t k) (hv : zk env.get y = .t v) [tu : TyU P t (.map kt et)] [td : TyU P kt kd]
    (hst : StO.get st id = some (.dat (.map es))) (hkey : y8 kd k = true) (hd : o.dst = none) (hg : zj ops o env = true) (hes : xB kd es = true)
    (H : LexP P nt ops rest env ((id, some (.dat (.map (j9 es k v)))) :: st) (⟨true, [(id, .dat (.map es))], .junk, [(id, .dat (.map (j9 es k v)))], [id], []⟩ :: acc) K) : LexP P nt ops (o :: rest) env st acc K :=
  vR hst (kH (.inl ho) hx hk hv tu td hkey hes) hd hg H
def zck (st : StO) : StL → Prop
  | [] => True
  | x :: l => StO.get st x.1 = some x.2 ∧ zck st l
theorem zf {st : StO} : ∀ {l : StL}, zck st l → ∀ x ∈ l, StO.get st x.1 = some x.2
  | [], _, x, h => by simp at h
  | y :: l, H, x, h => by
    rcases List.mem_cons.1 h with rfl | h
    · exact H.1
    · exact zf H.2 x h
def zbN (S S' : StL) (r : AV) (l : List (Id × Id)) : Bool :=
  (S.ids ++ S'.ids).all (fun i => (S.ids ++ S'.ids).all fun j => !decide (yu l i = yu l j) || decide (i = j)) &&
  (S'.ids.all (fun k => !zZ k || ((yu l k).isLoc && l.all fun p => !y2 p.1 || !decide (p.2 = yu l k))) &&
  (r.all (fun id => y2 id || (zZ id && S'.ids.contains id)) &&
  (S'.all (fun x => x.2.all (fun id => y2 id || (zZ id && S'.ids.contains id))) &&
  S'.ids.all (fun k => (y2 k && S.ids.contains k) || zZ k))))
theorem zah (l : List (Id × Id)) (x : Id) : (∃ p ∈ l, p.1 = x ∧ yu l x = p.2) ∨ yu l x = x := by
  induction l with
  | nil => exact .inr rfl
  | cons p l ih =>
    obtain ⟨a, b⟩ := p
    simp only [yu]
    split
    · rename_i e
      exact .inl ⟨(a, b), List.mem_cons_self .., e.symm ▸ rfl, rfl⟩
    · rcases ih with ⟨p, h1, h2, h3⟩ | h
      · exact .inl ⟨p, List.mem_cons_of_mem _ h1, h2, h3⟩
      · exact .inr h
theorem x4 {S S' : StL} {r : AV} {l : List (Id × Id)} (h : zbN S S' r l = true) : CallOK S S' r (yu l) ∧ (∀ k ∈ S'.ids, zZ k = true → (yu l k).isLoc = true) ∧ ∀ k ∈ S'.ids, k ∈ S.ids ∨ zZ k = true := by
  unfold zbN at h
  simp only [Bool.and_eq_true, List.all_eq_true, Bool.or_eq_true, Bool.not_eq_true', decide_eq_false_iff_not, decide_eq_true_eq] at h
  obtain ⟨h1, h2, h3, h4, h5⟩ := h
  refine ⟨⟨fun i hi j hj e => ?_, fun k hk hr p hp e => ?_, h3, h4, fun k hk => ?_⟩, fun k hk hr => ?_, fun k hk => ?_⟩
  · rcases h1 i hi j hj with h | h
    · exact absurd e h
    · exact h
  · rcases h2 k hk with h | ⟨h6, h7⟩
    · rw [hr] at h; cases h
    · rcases zah l p with ⟨q, q1, q2, q3⟩ | q
      · rcases h7 q q1 with h | h
        · rw [q2, hp] at h; cases h
        · exact h (by rw [e, q3])
      · rw [q] at e
        rw [e] at h6
        cases p <;> simp [y2, Id.isLoc] at hp h6
  · rcases h5 k hk with h | h
    · exact .inl h.1
    · exact .inr h
  · rcases h2 k hk with h | h
    · rw [hr] at h; cases h
    · exact h.1
  · rcases h5 k hk with h | h
    · exact .inl (by simpa using h.2)
    · exact .inr h
theorem zr {f : Operand} {as : Array Operand} {ts : Array TypeId} {g : FuncId} {caps args : List AV} {S S' : StL} {r r' : AV} {st' : StO} {R1 R2 : StL} {N : List Id} (l : List (Id × Id)) (ho : o.op = .call { callee := .value f, args := as, argTypes := ts }) (hf : yl (zk env.get f) = some (g, caps)) [hb : FnB P g] (H0 : Spec P g args S r S')
    (hargs : ArgsLE (as.toList.map (zk env.get) ++ caps) (AV.renL (yu l) args)) (hR1 : S.ren (yu l) = R1) (hst : zck st R1) (hlen : (decide (as.size + caps.length = args.length)) = true) (hok : zbN S S' r l = true) (hrr : r.ren (yu l) = r')
    (hR2 : S'.ren (yu l) = R2) (hN : (S'.ids.filter zZ).map (yu l) = N) (hfr : zX N env st = true) (hs' : jK R1 R2 N st = st')
    (hd : o.dst = some d) (hn : (decide (d < nt)) = true) (hg : zj ops o env = true)
    (H : LexP P nt ops rest ((d, r') :: env) st' (⟨true, R1, r', R2, R1.ids, N⟩ :: acc) K) : LexP P nt ops (o :: rest) env st acc K := by
  obtain ⟨ok, hloc, hdom⟩ := x4 hok
  have hT := zbx (P := P) (ρ := zk env.get) (yu l) ho hf hb H0 ok (of_decide_eq_true hlen) hargs
  rw [hR1, hR2, hN, hrr] at hT
  subst hs'
  refine w7 hT hd (of_decide_eq_true hn) (zM hg) (zf hst) ?_ (fun id h1 h2 => absurd h1 h2) ?_ hfr rfl H
  · intro id hid
    subst hR1; subst hR2; subst hN
    simp only [StL.ids, StL.ren, List.map_map, List.mem_map, Function.comp] at hid ⊢
    obtain ⟨x, hx, rfl⟩ := hid
    have hk : x.1 ∈ S'.ids := List.mem_map_of_mem hx
    rcases hdom x.1 hk with h | h
    · obtain ⟨y, hy, e⟩ := List.mem_map.1 h
      exact .inl ⟨y, hy, by rw [e]⟩
    · exact .inr ⟨x.1, by simpa using ⟨⟨x.2, hx⟩, h⟩, rfl⟩
  · intro id hid
    subst hN
    obtain ⟨k, hk, rfl⟩ := List.mem_map.1 hid
    rw [List.mem_filter] at hk
    exact hloc k hk.1 hk.2
end
end Go.AL
set_option linter.unusedVariables false
set_option linter.unusedSimpArgs false
namespace Go.AL
open Go Go.RowKit
def zd7 : T → Option Bool
  | .nilsl => some true
  | .esl => some false
  | .sl _ (_ :: _) => some false
  | _ => none
theorem zc5 {h : Heap} {v : Value} {t : T} {b : Bool} (ht : zd7 t = some b) (H : RepT h v t) : ∃ a l c, v = .slice a l c ∧ a.isNone = b := by
  unfold zd7 at ht
  split at ht
  · cases ht
    exact ⟨_, _, _, H, rfl⟩
  · cases ht
    simp only [RepT] at H
    obtain ⟨a, c, rfl, _⟩ := H
    exact ⟨_, _, _, rfl, rfl⟩
  · cases ht
    simp only [RepT] at H
    obtain ⟨A, n, c, rfl, hn, _, _, hA⟩ := H
    obtain ⟨b, o, rfl, _⟩ := hA (by rw [hn]; simp)
    exact ⟨_, _, _, rfl, rfl⟩
  · cases ht
section
variable {P : Program} {o : Oper} {ρ : Operand → AV}
theorem jC {ty yt e : TypeId} {x y : Operand} {t : T} {b : Bool} (ho : o.op = .binOp .eql ty x y yt) (hx : ρ x = .t t) (hy : ρ y = .t .nilsl) (ht : zd7 t = some b) (tu : TyU P ty (.slice e)) :
    OpT P o ρ (StL.get []) (.t (.bool b)) (StL.get []) [] :=
  zt fun h m A w _ hrep => by
    have r1 := hrep x (by simp [ho, Op.operands])
    have r2 := hrep y (by simp [ho, Op.operands])
    rw [hx] at r1
    rw [hy] at r2
    simp only [RepA] at r1 r2
    obtain ⟨a, l, c, e1, e2⟩ := zc5 ht r1
    simp only [RepT] at r2
    exact ⟨.bool b, by simp [execOp, ho, e1, r2, binOp, eqGuard, run_equal_slice_nil w ty e a l c tu.h, e2], by simp [RepA, RepT]⟩
end
section
variable {P : Program} {nt : Nat} {ops : Array Oper} {o : Oper} {rest : List Oper} {env : EnvL} {st : StO} {acc : List SD} {K : EnvL → StO → List SD → Prop} {d : Nat}
theorem zaA {ty yt e : TypeId} {x y : Operand} {t : T} {b : Bool} (ho : o.op = .binOp .eql ty x y yt) (hx : zk env.get x = .t t) (hy : zk env.get y = .t .nilsl) (ht : zd7 t = some b) [tu : TyU P ty (.slice e)] (hd : o.dst = some d) (hn : (decide (d < nt)) = true) (hg : zj ops o env = true)
    (H : LexP P nt ops rest ((d, .t (.bool b)) :: env) st (⟨true, [], .t (.bool b), [], [], []⟩ :: acc) K) : LexP P nt ops (o :: rest) env st acc K :=
  zw (jC ho hx hy ht tu) hd hn hg H
end
theorem AVLE.esl (sz : Nat) : AVLE (.t .esl) (.t (.sl sz [])) := fun h m v H => by
  simp only [RepA, RepT] at H ⊢
  obtain ⟨a, c, rfl, hc⟩ := H
  exact ⟨some a, 0, c, rfl, rfl, Nat.zero_le _, ⟨hc, fun h => by cases h⟩, fun h => absurd rfl h⟩
theorem zan {h : Heap} {v : Value} {sz : Nat} (H : RepT h v (.sl sz [])) : RepT h v .nilsl ∨ RepT h v .esl := by
  simp only [RepT] at H
  obtain ⟨A, n, c, rfl, hn, h1, h2, _⟩ := H
  simp at hn
  subst hn
  cases A with
  | none => exact .inl (by rw [h2.2 rfl]; rfl)
  | some a => exact .inr ⟨a, c, rfl, h2.1⟩
section
variable {P : Program} {nt : Nat} {ops : Array Oper} {rest : List Oper} {env : EnvL} {st : StO} {acc : List SD} {K : EnvL → StO → List SD → Prop} {d : Option Tmp} {ty : TypeId} {pos : String} {after : Array Edge} {g : Option (Nat × Bool)}
theorem zdx {t : TypeId} (H : LexP P nt ops ({ dst := d, op := .makeMap t none, type := ty, pos := pos, after := after, guard := g } :: rest) env st acc K) : LexP P nt ops ({ dst := d, op := .makeMap t none, type := ty, pos := pos, after := after, guard := g } :: rest) env st acc K := H
theorem za9 {t : TypeId} {x y z : Operand} (H : LexP P nt ops ({ dst := d, op := .mapUpdate t x y z, type := ty, pos := pos, after := after, guard := g } :: rest) env st acc K) : LexP P nt ops ({ dst := d, op := .mapUpdate t x y z, type := ty, pos := pos, after := after, guard := g } :: rest) env st acc K := H
end
end Go.AL
set_option linter.unusedVariables false
set_option linter.unusedSimpArgs false
namespace Go.AL
open Go Go.RowKit
section
variable {P : Program} {nt : Nat}
def gQ (nt : Nat) (Q : Exit → Env → zn → Prop) : Exit → Env → zn → Prop := fun e env st => ∃ env2 st2, Ghost nt env st env2 st2 ∧ Q e env2 st2
theorem zcb {c : Code} {env : Env} {st : zn} {Q : Exit → Env → zn → Prop} (H : CodeT P nt c env st (gQ nt Q)) : CodeT P nt c env st Q := by
  refine ⟨fun ro hro h m a w k => wpIn_mono (H.run ro hro h m a w k) ?_⟩
  rintro e a' w' ⟨env', st', h', m', ⟨env2, st2, g, hq⟩, c', s', n'⟩
  obtain ⟨h2, m2, c2, s2⟩ := g h' m' a' w' c'
  exact ⟨env2, st2, h2, m2, hq, c2, s'.trans s2, n'⟩
theorem zz {f : FuncId} {fn : Func} {c : Code} {args : List AV} {S S' : StL} {r : AV} {env0 : EnvL} {st0 : StO} (hf : P.funcs[f]? = some fn) (hb : fn.body = some c) (hn : (decide (args.length ≤ fn.ntmps)) = true) (he : vt 0 args = env0) (hs : S.map (fun x => (x.1, some x.2)) = st0)
    (H : CodeT P fn.ntmps c env0.get st0.get (gQ fn.ntmps (ze8 P fn r S'))) : Spec P f args S r S' := zc hf hb hn he hs (zcb H)
theorem qF {fn : Func} {r : AV} {S' : StL} {env env2 : EnvL} {st st2 : StO} {e : Exit} (g : Ghost nt env.get st.get env2.get st2.get) (h : ze8 P fn r S' e env2.get st2.get) : gQ nt (ze8 P fn r S') e env.get st.get := ⟨_, _, g, h⟩
end
section
variable {P : Program} {o : Oper} {ρ ρ' : Operand → AV}
theorem OpT.weaken {R R' : zn} {r : AV} {N : List Id} (h : OpT P o ρ' R r R' N) (e : ∀ x ∈ o.op.operands, AVLE (ρ x) (ρ' x)) : OpT P o ρ R r R' N :=
  fun hh m a w hs hr => h hh m a w hs fun x hx => e x hx hh m _ (hr x hx)
end
section
variable {P : Program} {nt : Nat} {ops : Array Oper} {o : Oper} {rest : List Oper} {env : EnvL} {st : StO} {acc : List SD} {K : EnvL → StO → List SD → Prop} {d : Nat}
theorem wY {s x : Operand} {t t2 elem e2 : TypeId} {id : Id} {sz bytes : Nat} {z : Value} {xs : List T} (ho : o.op = .call { callee := .builtin .append, args := #[s, x], argTypes := #[t, t2] }) (hs1 : zk env.get s = .row id) (hx : zk env.get x = .t .esl) [tu : TyU P t (.slice elem)] [ti : TyI P elem sz bytes z] [tu2 : TyU P t2 (.slice e2)]
    (hst : StO.get st id = some (.slt elem sz xs)) (hside : (decide (z.cells.size = sz) && (decide (0 < sz))) = true)
    (hd : o.dst = some d) (hn : (decide (d < nt)) = true) (hg : zj ops o env = true) (hfr : zX [.loc d] env st = true)
    (hb : xs.length * bytes ≤ 140737488355328) (hm : xs.length ≤ 9223372036854775807)
    (H : LexP P nt ops rest ((d, .row (.loc d)) :: env) ((.loc d, some (.slt elem sz (xs ++ []))) :: (id, none) :: st) (⟨true, [(id, .slt elem sz xs)], .row (.loc d), [(.loc d, .slt elem sz (xs ++ []))], [id], [.loc d]⟩ :: acc) K) : LexP P nt ops (o :: rest) env st acc K := by
  simp only [Bool.and_eq_true, decide_eq_true_eq] at hside
  have hne := kR hfr hst
  let ρ' : Operand → AV := fun y => match zk env.get y with | .t .esl => .t (.sl sz []) | v => v
  have hT : OpT P o ρ' (StL.get [(id, .slt elem sz xs)]) (.row (.loc d)) (StL.get [(.loc d, .slt elem sz (xs ++ []))]) [.loc d] :=
    vo (R2 := []) (.loc d) ho (by simp [ρ', hs1]) tu ti tu2 (by simp only [ρ', hx]; exact .sl) hside.1 hside.2 (by simp [StL.ids]) (by simp [StL.ids]) (by simpa using hb) (by simpa using hm)
  refine w7 (R := [(id, .slt elem sz xs)]) (R' := [(.loc d, .slt elem sz (xs ++ []))]) (N := [.loc d]) (W := [id]) (r := .row (.loc d)) (hT.weaken fun y _ => ?_) hd (of_decide_eq_true hn) (zM hg) ?_ ?_ ?_ ?_ hfr ?_ H
  · simp only [ρ']
    split
    · rename_i e; rw [e]; exact AVLE.esl sz
    · exact AVLE.refl _
  · intro y hy; simp at hy; subst hy; exact hst
  · intro j hj; simp [StL.ids] at hj; exact .inr (by simp [hj])
  · intro j hj hj'; simp [StL.ids] at hj; simp [hj] at hj'
  · intro j hj; simp at hj; rw [hj]; rfl
  · funext y
    show StO.get ((.loc d, some (.slt elem sz (xs ++ []))) :: (id, none) :: st) y = StO.get ((.loc d, some (.slt elem sz (xs ++ []))) :: (id, none) :: (.loc d, none) :: st) y
    simp only [StO.get]
    by_cases e1 : Id.loc d = y
    · simp [e1]
    · simp [e1]
end
theorem qW {P : Program} {f : FuncId} {sz : Nat} {es : List T} {S S' : StL} {r : AV} (h1 : es = [] → Spec P f [.t .nilsl] S r S') (h2 : es = [] → Spec P f [.t .esl] S r S') (h3 : ∀ e l, es = e :: l → Spec P f [.t (.sl sz (e :: l))] S r S') : Spec P f [.t (.sl sz es)] S r S' := by
  cases es with
  | cons e l => exact h3 e l rfl
  | nil =>
    refine ⟨fun h m vs w hs hn hr => ?_⟩
    obtain ⟨⟨u, e1, e2⟩, _⟩ := hr
    rcases zan e2 with h | h
    · exact (h1 rfl).run _ m vs w hs hn ⟨⟨u, e1, h⟩, trivial⟩
    · exact (h2 rfl).run _ m vs w hs hn ⟨⟨u, e1, h⟩, trivial⟩
end Go.AL
set_option linter.unusedVariables false
set_option linter.unusedSimpArgs false
namespace Go.AL
open Go Go.RowKit
section
variable {P : Program} {nt : Nat} {ops : Array Oper} {o : Oper} {rest : List Oper} {env : EnvL} {st : StO} {acc : List SD} {K : EnvL → StO → List SD → Prop} {d : Nat}
theorem vC {t kt et : TypeId} {x ix : Operand} {id : Id} {es : List (T × T)} {k zT y : T} {kd : TypeDesc} {sz bytes : Nat} {z : Value} (ho : o.op = .lookup t x ix false) (hx : zk env.get x = .row id) (hk : zk env.get ix = .t k) [tu : TyU P t (.map kt et)] [td : TyU P kt kd] [ti : TyI P et sz bytes z]
    (hst : StO.get st id = some (.dat (.map es))) (hy : (jd es k).getD zT = y) (hz : ∀ h, RepT h z zT) (hkey : y8 kd k = true) (hd : o.dst = some d) (hn : (decide (d < nt)) = true) (hg : zj ops o env = true) (hes : xB kd es = true)
    (H : LexP P nt ops rest ((d, .t y) :: env) st (⟨true, [(id, .dat (.map es))], .t y, [(id, .dat (.map es))], [], []⟩ :: acc) K) : LexP P nt ops (o :: rest) env st acc K := by
  subst hy
  exact zds ho hx hk hz hst hkey hd hn hg hes H
end
end Go.AL
set_option linter.unusedVariables false
set_option linter.unusedSimpArgs false
namespace Go.AL
open Go Go.RowKit
mutual
inductive TLe : T → T → Prop
  | refl (x : T) : TLe x x
  | nil (sz : Nat) : TLe .nilsl (.sl sz [])
  | esl (sz : Nat) : TLe .esl (.sl sz [])
  | slq (sz : Nat) (es : List T) : TLe (.slq sz es) (.sl sz es)
  | agg {cs ds : List T} : TLs cs ds → TLe (.agg cs) (.agg ds)
  | sl {sz : Nat} {es fs : List T} : TLs es fs → TLe (.sl sz es) (.sl sz fs)
inductive TLs : List T → List T → Prop
  | nil : TLs [] []
  | cons {x y : T} {xs ys : List T} : TLe x y → TLs xs ys → TLs (x :: xs) (y :: ys)
end
theorem TLs.refl : ∀ xs : List T, TLs xs xs
  | [] => .nil
  | x :: xs => .cons (.refl x) (TLs.refl xs)
theorem TLs.append : ∀ {xs ys us vs : List T}, TLs xs ys → TLs us vs → TLs (xs ++ us) (ys ++ vs)
  | [], [], us, vs, _, h => h
  | x :: xs, y :: ys, us, vs, h, h2 => by
    cases h with
    | cons a b => exact .cons a (TLs.append b h2)
  | [], _ :: _, _, _, h, _ => by cases h
  | _ :: _, [], _, _, h, _ => by cases h
theorem TLs.len : ∀ {xs ys : List T}, TLs xs ys → xs.length = ys.length
  | [], [], _ => rfl
  | x :: xs, y :: ys, h => by
    cases h with
    | cons a b => simp [TLs.len b]
  | [], _ :: _, h => by cases h
  | _ :: _, [], h => by cases h
theorem TLe.cells_le : ∀ {x y : T}, TLe x y → TLs x.cells y.cells
  | _, _, .refl x => TLs.refl _
  | _, _, .nil sz => .cons (.nil sz) .nil
  | _, _, .esl sz => .cons (.esl sz) .nil
  | _, _, .slq sz es => .cons (.slq sz es) .nil
  | _, _, .agg h => h
  | _, _, .sl h => .cons (.sl h) .nil
mutual
theorem TLe.rep : ∀ {x y : T}, TLe x y → ∀ {h : Heap} {v : Value}, RepT h v x → RepT h v y
  | _, _, .refl x, _, _, H => H
  | _, _, .nil sz, h, v, H => by
    simp only [RepT] at H ⊢
    exact ⟨none, 0, 0, H, rfl, Nat.le_refl _, ⟨Nat.zero_le _, fun _ => rfl⟩, fun h => absurd rfl h⟩
  | _, _, .esl sz, h, v, H => by
    simp only [RepT] at H ⊢
    obtain ⟨a, c, rfl, hc⟩ := H
    exact ⟨some a, 0, c, rfl, rfl, Nat.zero_le _, ⟨hc, fun h => by cases h⟩, fun h => absurd rfl h⟩
  | _, _, .slq sz es, h, v, H => by
    simp only [RepT] at H ⊢
    obtain ⟨A, n, e, hn, hm, hr⟩ := H
    exact ⟨A, n, n, e, hn, Nat.le_refl _, hm, hr⟩
  | _, _, .agg e, h, v, H => by
    simp only [RepT] at H ⊢
    obtain ⟨vs, rfl, h1, h2⟩ := H
    exact ⟨vs, rfl, h1.trans e.len, TLs.repL e h2⟩
  | _, _, .sl e, h, v, H => by
    simp only [RepT] at H ⊢
    obtain ⟨A, n, c, rfl, h1, h2, h3, h4⟩ := H
    refine ⟨A, n, c, rfl, h1.trans e.len, h2, h3, fun hn => ?_⟩
    obtain ⟨b, o, k1, k2⟩ := h4 hn
    exact ⟨b, o, k1, TLs.repEs e k2⟩
theorem TLs.repL : ∀ {xs ys : List T}, TLs xs ys → ∀ {h : Heap} {g : Nat → Option Value} {o : Nat}, RepL h g o xs → RepL h g o ys
  | _, _, .nil, _, _, _, H => H
  | _, _, .cons e es, h, g, o, H => by
    obtain ⟨⟨u, h1, h2, h3⟩, h4⟩ := H
    exact ⟨⟨u, h1, h2, TLe.rep e h3⟩, TLs.repL es h4⟩
theorem TLs.repEs : ∀ {xs ys : List T}, TLs xs ys → ∀ {h : Heap} {g : Nat → Option Value} {o sz : Nat}, RepEs h g o sz xs → RepEs h g o sz ys
  | _, _, .nil, _, _, _, _, H => H
  | _, _, .cons e es, h, g, o, sz, H => by
    rw [zA] at H ⊢
    refine ⟨⟨(TLs.len (TLe.cells_le e)).symm.trans H.1.1, ?_⟩, TLs.repEs es H.2⟩
    cases e with
    | refl x => exact H.1.2
    | nil s => obtain ⟨⟨u, h1, h2, h3⟩, _⟩ := H.1.2; exact ⟨⟨u, h1, h2, TLe.rep (.nil s) h3⟩, trivial⟩
    | esl s => obtain ⟨⟨u, h1, h2, h3⟩, _⟩ := H.1.2; exact ⟨⟨u, h1, h2, TLe.rep (.esl s) h3⟩, trivial⟩
    | slq s q => obtain ⟨⟨u, h1, h2, h3⟩, _⟩ := H.1.2; exact ⟨⟨u, h1, h2, TLe.rep (.slq s q) h3⟩, trivial⟩
    | agg k => exact TLs.repL k H.1.2
    | sl k => obtain ⟨⟨u, h1, h2, h3⟩, _⟩ := H.1.2; exact ⟨⟨u, h1, h2, TLe.rep (.sl k) h3⟩, trivial⟩
end
theorem TLe.av {x y : T} (e : TLe x y) : AVLE (.t x) (.t y) := fun h m v H => e.rep H
theorem ArgsLE.t {x y : T} {xs ys : List AV} (h1 : TLe x y) (h2 : ArgsLE xs ys) : ArgsLE (.t x :: xs) (.t y :: ys) := ArgsLE.cons h1.av h2
theorem wO {P : Program} {fn : Func} {env : EnvL} {st : StO} {t u : Nat} {y x y' x' : T} (hr : fn.results = #[.tmp t, .tmp u]) (hx : env.get t = .t y) (hx' : env.get u = .t y') (e : TLe y x) (e' : TLe y' x') : zb2 P fn env.get st.get (.tup [.t x, .t x']) := xU hr (by rw [hx]; exact e.av) (by rw [hx']; exact e'.av)
def RowLE (r r' : Row) : Prop := ∀ h m w id, SimRow h m w id r → SimRow h m w id r'
theorem RowLE.slt {e : TypeId} {sz : Nat} {es fs : List T} (h : TLs es fs) : RowLE (.slt e sz es) (.slt e sz fs) := fun hh m w id H => by
  obtain ⟨xs, h1, h2⟩ := H
  exact ⟨xs, by rw [← h.len]; exact h1, h.repEs h2⟩
def AVLs : List AV → List AV → Prop
  | [], [] => True
  | x :: xs, y :: ys => AVLE x y ∧ AVLs xs ys
  | _, _ => False
theorem AVLs.repAL : ∀ {xs ys : List AV}, AVLs xs ys → ∀ {h : Heap} {m : zu} {g : Nat → Option Value} {o : Nat}, RepAL h m g o xs → RepAL h m g o ys
  | [], [], _, _, _, _, _, H => H
  | x :: xs, y :: ys, e, h, m, g, o, H => by
    obtain ⟨⟨u, h1, h2, h3⟩, h4⟩ := H
    exact ⟨⟨u, h1, h2, e.1 _ _ _ h3⟩, AVLs.repAL e.2 h4⟩
  | [], _ :: _, e, _, _, _, _, _ => e.elim
  | _ :: _, [], e, _, _, _, _, _ => e.elim
theorem AVLs.len : ∀ {xs ys : List AV}, AVLs xs ys → xs.length = ys.length
  | [], [], _ => rfl
  | x :: xs, y :: ys, e => by simp [AVLs.len e.2]
  | [], _ :: _, e => e.elim
  | _ :: _, [], e => e.elim
theorem RowLE.var {ty : TypeId} {cs ds : List AV} (e : AVLs cs ds) : RowLE (.var ty cs) (.var ty ds) := fun h m w id H => by
  obtain ⟨b, arr, h1, h2, h3, h4⟩ := H
  exact ⟨b, arr, h1, h2, h3.trans e.len, e.repAL h4⟩
theorem zbX {nt : Nat} {env : EnvL} {st st' : StO} {id : Id} {r r' : Row} (hr : StO.get st id = some r) (hle : RowLE r r') (hs : (id, some r') :: st = st') : Ghost nt env.get st.get env.get st'.get := by
  subst hs
  have key : ∀ y row, StO.get ((id, some r') :: st) y = some row → ∃ row0, st.get y = some row0 ∧ ∀ h m w, SimRow h m w y row0 → SimRow h m w y row := by
    intro y row hy
    by_cases e : id = y
    · subst e
      have : row = r' := by simpa [StO.get] using hy.symm
      subst this
      exact ⟨r, hr, fun h m w => hle h m w id⟩
    · have : StO.get st y = some row := by simpa [StO.get, e] using hy
      exact ⟨row, this, fun h m w H => H⟩
  intro h m a w c
  refine c.step (h' := h) (m' := m) ⟨c.sim.imm, fun y row hy => ?_, fun y row b hy => ?_, fun y y' r1 r2 b k1 k2 => ?_⟩ (c.env) ⟨⟨rfl, rfl, rfl, Nat.le_refl _, fun _ _ _ => ⟨rfl, rfl⟩, fun _ _ hu => hu, fun y row b hy hb => ?_⟩, fun _ => rfl⟩
  · obtain ⟨r0, h1, h2⟩ := key y row hy
    exact h2 h m w (c.sim.rows y r0 h1)
  · obtain ⟨r0, h1, _⟩ := key y row hy
    exact c.sim.sep y r0 b h1
  · obtain ⟨r0, h1, _⟩ := key y r1 k1
    obtain ⟨r0', h1', _⟩ := key y' r2 k2
    exact c.sim.inj y y' r0 r0' b h1 h1'
  · obtain ⟨r0, h1, _⟩ := key y row hy
    exact .inr ⟨y, r0, h1, hb⟩
def zbc (P : Program) (t : TypeId) : Option (List (Nat × Option Nat)) :=
  match P.underlying t with
  | some (.struct fs) => some (fs.toList.map fun f => (f.offset, (P.info? f.type).map (·.size)))
  | _ => none
class TyB (P : Program) (t : TypeId) (pl : outParam (List (Nat × Nat))) : Prop where
  h : zbc P t = some (pl.map fun p => (p.1, some p.2))
def jZ (pl : List (Nat × Nat)) (n : Nat) : List (Nat × AV) → Option (List (Nat × AV))
  | [] => some []
  | (i, y) :: ps => match pl[i]? with
    | none => none
    | some (off, sz) => bif y.boxable && (decide (y.cells.length = sz) && decide (off + sz ≤ n)) then (match jZ pl n ps with | some qs => some ((off, y) :: qs) | none => none) else none
theorem vY {pl : List (Nat × Nat)} {n : Nat} {ρ : Operand → AV} : ∀ {ps : List (Nat × Operand)} {qs : List (Nat × AV)}, jZ pl n (ps.map fun p => (p.1, ρ p.2)) = some qs → PartsOK (fun i => pl[i]?) ρ n ps qs
  | [], qs, h => by
    simp only [List.map_nil, jZ, Option.some.injEq] at h
    subst h; trivial
  | (i, x) :: ps, qs, h => by
    simp only [List.map_cons, jZ] at h
    split at h
    · simp at h
    · rename_i off sz hp
      cases hb : ((ρ x).boxable && (decide ((ρ x).cells.length = sz) && decide (off + sz ≤ n))) with
      | false => rw [hb] at h; simp at h
      | true =>
        rw [hb] at h
        simp only [cond_true] at h
        simp only [Bool.and_eq_true, decide_eq_true_eq] at hb
        split at h
        · rename_i qs' hq
          cases h
          exact ⟨⟨rfl, hb.1, by show pl[i]? = _; rw [hp, hb.2.1], by have := hb.2.2; have := hb.2.1; omega⟩, vY hq⟩
        · simp at h
section
variable {P : Program} {nt : Nat} {ops : Array Oper} {o : Oper} {rest : List Oper} {env : EnvL} {st : StO} {acc : List SD} {K : EnvL → StO → List SD → Prop} {d : Nat}
theorem zdP {t : TypeId} {parts : Array (Nat × Operand)} {size bytes : Nat} {z : Value} {pl : List (Nat × Nat)} {qs : List (Nat × AV)} {r : AV} (ho : o.op = .build t parts) [tb : TyB P t pl] [ti : TyI P t size bytes z]
    (hz : (decide (z.cells.size = size) && z.cells.toList.all Value.oneCell') = true) (hq : jZ pl size (parts.toList.map fun p => (p.1, zk env.get p.2)) = some qs) (hr : qM (km (z.cells.toList.map xP) qs) = r) (hd : o.dst = some d) (hn : (decide (d < nt)) = true) (hg : zj ops o env = true)
    (H : LexP P nt ops rest ((d, r) :: env) st (⟨true, [], r, [], [], []⟩ :: acc) K) : LexP P nt ops (o :: rest) env st acc K := by
  subst hr
  simp only [Bool.and_eq_true, decide_eq_true_eq, List.all_eq_true] at hz
  have hb := tb.h
  unfold zbc at hb
  split at hb
  · rename_i fs hu
    simp only [Option.some.injEq] at hb
    have e1 : fs.toList.map (·.offset) = pl.map (·.1) := by
      have := congrArg (List.map (·.1)) hb
      simpa [List.map_map, Function.comp_def] using this
    have e2 : fs.toList.map (fun f => (P.info? f.type).map (·.size)) = (pl.map (·.2)).map some := by
      have := congrArg (List.map (·.2)) hb
      simpa [List.map_map, Function.comp_def] using this
    have e3 : (fs.toList.map (·.offset)).zip (pl.map (·.2)) = pl := by
      rw [e1]; clear hq tb hb e1 e2
      induction pl with
      | nil => rfl
      | cons p pl ih => simp [ih]
    have hT := vK (P := P) (ρ := zk env.get) ho ⟨hu⟩ ti e2 hz.1 hz.2 (qs := qs) (by rw [e3]; exact vY hq)
    exact zw hT hd hn hg H
  · simp at hb
end
end Go.AL
set_option linter.unusedVariables false
namespace Go.AL
open Go Go.RowKit
theorem y3 {nt : Nat} {Q : Exit → Env → zn → Prop} {x : Exit} {env env' : EnvL} {st st' : StO} (g : Ghost nt env.get st.get env'.get st'.get) (h : gQ nt Q x env'.get st'.get) : gQ nt Q x env.get st.get := by
  obtain ⟨e2, s2, g2, h2⟩ := h
  exact ⟨e2, s2, g.trans g2, h2⟩
theorem xL {nt : Nat} {Q : Exit → Env → zn → Prop} {x : Exit} {env : EnvL} {st : StO} (h : Q x env.get st.get) : gQ nt Q x env.get st.get := ⟨_, _, Ghost.refl _ _, h⟩
section
variable {P : Program} {nt : Nat} {ops : Array Oper} {o : Oper} {rest : List Oper} {env : EnvL} {st : StO} {acc : List SD} {K : EnvL → StO → List SD → Prop} {d : Nat}
theorem z8 {ty : TypeId} {p : Operand} {e e' : T} {dd : TypeDesc} {size bytes : Nat} {z : Value} (ho : o.op = .load ty p) (hp : zk env.get p = .tp e 0) (he : e = e') [tu : TyU P ty dd] (ha : z7 dd = true) [ti : TyI P ty size bytes z] (hd : o.dst = some d) (hn : (decide (d < nt)) = true) (hg : zj ops o env = true) (hl : e'.cells.length = size) (hagg : e'.isAgg = true)
    (H : LexP P nt ops rest ((d, .t e') :: env) st (⟨true, [], .t e', [], [], []⟩ :: acc) K) : LexP P nt ops (o :: rest) env st acc K := by
  subst he
  exact zw (vH ho hp tu ha ti hl hagg) hd hn hg H
end
end Go.AL
set_option linter.unusedVariables false
namespace Go.AL
open Go Go.RowKit
theorem jc {h : Heap} {m : zu} {x y : AV} (hxy : ∀ u, u.oneCell' = true → RepA h m u x → RepA h m u y) : ∀ {cs : List AV} {k : Nat} {g : Nat → Option Value} {o : Nat}, cs[k]? = some x → RepAL h m g o cs → RepAL h m g o (cs.set k y)
  | [], k, g, o, hk, H => by simp at hk
  | c :: cs, 0, g, o, hk, H => by
    simp only [List.getElem?_cons_zero, Option.some.injEq] at hk
    subst hk
    obtain ⟨⟨u, h1, h2, h3⟩, h4⟩ := H
    exact ⟨⟨u, h1, h2, hxy u h2 h3⟩, h4⟩
  | c :: cs, k + 1, g, o, hk, H => by
    simp only [List.getElem?_cons_succ] at hk
    exact ⟨H.1, jc hxy hk H.2⟩
theorem kw {nt : Nat} {env : Env} {st : zn} {r : Id} {ty : TypeId} {cs : List AV} (k : Nat) (id : Id) (e sz : Nat) (hr : st r = some (.var ty cs)) (hk : cs[k]? = some (.t .nilsl)) (hf : xI [id] env st) (hloc : id.isLoc = true) :
    Ghost nt env st env (fun x => if x = id then some (.slt e sz []) else if x = r then some (.var ty (cs.set k (.row id))) else st x) := fun h m a w c => by
  have hm : ∀ y, y ∉ [id] → zB m id (.slice none 0 0) y = m y := fun y => zD
  have cases_ : ∀ y row, (fun x => if x = id then some (Row.slt e sz []) else if x = r then some (.var ty (cs.set k (.row id))) else st x) y = some row → (y = id ∧ row = .slt e sz []) ∨ (y ≠ id ∧ ∃ row0, st y = some row0 ∧ ((y = r ∧ row = .var ty (cs.set k (.row id))) ∨ row = row0)) := fun y row hy => by
    simp only at hy
    split at hy
    · rename_i e; exact .inl ⟨e, (Option.some.inj hy).symm⟩
    · rename_i e
      split at hy
      · rename_i e2; subst e2; exact .inr ⟨e, _, hr, .inl ⟨rfl, (Option.some.inj hy).symm⟩⟩
      · exact .inr ⟨e, row, hy, .inr rfl⟩
  refine c.step (h' := h) (m' := zB m id (.slice none 0 0)) ⟨c.sim.imm, ?_, ?_, ?_⟩ (fun x => ?_) ⟨⟨rfl, rfl, rfl, Nat.le_refl _, fun _ _ _ => ⟨rfl, rfl⟩, fun _ _ hu => hu, ?_⟩, fun k => ?_⟩
  · intro y row hy
    rcases cases_ y row hy with ⟨rfl, rfl⟩ | ⟨hne, row0, hy0, h2⟩
    · exact ⟨[], by rw [zm]; exact ⟨by simp, .inl ⟨rfl, rfl⟩⟩, by simp [RepEs]⟩
    · have hs := SimRow.mono (N := [id]) (fun _ _ hu => hu) hm (by simpa using hne) (hf.2 y row0 hy0).2 (fun _ _ => rfl) (c.sim.rows y row0 hy0)
      rcases h2 with ⟨rfl, rfl⟩ | rfl
      · have e9 := Option.some.inj (hr.symm.trans hy0)
        rw [← e9] at hs
        obtain ⟨b, arr, h1, h2, h3, h4⟩ := hs
        refine ⟨b, arr, h1, h2, by simpa using h3, jc (fun u hu H => ?_) hk h4⟩
        simp only [RepA, RepT] at H ⊢
        subst H
        exact ⟨by rw [zm], rfl⟩
      · exact hs
  · intro y row b hy hb
    rcases cases_ y row hy with ⟨rfl, rfl⟩ | ⟨hne, row0, hy, h2⟩
    · rw [zm] at hb; simp [blk] at hb
    · rw [hm y (by simpa using hne)] at hb; exact c.sim.sep y row0 b hy hb
  · intro y y' r1 r2 b hy hy' hb hb'
    rcases cases_ y r1 hy with ⟨rfl, rfl⟩ | ⟨hne, row0, hy, h2⟩
    · rw [zm] at hb; simp [blk] at hb
    · rcases cases_ y' r2 hy' with ⟨rfl, rfl⟩ | ⟨hne', row0', hy', h2'⟩
      · rw [zm] at hb'; simp [blk] at hb'
      · rw [hm y (by simpa using hne)] at hb
        rw [hm y' (by simpa using hne')] at hb'
        exact c.sim.inj y y' row0 row0' b hy hy' hb hb'
  · exact RepA.mono (fun _ _ hu => hu) hm (hf.1 x) (c.env x)
  · intro y row b hy hb
    rcases cases_ y row hy with ⟨rfl, rfl⟩ | ⟨hne, row0, hy, h2⟩
    · rw [zm] at hb; simp [blk] at hb
    · rw [hm y (by simpa using hne)] at hb; exact .inr ⟨y, row0, hy, hb⟩
  · exact hm _ (by intro hk; simp at hk; rw [← hk] at hloc; simp [Id.isLoc] at hloc)
theorem xa {nt : Nat} {env : EnvL} {st : StO} {r : Id} {ty : TypeId} {cs cs' : List AV} (k : Nat) (id : Id) (e sz : Nat) (hr : StO.get st r = some (.var ty cs)) (hk : cs[k]? = some (.t .nilsl)) (hcs : cs.set k (.row id) = cs') (hf : zX [id] env st = true) (hloc : id.isLoc = true) :
    Ghost nt env.get st.get env.get (StO.get ((id, some (.slt e sz [])) :: (r, some (.var ty cs')) :: st)) := by
  subst hcs
  have := kw (nt := nt) (env := env.get) (st := st.get) k id e sz hr hk (zH hf) hloc
  have e2 : (fun x => if x = id then some (Row.slt e sz []) else if x = r then some (.var ty (cs.set k (.row id))) else st.get x) = StO.get ((id, some (.slt e sz [])) :: (r, some (.var ty (cs.set k (.row id)))) :: st) := by
    funext x
    simp only [StO.get]
    by_cases h : id = x
    · simp [h]
    · rw [if_neg h, if_neg (fun h' => h h'.symm)]
      by_cases h3 : r = x
      · simp [h3]
      · rw [if_neg h3, if_neg (fun h' => h3 h'.symm)]
  rw [e2] at this
  exact this
end Go.AL
set_option linter.unusedVariables false
namespace Go.AL
open Go Go.RowKit
end Go.AL
set_option linter.unusedVariables false
namespace Go.AL
open Go Go.RowKit Go.ChangeShapes Go.WideShapes Go.ChangeMaps
mutual
def T.noU8 : T → Bool
  | .int .u8 _ => false
  | .agg cs => T.noU8L cs
  | .sl sz es => decide (0 < sz) && T.noU8L es
  | .slq _ _ => false
  | _ => true
def T.noU8L : List T → Bool
  | [] => true
  | x :: xs => x.noU8 && T.noU8L xs
end
end Go.AL
set_option linter.unusedVariables false
namespace Go.AL
open Go Go.RowKit
section
variable {P : Program} {nt : Nat} {ops : Array Oper} {o : Oper} {rest : List Oper} {env : EnvL} {st : StO} {acc : List SD} {K : EnvL → StO → List SD → Prop} {d : Nat}
end
end Go.AL
set_option linter.unusedVariables false
namespace Go.AL
open Go Go.RowKit
section
variable {P : Program} {nt : Nat} {ops : Array Oper} {o : Oper} {rest : List Oper} {env : EnvL} {st : StO} {acc : List SD} {K : EnvL → StO → List SD → Prop} {d : Nat}
end
end Go.AL
set_option linter.unusedVariables false
namespace Go.AL
open Go Go.RowKit
theorem zcx {nt : Nat} {env : Env} {st : zn} (a b : Id) (hab : a ≠ b) (hb : y2 b = false) (hf : xI [b] env st) :
    Ghost nt env st (fun t => (env t).ren (xD a b)) (fun j => if j = b then (st a).map (Row.ren (xD a b)) else if j = a then none else (st j).map (Row.ren (xD a b))) := fun h m x w c => by
  let m' := zB m b (m a)
  have hm : ∀ id, (decide (id ≠ b)) = true → m' (xD a b id) = m id := fun id hid => by
    simp at hid
    simp only [m', zB, xD]
    by_cases e : id = a
    · subst e; simp
    · simp [e, hid]
  have cases_ : ∀ y row, (fun j => if j = b then (st a).map (Row.ren (xD a b)) else if j = a then none else (st j).map (Row.ren (xD a b))) y = some row → ∃ k r0, st k = some r0 ∧ row = r0.ren (xD a b) ∧ xD a b k = y := fun y row hy => by
    simp only at hy
    split at hy
    · rename_i e
      obtain ⟨r0, k1, k2⟩ := Option.map_eq_some_iff.1 hy
      exact ⟨a, r0, k1, k2.symm, by simp [xD, e]⟩
    · split at hy
      · cases hy
      · rename_i e1 e2
        obtain ⟨r0, k1, k2⟩ := Option.map_eq_some_iff.1 hy
        exact ⟨y, r0, k1, k2.symm, by simp [xD, e2]⟩
  have hfr : ∀ k r0, st k = some r0 → (decide (k ≠ b)) = true := fun k r0 hk => by
    have := (hf.2 k r0 hk).1
    simpa using this
  refine c.step (h' := h) (m' := m') ⟨c.sim.imm, ?_, ?_, ?_⟩ (fun t => RepA.ren hm (yx _ (hf.1 t)) (c.env t)) ⟨⟨rfl, rfl, rfl, Nat.le_refl _, fun _ _ _ => ⟨rfl, rfl⟩, fun _ _ hu => hu, ?_⟩, fun k => ?_⟩
  · intro y row hy
    obtain ⟨k, r0, k1, rfl, rfl⟩ := cases_ y row hy
    have hk := hm k (hfr k r0 k1)
    have hcl := (hf.2 k r0 k1).2
    have := c.sim.rows k r0 k1
    cases r0 with
    | var ty cs =>
      obtain ⟨b', arr, e1, e2, e3, e4⟩ := this
      refine ⟨b', arr, by rw [hk]; exact e1, e2, by rw [zP]; exact e3, RepAL.ren hm ?_ e4⟩
      have := yx (id := b) (.agg cs) (by simpa [AV.clean, Row.clean] using hcl)
      simpa [AV.all] using this
    | slt e' sz' es' =>
      obtain ⟨us, q1, q2⟩ := this
      exact ⟨us, by rw [hk]; exact q1, q2⟩
    | arr ty sz' es' =>
      obtain ⟨b', arr, e1, e2, e3, e4⟩ := this
      exact ⟨b', arr, by rw [hk]; exact e1, e2, e3, e4⟩
    | dat kk =>
      obtain ⟨b', o, e1, e2, e3⟩ := this
      exact ⟨b', o, by rw [hk]; exact e1, e2, by rw [hk]; exact e3⟩
    | loop kk cs =>
      obtain ⟨l, arr, e1, e2, e3, e4⟩ := this
      refine ⟨l, arr, by rw [hk]; exact e1, e2, e3, fun x hx => ?_⟩
      obtain ⟨x0, hx0, rfl⟩ := List.mem_map.1 hx
      simp only [Row.clean, List.all_eq_true] at hcl
      exact RepA.ren hm (yx _ (hcl x0 hx0)) (e4 x0 hx0)
  · intro y row b' hy hb'
    obtain ⟨k, r0, k1, rfl, rfl⟩ := cases_ y row hy
    rw [hm k (hfr k r0 k1)] at hb'
    exact c.sim.sep k r0 b' k1 hb'
  · intro y y' r r' b' hy hy' h1 h2
    obtain ⟨k, r0, k1, rfl, rfl⟩ := cases_ y r hy
    obtain ⟨k', r0', k1', rfl, rfl⟩ := cases_ y' r' hy'
    rw [hm k (hfr k r0 k1)] at h1
    rw [hm k' (hfr k' r0' k1')] at h2
    rw [c.sim.inj k k' _ _ b' k1 k1' h1 h2]
  · intro y row b' hy hb'
    obtain ⟨k, r0, k1, rfl, rfl⟩ := cases_ y row hy
    rw [hm k (hfr k r0 k1)] at hb'
    exact .inr ⟨k, r0, k1, hb'⟩
  · show zB m b (m a) (.par k) = m (.par k)
    unfold zB
    rw [if_neg]
    intro e
    rw [← e] at hb
    simp [y2] at hb
theorem zaK {nt : Nat} {env env' : EnvL} {st st' : StO} (a b : Id) (hab : (decide (a ≠ b) && !y2 b) = true) (hf : zX [b] env st = true) (he : zeV (xD a b) env = env') (hs : stR a b st = st') : Ghost nt env.get st.get env'.get st'.get := by
  subst he; subst hs
  simp only [Bool.and_eq_true, decide_eq_true_eq, Bool.not_eq_true'] at hab
  have := zcx (nt := nt) (env := env.get) (st := st.get) a b hab.1 hab.2 (zH hf)
  have e1 : (fun t => (env.get t).ren (xD a b)) = EnvL.get (zeV (xD a b) env) := by funext t; exact kC.symm
  have hf2 : vp [b] st = true := by unfold zX at hf; simp only [Bool.and_eq_true] at hf; exact hf.2
  have e2 : (fun j => if j = b then (st.get a).map (Row.ren (xD a b)) else if j = a then none else (st.get j).map (Row.ren (xD a b))) = StO.get (stR a b st) := by
    funext j
    exact (zaz hab.1 hf2).symm
  rw [e1, e2] at this
  exact this
end Go.AL
set_option linter.unusedVariables false
set_option linter.unusedSimpArgs false
namespace Go.AL
open Go Go.RowKit
def zfc : List Nat → List AV → EnvL → EnvL
  | t :: ts, a :: as, e => zfc ts as ((t, a) :: e)
  | _, _, e => e
theorem zbk {h : Heap} {m : zu} {nt : Nat} {vs : Array Value} : ∀ (ps : List Nat) (as : List AV) (k : Nat) (arr : Array Value) (e : EnvL), arr.size = nt → (∀ p ∈ ps, p < nt) → ps.length = as.length → RepAs h m (fun j => vs[j]?) k as → vs.size = k + as.length →
    (∀ t, RepA h m (arr.getD t undef) (e.get t)) → ∀ t, RepA h m (((ps.zip (vs.toList.drop k)).foldl (fun tmps (x : Nat × Value) => tmps.setIfInBounds x.1 x.2) arr).getD t undef) ((zfc ps as e).get t)
  | [], as, k, arr, e, hs, hp, hl, H, hn, he, t => by
    cases as with
    | nil => simpa [zfc] using he t
    | cons a as => simp at hl
  | p :: ps, as, k, arr, e, hs, hp, hl, H, hn, he, t => by
    cases as with
    | nil => simp at hl
    | cons a as =>
      simp only [RepAs] at H
      obtain ⟨⟨u, h1, h2⟩, h3⟩ := H
      have hk : k < vs.size := by simp at hn; omega
      have hd : vs.toList.drop k = u :: vs.toList.drop (k + 1) := by
        rw [List.drop_eq_getElem_cons (by simpa using hk)]
        congr 1
        rw [Array.getElem?_eq_getElem hk] at h1
        simpa using h1
      rw [hd]
      simp only [List.zip_cons_cons, List.foldl_cons, zfc]
      refine zbk ps as (k + 1) _ _ (by simpa using hs) (fun q hq => hp q (by simp [hq])) (by simpa using hl) h3 (by simp at hn; omega) (fun s => ?_) t
      simp only [EnvL.get]
      by_cases hps : p = s
      · subst hps
        rw [if_pos rfl]
        have : (arr.setIfInBounds p u).getD p undef = u := by
          have := hp p (by simp)
          simp [Array.getD_eq_getD_getElem?, Array.getElem?_setIfInBounds, hs, this]
        rw [this]; exact h2
      · rw [if_neg hps]
        have : (arr.setIfInBounds p u).getD s undef = arr.getD s undef := by
          simp [Array.getD_eq_getD_getElem?, Array.getElem?_setIfInBounds, hps]
        rw [this]; exact he s
theorem EnvL.get_mem : ∀ (L : EnvL) (s : Nat), L.get s = .junk ∨ (s, L.get s) ∈ L
  | [], s => .inl rfl
  | (t, v) :: L, s => by
    simp only [EnvL.get]
    by_cases e : t = s
    · subst e; rw [if_pos rfl]; exact .inr (by simp)
    · rw [if_neg e]
      rcases EnvL.get_mem L s with h | h
      · exact .inl h
      · exact .inr (by simp [h])
structure RoundT (P : Program) (k : LoopK) (cs : EnvL) (args : List AV) (S S' : StL) : Prop where
  n : args.length = k.params.size
  run : ∀ h m (l : Nat) (arr vs : Array Value) w, Sim h m (StL.get S) w → arr.size = k.nt → (∀ x ∈ cs, RepA h m (arr.getD x.1 undef) x.2) → vs.size = args.length → RepAs h m (fun j => vs[j]?) 0 args →
    w.heap[l]? = some (.loop (k.obj arr)) → h l = none → (∀ id row, StL.get S id = some row → blk (m id) ≠ some l) →
    RoundIn Fence.wide 0 P l k.fn ((k.params.zip vs).foldl (fun tmps (t, a) => tmps.setIfInBounds t a) arr) k.assign k.body w
      fun e w' => e = .returned (.bool true) ∧ ∃ h' m', Sim h' m' (StL.get S') w' ∧ Since h m (StL.get S) w h' m' (StL.get S') w'
def zbi (S' : StL) : Exit → Env → zn → Prop
  | .normal, env, st => ∀ id row, StL.get S' id = some row → st id = some row
  | _, _, _ => False
theorem Since.swap {h1 h3 : Heap} {m1 m3 : zu} {st1 st3 : zn} {w1 w3 : World} {l : Nat} {o o1 : Obj} (s : Since h1 m1 st1 (w1.putObj l o) h3 m3 st3 w3) (hl : w1.heap[l]? = some o1) (hn : ∀ id row, st1 id = some row → blk (m1 id) ≠ some l) : Since h1 m1 st1 w1 h3 m3 st3 (w3.putObj l o1) := by
  have hlt : l < w1.heap.size := (Array.getElem?_eq_some_iff.1 hl).1
  have hsz : w1.heap.size ≤ w3.heap.size := by simpa using s.foot.size
  refine ⟨⟨s.foot.os, s.foot.tape, s.foot.output, by simpa using hsz, fun b hb hnb => ?_, s.foot.grow, fun id row b hr hb => by simpa using s.foot.fresh id row b hr hb⟩, s.par⟩
  obtain ⟨k1, k2⟩ := s.foot.keep b (by simpa using hb) hnb
  by_cases e : b = l
  · subst e
    exact ⟨by rw [World.putObj_heap_same (by omega), hl], k2⟩
  · rw [World.putObj_heap_other e] at k1 ⊢
    exact ⟨k1, k2⟩
theorem Since.sub {h h' : Heap} {m m' : zu} {st st' st2 : zn} {w w' : World} (s : Since h m st w h' m' st' w') (hs : ∀ id row, st2 id = some row → st' id = some row) : Since h m st w h' m' st2 w' :=
  ⟨⟨s.foot.os, s.foot.tape, s.foot.output, s.foot.size, s.foot.keep, s.foot.grow, fun id row b hr => s.foot.fresh id row b (hs id row hr)⟩, s.par⟩
theorem Sim.sub {h : Heap} {m : zu} {st st2 : zn} {w : World} (s : Sim h m st w) (hs : ∀ id row, st2 id = some row → st id = some row) : Sim h m st2 w :=
  ⟨s.imm, fun id row hr => s.rows id row (hs id row hr), fun id row b hr => s.sep id row b (hs id row hr), fun id id' r r' b k1 k2 => s.inj id id' r r' b (hs _ _ k1) (hs _ _ k2)⟩
theorem Foot.away {h h' : Heap} {m m' : zu} {st st' : zn} {w w' : World} (f : Foot h m st w h' m' st' w') {l : Nat} (hl : l < w.heap.size) (hn : ∀ id row, st id = some row → blk (m id) ≠ some l) : ∀ id row, st' id = some row → blk (m' id) ≠ some l := fun id row hr hb => by
  rcases f.fresh id row l hr hb with h | ⟨i, r, hi, hb'⟩
  · omega
  · exact hn i r hi hb'
theorem j4 (ps : Array Tmp) (vs : Array Value) (arr : Array Value) : (ps.zip vs).foldl (fun tmps (t, a) => tmps.setIfInBounds t a) arr = (ps.toList.zip (vs.toList.drop 0)).foldl (fun tmps (x : Nat × Value) => tmps.setIfInBounds x.1 x.2) arr := by
  rw [← Array.foldl_toList, Array.toList_zip]
  rfl
theorem qU {P : Program} {k : LoopK} {cs : EnvL} {args : List AV} {S S' : StL} (hps : (k.params.toList.all fun p => decide (p < k.nt)) = true) (hlen : args.length = k.params.size) (hrl : (Code.roundless k.assign && Code.roundless k.body) = true)
    (H : CodeT P k.nt k.assign (zfc k.params.toList args cs).get (StL.get S) (zbZ P k.nt k.body (gQ k.nt (zbi S')))) : RoundT P k cs args S S' := by
  refine ⟨hlen, ?_⟩
  intro h m l arr vs w hs hsz hrep hvs hargs hl hhl hnl
  simp only [Bool.and_eq_true] at hrl
  simp only [List.all_eq_true, decide_eq_true_eq] at hps
  have hlt : l < w.heap.size := (Array.getElem?_eq_some_iff.1 hl).1
  refine roundIn_of_wpIn (F := Fence.wide) trivial ?_
  have c0 : Conc k.nt h m (zfc k.params.toList args cs).get (StL.get S) { tmps := (k.params.zip vs).foldl (fun tmps (t, a) => tmps.setIfInBounds t a) arr, defers := [] } w := by
    refine ⟨hs, ?_, Marks.nil h m _ w, fun t => ?_⟩
    · rw [j4]
      have : ∀ (L : List (Nat × Value)) (arr : Array Value), (L.foldl (fun tmps (x : Nat × Value) => tmps.setIfInBounds x.1 x.2) arr).size = arr.size := by
        intro L
        induction L with
        | nil => intro arr; rfl
        | cons x L ih => intro arr; simp [ih]
      exact (this _ _).trans hsz
    · show RepA h m (((k.params.zip vs).foldl (fun tmps (t, a) => tmps.setIfInBounds t a) arr).getD t undef) _
      rw [j4]
      exact zbk k.params.toList args 0 arr _ hsz hps (by simpa using hlen.symm) hargs (by simpa using hvs) (fun s => by
        rcases EnvL.get_mem cs s with e | e
        · rw [e]; simp [RepA]
        · exact hrep _ e) t
  have hro1 : (some l : Option Nat) = none ∨ Code.roundless k.assign = true := .inr hrl.1
  have hro2 : (some l : Option Nat) = none ∨ Code.roundless k.body = true := .inr hrl.2
  refine wpIn_mono (H.run (some l) hro1 h m _ w c0) ?_
  rintro e a1 w1 ⟨env1, st1, h1, m1, hq, c1, s1, _⟩
  cases e with
  | normal =>
    have hl1 : w1.heap[l]? = some (.loop (k.obj arr)) := (s1.foot.keep l hlt hnl).1.trans hl
    have hh1 : h1 l = none := (s1.foot.keep l hlt hnl).2.trans hhl
    have hn1 := s1.foot.away hlt hnl
    refine ⟨_, run_beginRound hl1 rfl, ?_⟩
    have c2 : Conc k.nt h1 m1 env1 st1 a1 (w1.putObj l (.loop { (k.obj arr) with state := .busy })) := by
      refine ⟨c1.sim.putObj _ hh1 hn1, c1.size, ⟨c1.defers.nodup, fun d hd => ?_⟩, c1.env⟩
      obtain ⟨B, e, k1, k2⟩ := c1.defers.all d hd
      refine ⟨B, e, ?_, k2⟩
      rw [World.putObj_heap_other]
      · exact k1
      · rintro rfl; rw [hl1] at k1; cases k1
    refine wpIn_mono ((show CodeT P k.nt k.body env1 st1 (gQ k.nt (zbi S')) from hq).run (some l) hro2 h1 m1 a1 _ c2) ?_
    rintro e a3 w3 ⟨zgu, st3, h3, m3, ⟨env4, st4, g, hq3⟩, c3, s3, _⟩
    cases e with
    | normal =>
      obtain ⟨h4, m4, c4, s4⟩ := g h3 m3 a3 w3 c3
      have s34 := s3.trans s4
      have hlt1 : l < w1.heap.size := (Array.getElem?_eq_some_iff.1 hl1).1
      have hl3 : w3.heap[l]? = some (.loop { (k.obj arr) with state := .busy }) := by
        have := (s34.foot.keep l (by simpa using hlt1) hn1).1
        rw [World.putObj_heap_same hlt1] at this
        exact this
      have hn4 := s34.foot.away (by simpa using hlt1) hn1
      have hh4 : h4 l = none := (s34.foot.keep l (by simpa using hlt1) hn1).2.trans hh1
      refine ⟨_, _, run_endRound none hl3, rfl, h4, m4, (c4.sim.sub hq3).putObj _ hh4 (fun id row hr => hn4 id row (hq3 id row hr)), ?_⟩
      exact (s1.trans (s34.swap hl1 hn1)).sub hq3
    | exit id => exact hq3.elim
    | goto t => exact hq3.elim
    | ret => exact hq3.elim
    | panic ch => exact hq3.elim
    | outgrown => exact hq3.elim
  | exit id => obtain ⟨_, _, _, hq⟩ := hq; exact hq.elim
  | goto t => obtain ⟨_, _, _, hq⟩ := hq; exact hq.elim
  | ret => obtain ⟨_, _, _, hq⟩ := hq; exact hq.elim
  | panic ch => obtain ⟨_, _, _, hq⟩ := hq; exact hq.elim
  | outgrown => obtain ⟨_, _, _, hq⟩ := hq; exact hq.elim
end Go.AL
set_option linter.unusedVariables false
set_option linter.unusedSimpArgs false
namespace Go.AL
open Go Go.RowKit
theorem StL.get_cons_ne {id j : Id} {r : Row} {L : StL} (h : id ≠ j) : StL.get ((id, r) :: L) j = StL.get L j := by simp [StL.get, h]
theorem StL.get_cons_of {id j : Id} {r row : Row} {L : StL} (hid : id ∉ L.ids) (h : StL.get L j = some row) : StL.get ((id, r) :: L) j = some row := by
  rw [StL.get_cons_ne]
  · exact h
  · rintro rfl; exact hid (StL.mem_ids h)
theorem StL.get_cons_cases {id j : Id} {r row : Row} {L : StL} (h : StL.get ((id, r) :: L) j = some row) : (id = j ∧ row = r) ∨ (id ≠ j ∧ StL.get L j = some row) := by
  by_cases e : id = j
  · subst e; simp [StL.get] at h; exact .inl ⟨rfl, h.symm⟩
  · rw [StL.get_cons_ne e] at h; exact .inr ⟨e, h⟩
section
variable {P : Program} {o : Oper} {ρ : Operand → AV}
theorem zdC {f : Operand} {as : Array Operand} {ts : Array TypeId} {id : Id} {k : LoopK} {cs0 cs : EnvL} {args : List AV} {S S' : StL} (σ : Id → Id) (ho : o.op = .call { callee := .value f, args := as, argTypes := ts }) (hf : ρ f = .row id) (H : RoundT P k cs0 args S S') (ok : CallOK S S' (.t (.bool true)) σ)
    (hcs : cs0.map (fun x => (x.1, x.2.ren σ)) = cs) (hid : id ∉ (S.ren σ).ids) (hid' : id ∉ (S'.ren σ).ids) (hidN : id ∉ (S'.ids.filter zZ).map σ) (hcl : (cs.all fun x => x.2.clean ((S'.ids.filter zZ).map σ)) = true) (hlen : as.size = args.length) (hargs : ArgsLE (as.toList.map ρ) (AV.renL σ args)) :
    OpT P o ρ (StL.get ((id, .loop k cs) :: S.ren σ)) (.t (.bool true)) (StL.get ((id, .loop k cs) :: S'.ren σ)) ((S'.ids.filter zZ).map σ) := by
  intro h m a w hs hr K Q hK ro
  have r1 := hr f (by simp [ho, Op.operands, Call.operands])
  rw [hf] at r1
  simp only [RepA] at r1
  have hrow : SimRow h m w id (.loop k cs) := hs.rows id _ (by simp [StL.get])
  obtain ⟨l, arr, e1, e2, e3, e4⟩ := hrow
  have hs2 : Sim h m (StL.get (S.ren σ)) w := hs.sub fun j row hj => StL.get_cons_of hid hj
  obtain ⟨hs0, kf⟩ := jE ok hs2
  have hbl : blk (m id) = some l := by rw [e1]; rfl
  obtain ⟨hl1, hl2⟩ := hs.sep id (.loop k cs) l (by simp [StL.get]) hbl
  have haway : ∀ j row, StL.get (S.ren σ) j = some row → blk (m j) ≠ some l := fun j row hj hb => by
    have := hs.inj j id row (.loop k cs) l (StL.get_cons_of hid hj) (by simp [StL.get]) hb hbl
    subst this
    exact hid (StL.mem_ids hj)
  have hrep : RepAs h m (fun j => (as.map a.eval)[j]?) 0 (as.toList.map ρ) :=
    vP (f := a.eval) (fun j x hx => by
      have hj : j < as.size := by
        rcases Nat.lt_or_ge j as.size with h | h
        · exact h
        · simp [h] at hx
      simp at hx
      simp [hj]
      rw [Array.getElem?_eq_getElem hj] at hx
      cases hx
      rfl) fun x hx => hr x (by simp [ho, Op.operands, Call.operands]; right; simpa using hx)
  have hrun := H.run h (fun j => m (σ j)) l arr (as.map a.eval) w hs0 e3 (fun x hx => RepA.unren (e4 (x.1, x.2.ren σ) (by rw [← hcs]; exact List.mem_map_of_mem (f := fun x : Nat × AV => (x.1, x.2.ren σ)) hx))) (by simp [hlen]) (RepAs.unren (hargs h m _ 0 hrep)) e2 hl1 (fun j row hj hb => by
    have : StL.get (S.ren σ) (σ j) = some (row.ren σ) := StL.ren_get ok.inj (fun i hi => List.mem_append_left _ hi) hj
    exact haway _ _ this hb)
  have hy := run_yield (P := P) (args := as.map a.eval) e2 (by simp only [LoopK.obj]; rw [← H.n, Array.size_map, hlen])
  have hex : (execOp a.eval o).run P w = .ok (.round l k.fn ((k.params.zip (as.map a.eval)).foldl (fun tmps (t, a) => tmps.setIfInBounds t a) arr) k.assign k.body) w := by
    have hy' : (Instr.yield l (as.map a.eval)).run P w = .ok (.round l k.fn ((k.params.zip (as.map a.eval)).foldl (fun tmps (t, a) => tmps.setIfInBounds t a) arr) k.assign k.body) w := hy
    simp [execOp, ho, resolve, r1.1, e1, Deferred.ofValue, invoke, hy']
  refine ⟨fun _ _ => by cases ro <;> trivial, ?_⟩
  rw [Oper.semAt_eq _ _ _ (fun c hc => by rw [ho] at hc; cases hc), hex, Oper.uponIn_round]
  refine ⟨fun h => by simp [ROF, Fence.wide] at h, ?_⟩
  have goal : RoundIn Fence.wide 0 P l k.fn ((k.params.zip (as.map a.eval)).foldl (fun tmps (t, a) => tmps.setIfInBounds t a) arr) k.assign k.body w (fun
      | .returned v, w'' => K (a.put o.dst v) w''
      | .panicked chain, w'' => Q (.panic chain) a w''
      | .outgrown, _ => LetsOut Q) := by
    refine RoundIn.mono hrun ?_
    rintro e w' ⟨rfl, h', m', k1, k2⟩
    obtain ⟨m'', q1, q2, q3, q4⟩ := kf (v := .bool true) (by simp [RepA, RepT]) k1 k2
    have hmid : m'' id = m id := q4 id hidN
    obtain ⟨t1, t2⟩ := q3.keep l hl2 haway
    have haway' := q3.away hl2 haway
    refine hK (.bool true) h' m'' w' (by simp [RepA, RepT]) ⟨q2.imm, fun j row hj => ?_, fun j row b hj hb => ?_, fun j j' r r' b hj hj' hb hb' => ?_⟩ ⟨q3.os, q3.tape, q3.output, q3.size, fun b hb hn => q3.keep b hb fun j row hj => hn j row (StL.get_cons_of hid hj), q3.grow, fun j row b hj hb => ?_⟩ q4
    · rcases StL.get_cons_cases hj with ⟨rfl, rfl⟩ | ⟨hne, hj⟩
      · exact ⟨l, arr, by rw [hmid]; exact e1, by rw [t1]; exact e2, e3, fun x hx => RepA.mono q3.grow q4 (List.all_eq_true.1 hcl x hx) (e4 x hx)⟩
      · exact q2.rows j row hj
    · rcases StL.get_cons_cases hj with ⟨rfl, rfl⟩ | ⟨hne, hj⟩
      · rw [hmid, hbl] at hb
        cases hb
        exact ⟨by rw [t2]; exact hl1, Nat.lt_of_lt_of_le hl2 q3.size⟩
      · exact q2.sep j row b hj hb
    · rcases StL.get_cons_cases hj with ⟨rfl, rfl⟩ | ⟨hne, hj⟩
      · rcases StL.get_cons_cases hj' with ⟨rfl, rfl⟩ | ⟨hne', hj'⟩
        · rfl
        · rw [hmid, hbl] at hb
          cases hb
          exact absurd hb' (haway' j' r' hj')
      · rcases StL.get_cons_cases hj' with ⟨rfl, rfl⟩ | ⟨hne', hj'⟩
        · rw [hmid, hbl] at hb'
          cases hb'
          exact absurd hb (haway' j r hj)
        · exact q2.inj j j' r r' b hj hj' hb hb'
    · rcases StL.get_cons_cases hj with ⟨rfl, rfl⟩ | ⟨hne, hj⟩
      · exact .inr ⟨id, .loop k cs, by simp [StL.get], by rw [hmid] at hb; exact hb⟩
      · rcases q3.fresh j row b hj hb with h | ⟨i, r, hi, hb'⟩
        · exact .inl h
        · exact .inr ⟨i, r, StL.get_cons_of hid hi, hb'⟩
  cases ro with
  | none => exact goal
  | some l0 => exact goal
end
section
variable {P : Program} {nt : Nat} {ops : Array Oper} {o : Oper} {rest : List Oper} {env : EnvL} {st : StO} {acc : List SD} {K : EnvL → StO → List SD → Prop} {d : Nat}
theorem zd9 {f : Operand} {as : Array Operand} {ts : Array TypeId} {id : Id} {k : LoopK} {cs0 cs : EnvL} {args : List AV} {S S' : StL} {st' : StO} {R1 R2 : StL} {N : List Id} (l : List (Id × Id)) (ho : o.op = .call { callee := .value f, args := as, argTypes := ts }) (hf : zk env.get f = .row id) (H0 : RoundT P k cs0 args S S') (hrow : StO.get st id = some (.loop k cs))
    (hargs : ArgsLE (as.toList.map (zk env.get)) (AV.renL (yu l) args)) (hcs : cs0.map (fun x => (x.1, x.2.ren (yu l))) = cs) (hR1 : S.ren (yu l) = R1) (hst : zck st R1) (hlen : (decide (as.size = args.length)) = true) (hok : zbN S S' (.t (.bool true)) l = true)
    (hR2 : S'.ren (yu l) = R2) (hN : (S'.ids.filter zZ).map (yu l) = N) (hids : (!R1.ids.contains id && (!R2.ids.contains id && (!N.contains id && cs.all fun x => x.2.clean N))) = true) (hfr : zX N env st = true) (hs' : jK R1 R2 N st = st')
    (hd : o.dst = some d) (hn : (decide (d < nt)) = true) (hg : zj ops o env = true)
    (H : LexP P nt ops rest ((d, .t (.bool true)) :: env) st' (⟨true, (id, .loop k cs) :: R1, .t (.bool true), (id, .loop k cs) :: R2, R1.ids, N⟩ :: acc) K) : LexP P nt ops (o :: rest) env st acc K := by
  obtain ⟨ok, hloc, hdom⟩ := x4 hok
  simp only [Bool.and_eq_true, Bool.not_eq_true', List.contains_eq_mem, decide_eq_false_iff_not] at hids
  obtain ⟨i1, i2, i3, i4⟩ := hids
  have hT := zdC (P := P) (ρ := zk env.get) (id := id) (yu l) ho hf H0 ok hcs (by rw [hR1]; exact i1) (by rw [hR2]; exact i2) (by rw [hN]; exact i3) (by rw [hN]; exact i4) (of_decide_eq_true hlen) hargs
  rw [hR1, hR2, hN] at hT
  subst hs'
  have hfrs := zH hfr
  refine w7 hT hd (of_decide_eq_true hn) (zM hg) (fun x hx => ?_) ?_ (fun j h1 h2 => ?_) ?_ hfr ?_ H
  · rcases List.mem_cons.1 hx with rfl | hx
    · exact hrow
    · exact zf hst x hx
  · intro j hj
    simp only [StL.ids, List.map_cons, List.mem_cons] at hj ⊢
    rcases hj with rfl | hj
    · exact .inl (.inl rfl)
    · subst hR1; subst hR2; subst hN
      simp only [StL.ids, StL.ren, List.map_map, List.mem_map, Function.comp] at hj ⊢
      obtain ⟨x, hx, rfl⟩ := hj
      have hk : x.1 ∈ S'.ids := List.mem_map_of_mem hx
      rcases hdom x.1 hk with h | h
      · obtain ⟨y, hy, e⟩ := List.mem_map.1 h
        exact .inl (.inr ⟨y, hy, by rw [e]⟩)
      · exact .inr ⟨x.1, by simpa using ⟨⟨x.2, hx⟩, h⟩, rfl⟩
  · simp only [StL.ids, List.map_cons, List.mem_cons] at h1
    rcases h1 with rfl | h1
    · simp [StL.get]
    · exact absurd h1 h2
  · intro j hj
    subst hN
    obtain ⟨k, hk, rfl⟩ := List.mem_map.1 hj
    rw [List.mem_filter] at hk
    exact hloc k hk.1 hk.2
  · rw [xG, xG]
    funext j
    simp only [yG]
    by_cases e : id = j
    · subst e
      have hn2 : StL.get R2 id = none := StL.get_none.2 i2
      have : StL.get ((id, Row.loop k cs) :: R2) id = some (.loop k cs) := by simp [StL.get]
      rw [hn2, this]
      simp only [i3, i1, or_self, if_false]
      exact hrow
    · rw [StL.get_cons_ne e]
      cases StL.get R2 j with
      | some r => rfl
      | none =>
        have : (j ∈ StL.ids ((id, Row.loop k cs) :: R1)) = (j ∈ R1.ids) := by simp [StL.ids, Ne.symm e]
        simp only [this]
end
end Go.AL
set_option linter.unusedVariables false
set_option linter.unusedSimpArgs false
namespace Go.AL
open Go Go.RowKit
theorem zaT {st : zn} {R R' : StL} {N : List Id} {id : Id} {row : Row} (h : yG st R R' N id = some row) : StL.get R' id = some row ∨ (StL.get R' id = none ∧ id ∉ N ∧ id ∉ R.ids ∧ st id = some row) := by
  unfold yG at h
  cases e : StL.get R' id with
  | some r => rw [e] at h; exact .inl (by simpa using h)
  | none =>
    rw [e] at h
    simp only at h
    split at h
    · cases h
    · rename_i hn
      simp only [not_or] at hn
      exact .inr ⟨rfl, hn.1, hn.2, h⟩
theorem qC {w : World} {o : Obj} {b : Nat} (h : b < w.heap.size) : (w.alloc o).heap[b]? = w.heap[b]? := by
  show (w.heap.push o)[b]? = _
  rw [Array.getElem?_push]
  simp [Nat.ne_of_lt h]
section
variable {P : Program} {nt : Nat}
theorem qJ {g : Operand} {ps : Array Tmp} {assign body : Code} {f : FuncId} {caps caps0 : List AV} {cs0 : EnvL} {S S' : StL} {r : AV} {env : Env} {st : zn} {Q : Exit → Env → zn → Prop} (y Y : Id) (σ : Id → Id)
    (hf : yl (zk env g) = some (f, caps)) (hb : FnB P f)
    (H : ∀ fn B, Spec P f (.row y :: caps0) ((y, .loop ⟨nt, fn, ps, assign, body, B⟩ cs0) :: S) r ((y, .loop ⟨nt, fn, ps, assign, body, B⟩ cs0) :: S'))
    (ok : ∀ fn B, CallOK ((y, .loop ⟨nt, fn, ps, assign, body, B⟩ cs0) :: S) ((y, .loop ⟨nt, fn, ps, assign, body, B⟩ cs0) :: S') r σ)
    (hyr : zZ y = false) (hyY : σ y = Y) (hYl : Y.isLoc = true) (hcl0 : caps.length = caps0.length) (hcaps : ArgsLE caps (AV.renL σ caps0)) (hcs : ∀ x ∈ cs0, AVLE (env x.1) (x.2.ren σ)) (hcY : ((cs0.map fun x => (x.1, x.2.ren σ)).all fun x => x.2.clean [Y]) = true)
    (hsub : ∀ id row, StL.get (S.ren σ) id = some row → st id = some row)
    (hdok : DomOK ⟨true, S.ren σ, r, S'.ren σ, (S.ren σ).ids, (S'.ids.filter zZ).map σ⟩) (hfr : xI ((S'.ids.filter zZ).map σ) env st) (hfY : xI [Y] env st)
    (hY1 : Y ∉ (S.ren σ).ids) (hY2 : Y ∉ (S'.ren σ).ids) (hYN : Y ∉ (S'.ids.filter zZ).map σ) (hclY : ∀ id row, StL.get (S'.ren σ) id = some row → row.clean [Y] = true)
    (hq : Q .normal env (yG st (S.ren σ) (S'.ren σ) ((S'.ids.filter zZ).map σ))) : CodeT P nt (.rangeFunc g ps assign body) env st Q := by
  refine ⟨fun ro hro h m a w c => ?_⟩
  have hro : ro = none := hro.resolve_right (by simp [Code.roundless])
  subst hro
  refine wpIn_rangeFunc fun fn _ => ?_
  let k : LoopK := ⟨nt, fn, ps, assign, body, w.heap.size⟩
  have hrun := run_enterLoop_outer (P := P) (w := w) fn a.tmps ps assign body
  obtain ⟨W, hW⟩ : ∃ W, W = (w.alloc (.deferred (some []))).alloc (.loop (k.obj a.tmps)) := ⟨_, rfl⟩
  have hWs : W.heap.size = w.heap.size + 2 := by rw [hW]; simp
  have hWo : ∀ b, b < w.heap.size → W.heap[b]? = w.heap[b]? := fun b hb => by
    rw [hW, qC (by simp; omega), qC hb]
  have hWB : W.heap[w.heap.size]? = some (.deferred (some [])) := by
    rw [hW, qC (by simp)]; exact World.alloc_heap_new w _
  have hWl : W.heap[w.heap.size + 1]? = some (.loop (k.obj a.tmps)) := by
    rw [hW]
    have := World.alloc_heap_new (w.alloc (.deferred (some []))) (.loop (k.obj a.tmps))
    simpa using this
  have hrun' : (Instr.enterLoop fn a.tmps ps assign body (ROF none).round).run P w = .ok (w.heap.size + 1, [{ target := .collected w.heap.size, args := #[] }]) W := by
    rw [hW]; exact hrun
  have hold : ∀ b ob, h b = some ob → b < w.heap.size := fun b ob hb => (Array.getElem?_eq_some_iff.1 (c.sim.imm b ob hb)).1
  have hnone : ∀ b, w.heap.size ≤ b → h b = none := fun b hb => by
    cases e : h b with
    | none => rfl
    | some ob => have := hold b ob e; omega
  let m1 : zu := zB m Y (.func (.yield (w.heap.size + 1)) #[] #[])
  have hm1 : ∀ id, id ∉ [Y] → m1 id = m id := fun _ => zD
  have hm1Y : m1 Y = .func (.yield (w.heap.size + 1)) #[] #[] := zm _ _ _
  have hr1 : RepA h m1 (a.eval g) (zk env g) := by
    refine RepA.mono (fun _ _ hu => hu) hm1 ?_ (c.eval g)
    cases g with
    | tmp t => exact hfY.1 t
    | const v => simp only [zk]; unfold xP; split <;> rfl
    | func f => rfl
    | global g => rfl
  have hcall : ∃ cv : Array Value, a.eval g = .func (.func f) #[] cv ∧ cv.size = caps.length ∧ RepAs h m1 (fun j => cv[j]?) 0 caps := by
    cases e : zk env g with
    | t y =>
      cases y with
      | fn g' =>
        rw [e] at hf hr1
        simp only [yl, Option.some.injEq, Prod.mk.injEq] at hf
        simp only [RepA, RepT] at hr1
        obtain ⟨rfl, rfl⟩ := hf
        exact ⟨#[], hr1, rfl, by simp [RepAs]⟩
      | _ => rw [e] at hf; simp [yl] at hf
    | fn g' cs =>
      rw [e] at hf hr1
      simp only [yl, Option.some.injEq, Prod.mk.injEq] at hf
      obtain ⟨rfl, rfl⟩ := hf
      exact hr1
    | _ => rw [e] at hf; simp [yl] at hf
  obtain ⟨cv, e1, e2, e3⟩ := hcall
  have hres : ∃ d, (resolve a.eval (rangeCall g (w.heap.size + 1)) 0).run P W = .ok d W ∧ (invoke d.target d.args).run P W = .ok (.enter f (#[.func (.yield (w.heap.size + 1)) #[] #[]] ++ cv)) W := by
    refine ⟨_, by simp [resolve, e1, Deferred.ofValue]; rfl, ?_⟩
    simp [invoke, vB hb.h, Act.eval]
  obtain ⟨d, hres, hinv⟩ := hres
  refine ⟨w.heap.size + 1, [{ target := .collected w.heap.size, args := #[] }], W, d, W, f, _, W, hrun', hres, fun _ _ => trivial, hinv, fun h => by simp [ROF, Fence.wide] at h, ?_⟩
  have hren : StL.ren σ ((y, Row.loop k cs0) :: S) = (Y, Row.loop k (cs0.map fun x => (x.1, x.2.ren σ))) :: S.ren σ := by simp [StL.ren, Row.ren, hyY]
  have hren' : StL.ren σ ((y, Row.loop k cs0) :: S') = (Y, Row.loop k (cs0.map fun x => (x.1, x.2.ren σ))) :: S'.ren σ := by simp [StL.ren, Row.ren, hyY]
  have hlt : ∀ id row b, StL.get (S.ren σ) id = some row → blk (m id) = some b → b < w.heap.size := fun id row b hr hb => (c.sim.sep id row b (hsub id row hr) hb).2
  have hne : ∀ id row, StL.get (S.ren σ) id = some row → id ∉ [Y] := fun id row hr => by
    simp only [List.mem_singleton]; rintro rfl; exact hY1 (StL.mem_ids hr)
  have sim1 : Sim h m1 (StL.get (StL.ren σ ((y, Row.loop k cs0) :: S))) W := by
    rw [hren]
    refine ⟨fun b ob hb => by rw [hWo b (hold b ob hb)]; exact c.sim.imm b ob hb, fun id row hr => ?_, fun id row b hr hb => ?_, fun id id' r1 r2 b h1 h2 h3 h4 => ?_⟩
    · rcases StL.get_cons_cases hr with ⟨rfl, rfl⟩ | ⟨_, hr⟩
      · refine ⟨w.heap.size + 1, a.tmps, hm1Y, hWl, c.size, fun x hx => ?_⟩
        refine RepA.mono (N := [Y]) (fun _ _ hu => hu) hm1 (List.all_eq_true.1 hcY x hx) ?_
        obtain ⟨x0, hx0, rfl⟩ := List.mem_map.1 hx
        exact hcs x0 hx0 h m _ (c.env x0.1)
      · refine SimRow.mono (N := [Y]) (fun _ _ hu => hu) hm1 (hne id row hr) (hfY.2 id row (hsub id row hr)).2 (fun b hb => hWo b (hlt id row b hr hb)) (c.sim.rows id row (hsub id row hr))
    · rcases StL.get_cons_cases hr with ⟨rfl, rfl⟩ | ⟨_, hr⟩
      · rw [hm1Y] at hb
        simp only [blk, Option.some.injEq] at hb
        subst hb
        exact ⟨hnone _ (by omega), by omega⟩
      · rw [hm1 id (hne id row hr)] at hb
        obtain ⟨k1, k2⟩ := c.sim.sep id row b (hsub id row hr) hb
        exact ⟨k1, by omega⟩
    · rcases StL.get_cons_cases h1 with ⟨rfl, rfl⟩ | ⟨_, h1⟩
      · rcases StL.get_cons_cases h2 with ⟨rfl, rfl⟩ | ⟨_, h2⟩
        · rfl
        · rw [hm1Y] at h3
          simp only [blk, Option.some.injEq] at h3
          rw [hm1 id' (hne id' _ h2)] at h4
          have := hlt id' _ b h2 h4
          omega
      · rcases StL.get_cons_cases h2 with ⟨rfl, rfl⟩ | ⟨_, h2⟩
        · rw [hm1Y] at h4
          simp only [blk, Option.some.injEq] at h4
          rw [hm1 id (hne id _ h1)] at h3
          have := hlt id _ b h1 h3
          omega
        · rw [hm1 id (hne id _ h1)] at h3
          rw [hm1 id' (hne id' _ h2)] at h4
          exact c.sim.inj id id' _ _ b (hsub _ _ h1) (hsub _ _ h2) h3 h4
  have hargs : RepAs h m1 (fun j => (#[.func (.yield (w.heap.size + 1)) #[] #[]] ++ cv : Array Value)[j]?) 0 (AV.renL σ (.row y :: caps0)) := by
    show RepAs h m1 _ 0 (.row (σ y) :: AV.renL σ caps0)
    rw [hyY]
    simp only [RepAs]
    refine ⟨⟨.func (.yield (w.heap.size + 1)) #[] #[], (by show (#[Value.func (.yield (w.heap.size + 1)) #[] #[]] ++ cv : Array Value)[0]? = _; rw [Array.getElem?_append_left (Nat.lt_succ_self 0)]; rfl), ?_⟩, ?_⟩
    · simp only [RepA]; exact ⟨hm1Y.symm, rfl⟩
    · have := wv (g' := fun j => (#[.func (.yield (w.heap.size + 1)) #[] #[]] ++ cv : Array Value)[j]?) (d := 1) (fun j u hu => by
        show (#[Value.func (.yield (w.heap.size + 1)) #[] #[]] ++ cv : Array Value)[j + 1]? = some u
        rw [Array.getElem?_append_right (Nat.le_add_left 1 j)]
        simpa using hu) (hcaps h m1 _ 0 e3)
      simpa using this
  have hc := qY (H fn w.heap.size) (ok fn w.heap.size) (vs := #[.func (.yield (w.heap.size + 1)) #[] #[]] ++ cv) sim1 (by simp [e2, hcl0]; omega) hargs
  have hNN : ((StL.ids ((y, Row.loop k cs0) :: S')).filter zZ).map σ = (S'.ids.filter zZ).map σ := by simp [StL.ids, hyr]
  have hNN' : ((StL.ids ((y, Row.loop ⟨nt, fn, ps, assign, body, w.heap.size⟩ cs0) :: S')).filter zZ).map σ = (S'.ids.filter zZ).map σ := hNN
  rw [hNN'] at hc
  refine qo (ro := none) (Calls.mono hc ?_)
  rintro e w' ⟨v, h', m', rfl, k1, k2, k3, k4⟩
  rw [show (StL.ren σ ((y, Row.loop ⟨nt, fn, ps, assign, body, w.heap.size⟩ cs0) :: S')) = (Y, Row.loop k (cs0.map fun x => (x.1, x.2.ren σ))) :: S'.ren σ from hren'] at k2 k3
  rw [show (StL.ren σ ((y, Row.loop ⟨nt, fn, ps, assign, body, w.heap.size⟩ cs0) :: S)) = (Y, Row.loop k (cs0.map fun x => (x.1, x.2.ren σ))) :: S.ren σ from hren] at k3
  have hm'Y : m' Y = .func (.yield (w.heap.size + 1)) #[] #[] := (k4 Y hYN).trans hm1Y
  obtain ⟨l', arr, f1, f2, f3, f4⟩ : SimRow h' m' w' Y (.loop k (cs0.map fun x => (x.1, x.2.ren σ))) := k2.rows Y _ (by simp [StL.get])
  have hl' : l' = w.heap.size + 1 := by rw [hm'Y] at f1; simpa using f1.symm
  subst hl'
  have hblY : blk (m' Y) = some (w.heap.size + 1) := by rw [hm'Y]; rfl
  obtain ⟨g1, g2⟩ := k2.sep Y (.loop k (cs0.map fun x => (x.1, x.2.ren σ))) _ (by simp [StL.get]) hblY
  refine ⟨_, _, run_endLoop f2 (by simp [LoopK.obj]), ?_⟩
  show zdS nt h m st a w Q .normal _ _
  let m2 : zu := zB m' Y (m Y)
  have hm2 : ∀ id, id ∉ [Y] → m2 id = m' id := fun _ => zD
  have hm2N : ∀ id, id ∉ (S'.ids.filter zZ).map σ → m2 id = m id := fun id hid => by
    by_cases e : id = Y
    · subst e; exact zm _ _ _
    · rw [hm2 id (by simpa using e), k4 id hid, hm1 id (by simpa using e)]
  have hne' : ∀ id row, StL.get (S'.ren σ) id = some row → id ∉ [Y] := fun id row hr => by
    simp only [List.mem_singleton]; rintro rfl; exact hY2 (StL.mem_ids hr)
  have hnl : ∀ id row, StL.get (S'.ren σ) id = some row → blk (m' id) ≠ some (w.heap.size + 1) := fun id row hr hb => by
    have := k2.inj id Y row (.loop k (cs0.map fun x => (x.1, x.2.ren σ))) _ (StL.get_cons_of hY2 hr) (by simp [StL.get]) hb hblY
    exact hne' id row hr (by simp [this])
  have simF : Sim h' m2 (StL.get (S'.ren σ)) (w'.putObj (w.heap.size + 1) (.loop { (k.obj arr) with state := .exhausted })) := by
    have s1 : Sim h' m' (StL.get (S'.ren σ)) w' := k2.sub fun j row hj => StL.get_cons_of hY2 hj
    have s2 := s1.putObj (.loop { (k.obj arr) with state := .exhausted }) g1 hnl
    refine ⟨s2.imm, fun id row hr => SimRow.mono (N := [Y]) (fun _ _ hu => hu) hm2 (hne' id row hr) (hclY id row hr) (fun _ _ => rfl) (s2.rows id row hr), fun id row b hr hb => ?_, fun id id' r1 r2 b h1 h2 h3 h4 => ?_⟩
    · rw [hm2 id (hne' id row hr)] at hb; exact s2.sep id row b hr hb
    · rw [hm2 id (hne' id _ h1)] at h3; rw [hm2 id' (hne' id' _ h2)] at h4; exact s2.inj id id' _ _ b h1 h2 h3 h4
  have hkeep : ∀ b, b < w.heap.size → (∀ id row, StL.get (S.ren σ) id = some row → blk (m id) ≠ some b) → w'.heap[b]? = w.heap[b]? ∧ h' b = h b := fun b hb hn => by
    obtain ⟨q1, q2⟩ := k3.keep b (by omega) fun id row hr hbb => by
      rcases StL.get_cons_cases hr with ⟨rfl, rfl⟩ | ⟨_, hr⟩
      · rw [hm1Y] at hbb; simp only [blk, Option.some.injEq] at hbb; omega
      · rw [hm1 id (hne id row hr)] at hbb; exact hn id row hr hbb
    exact ⟨q1.trans (hWo b hb), q2⟩
  have footF : Foot h m (StL.get (S.ren σ)) w h' m2 (StL.get (S'.ren σ)) (w'.putObj (w.heap.size + 1) (.loop { (k.obj arr) with state := .exhausted })) := by
    have hos : W.os = w.os ∧ W.tape = w.tape ∧ W.output = w.output := by rw [hW]; exact ⟨rfl, rfl, rfl⟩
    have hsz := k3.size
    refine ⟨k3.os.trans hos.1, k3.tape.trans hos.2.1, k3.output.trans hos.2.2, by simp; omega, fun b hb hn => ?_, k3.grow, fun id row b hr hb => ?_⟩
    · rw [World.putObj_heap_other (by omega)]; exact hkeep b hb hn
    · rw [hm2 id (hne' id row hr)] at hb
      rcases k3.fresh id row b (StL.get_cons_of hY2 hr) hb with h | ⟨i, r, hi, hb'⟩
      · exact .inl (by omega)
      · rcases StL.get_cons_cases hi with ⟨rfl, rfl⟩ | ⟨_, hi⟩
        · rw [hm1Y] at hb'; simp only [blk, Option.some.injEq] at hb'; exact .inl (by omega)
        · rw [hm1 i (hne i _ hi)] at hb'; exact .inr ⟨i, r, hi, hb'⟩
  obtain ⟨simA, footA⟩ := jY (d := ⟨true, S.ren σ, r, S'.ren σ, (S.ren σ).ids, (S'.ids.filter zZ).map σ⟩) c.sim hfr hdok hsub simF footF hm2N
  have hBnot : ∀ id row, yG st (S.ren σ) (S'.ren σ) ((S'.ids.filter zZ).map σ) id = some row → blk (m2 id) ≠ some w.heap.size := fun id row hr hb => by
    rcases zaT hr with hr | ⟨_, h1, _, h2⟩
    · rw [hm2 id (hne' id row hr)] at hb
      rcases k3.fresh id row _ (StL.get_cons_of hY2 hr) hb with h | ⟨i, r, hi, hb'⟩
      · omega
      · rcases StL.get_cons_cases hi with ⟨rfl, rfl⟩ | ⟨_, hi⟩
        · rw [hm1Y] at hb'; simp only [blk, Option.some.injEq] at hb'; omega
        · rw [hm1 i (hne i _ hi)] at hb'; have := hlt i r _ hi hb'; omega
    · rw [hm2N id h1] at hb
      have := (c.sim.sep id row _ h2 hb).2
      omega
  have hBk : w'.heap[w.heap.size]? = some (.deferred (some [])) ∧ h' w.heap.size = none := by
    obtain ⟨q1, q2⟩ := k3.keep w.heap.size (by omega) fun id row hr hbb => by
      rcases StL.get_cons_cases hr with ⟨rfl, rfl⟩ | ⟨_, hr⟩
      · rw [hm1Y] at hbb; simp only [blk, Option.some.injEq] at hbb; omega
      · rw [hm1 id (hne id row hr)] at hbb; have := hlt id row _ hr hbb; omega
    exact ⟨q1.trans hWB, q2.trans (hnone _ (Nat.le_refl _))⟩
  have hmarks := c.defers.foot footA
  refine ⟨env, _, h', m2, hq, ⟨simA, c.size, ⟨?_, fun d hd => ?_⟩, fun t => RepA.mono footA.grow hm2N (hfr.1 t) (c.env t)⟩, ⟨footA, fun kk => hm2N _ fun hk => by have := hdok.loc _ hk; simp [Id.isLoc] at this⟩, fun d hd => ?_⟩
  · refine List.nodup_cons.2 ⟨fun hd => ?_, c.defers.nodup⟩
    obtain ⟨B, eB, hB, _⟩ := c.defers.all _ hd
    have : w.heap.size = B := by simpa using eB
    have := (Array.getElem?_eq_some_iff.1 hB).1
    omega
  · rcases List.mem_cons.1 hd with rfl | hd
    · refine ⟨w.heap.size, rfl, ?_, hBk.2, hBnot⟩
      rw [World.putObj_heap_other (by omega)]
      exact hBk.1
    · exact hmarks.all d hd
  · rcases List.mem_cons.1 hd with rfl | hd
    · exact .inr ⟨w.heap.size, rfl, Nat.le_refl _⟩
    · exact .inl hd
end
end Go.AL
set_option linter.unusedVariables false
set_option linter.unusedSimpArgs false
namespace Go.AL
open Go Go.RowKit
section
variable {P : Program}
theorem jP {nt B : Nat} {fn : FuncId} {ps : Array Tmp} {assign body : Code} {cs : EnvL} {args : List AV} {S S' : StL} {env0 : EnvL} {st0 : StO} (hps : (ps.toList.all fun p => decide (p < nt)) = true) (hlen : (decide (args.length = ps.size)) = true) (hrl : (Code.roundless assign && Code.roundless body) = true)
    (he : zfc ps.toList args cs = env0) (hs : S.map (fun x => (x.1, some x.2)) = st0)
    (H : CodeT P nt assign env0.get st0.get (zbZ P nt body (gQ nt (zbi S')))) : RoundT P ⟨nt, fn, ps, assign, body, B⟩ cs args S S' := by
  subst he; subst hs
  rw [kb] at H
  exact qU hps (of_decide_eq_true hlen) hrl H
theorem zfg {nt : Nat} {S' : StL} {env : EnvL} {st : StO} (h : zck st S') : gQ nt (zbi S') .normal env.get st.get := ⟨_, _, Ghost.refl _ _, fun id row hr => zf h _ (StL.get_mem hr)⟩
def zcH (env : EnvL) (σ : Id → Id) : EnvL → Prop
  | [] => True
  | x :: l => AVLE (env.get x.1) (x.2.ren σ) ∧ zcH env σ l
theorem qE {env : EnvL} {σ : Id → Id} : ∀ {l : EnvL}, zcH env σ l → ∀ x ∈ l, AVLE (env.get x.1) (x.2.ren σ)
  | [], _, x, h => by simp at h
  | y :: l, H, x, h => by
    rcases List.mem_cons.1 h with rfl | h
    · exact H.1
    · exact qE H.2 x h
theorem vM {nt : Nat} {g : Operand} {ps : Array Tmp} {assign body : Code} {f : FuncId} {caps caps0 : List AV} {cs0 : EnvL} {S S' R1 R2 : StL} {r : AV} {env : EnvL} {st st' : StO} {N : List Id} {Q : Exit → Env → zn → Prop} (y Y : Id) (l : List (Id × Id))
    (hf : yl (zk env.get g) = some (f, caps)) [hb : FnB P f]
    (H : ∀ fn B, Spec P f (.row y :: caps0) ((y, .loop ⟨nt, fn, ps, assign, body, B⟩ cs0) :: S) r ((y, .loop ⟨nt, fn, ps, assign, body, B⟩ cs0) :: S'))
    (hok : ∀ fn B, zbN ((y, .loop ⟨nt, fn, ps, assign, body, B⟩ cs0) :: S) ((y, .loop ⟨nt, fn, ps, assign, body, B⟩ cs0) :: S') r l = true)
    (hyr : (y2 y && Y.isLoc) = true) (hyY : yu l y = Y) (hcl0 : (decide (caps.length = caps0.length)) = true) (hcaps : ArgsLE caps (AV.renL (yu l) caps0)) (hcs : zcH env (yu l) cs0) (hcY : ((cs0.map fun x => (x.1, x.2.ren (yu l))).all fun x => x.2.clean [Y]) = true)
    (hR1 : S.ren (yu l) = R1) (hst : zck st R1) (hR2 : S'.ren (yu l) = R2) (hN : (S'.ids.filter zZ).map (yu l) = N) (hfr : zX N env st = true) (hfY : zX [Y] env st = true)
    (hids : (!R1.ids.contains Y && (!R2.ids.contains Y && (!N.contains Y && R2.all fun x => x.2.clean [Y]))) = true) (hs' : jK R1 R2 N st = st')
    (hq : Q .normal env.get st'.get) : CodeT P nt (.rangeFunc g ps assign body) env.get st.get Q := by
  simp only [Bool.and_eq_true, Bool.not_eq_true', List.contains_eq_mem, decide_eq_false_iff_not, List.all_eq_true] at hids hyr
  obtain ⟨i1, i2, i3, i4⟩ := hids
  obtain ⟨h1, h2⟩ := hyr
  have hloc : ∀ k ∈ S'.ids, zZ k = true → (yu l k).isLoc = true := fun k hk hr => (x4 (hok 0 0)).2.1 k (by simp [StL.ids]; exact .inr (by simpa [StL.ids] using hk)) hr
  have hdom : ∀ k ∈ S'.ids, k ∈ S.ids ∨ zZ k = true := fun k hk => by
    have hk' := hok 0 0
    unfold zbN at hk'
    simp only [Bool.and_eq_true, List.all_eq_true, Bool.or_eq_true, Bool.not_eq_true', decide_eq_false_iff_not, decide_eq_true_eq] at hk'
    rcases hk'.2.2.2.2 k (by simp [StL.ids]; exact .inr (by simpa [StL.ids] using hk)) with h | h
    · have hh : k ∈ StL.ids ((y, Row.loop ⟨nt, 0, ps, assign, body, 0⟩ cs0) :: S) := by simpa using h.2
      simp only [StL.ids, List.map_cons, List.mem_cons] at hh
      rcases hh with rfl | hh
      · exfalso
        have : Y ∈ R2.ids := by
          rw [← hR2, ← hyY]
          simp only [StL.ids, StL.ren, List.map_map, List.mem_map, Function.comp] at hk ⊢
          obtain ⟨x, hx, e⟩ := hk
          exact ⟨x, hx, by rw [e]⟩
        exact i2 this
      · exact .inl hh
    · exact .inr h
  subst hR1; subst hR2; subst hN; subst hs'
  refine qJ y Y (yu l) hf hb H (fun fn B => (x4 (hok fn B)).1) (by cases y <;> simp_all [y2, zZ]) hyY h2 (of_decide_eq_true hcl0) hcaps (qE hcs) hcY (fun id row hr => zf hst _ (StL.get_mem hr)) ⟨?_, fun id h1 h2 => absurd h1 h2, ?_⟩ (zH hfr) (zH hfY) i1 i2 i3 (fun id row hr => i4 _ (StL.get_mem hr)) ?_
  · intro id hid
    simp only [StL.ids, StL.ren, List.map_map, List.mem_map, Function.comp] at hid ⊢
    obtain ⟨x, hx, rfl⟩ := hid
    have hk : x.1 ∈ S'.ids := List.mem_map_of_mem hx
    rcases hdom x.1 hk with h | h
    · obtain ⟨y, hy, e⟩ := List.mem_map.1 h
      exact .inl ⟨y, hy, by rw [e]⟩
    · exact .inr ⟨x.1, by simpa using ⟨⟨x.2, hx⟩, h⟩, rfl⟩
  · intro id hid
    obtain ⟨k, hk, rfl⟩ := List.mem_map.1 hid
    rw [List.mem_filter] at hk
    exact hloc k hk.1 hk.2
  · rw [← xG]; exact hq
end
end Go.AL
set_option linter.unusedVariables false
namespace Go.AL
open Go Go.RowKit
section
variable {P : Program} {nt : Nat}
theorem zgu {a b : Nat × AV} {t : Nat} {v v' : Bool} (e : v = v') : [a, b, (t, AV.t (.bool v))] = [a, b, (t, AV.t (.bool v'))] := by rw [e]
end
end Go.AL
set_option linter.unusedVariables false
namespace Go.AL
open Go Go.RowKit
theorem xQ {P : Program} {fn : Func} {env : EnvL} {st : StO} {t u s : Nat} {x y z : AV} (hr : fn.results = #[.tmp t, .tmp u, .tmp s]) (hx : AVLE (env.get t) x) (hy : AVLE (env.get u) y) (hz : AVLE (env.get s) z) : zb2 P fn env.get st.get (.tup [x, y, z]) := fun nt h m a w c =>
  ⟨.tuple #[a.tmps.getD t undef, a.tmps.getD u undef, a.tmps.getD s undef], by simp [results, hr], #[a.tmps.getD t undef, a.tmps.getD u undef, a.tmps.getD s undef], rfl, rfl, by
    simp only [RepAs, and_true]
    exact ⟨⟨_, rfl, hx h m _ (c.env t)⟩, ⟨_, rfl, hy h m _ (c.env u)⟩, ⟨_, rfl, hz h m _ (c.env s)⟩⟩⟩
end Go.AL
set_option linter.unusedVariables false
namespace Go.AL
open Go Go.RowKit
theorem zbz {h : Heap} {m : zu} {g : Nat → Option Value} : ∀ {es : List T} {o : Nat}, (∀ e ∈ es, e.isAgg = false) → (RepAL h m g o (es.map AV.t) ↔ RepEs h g o 1 es)
  | [], o, _ => by simp [RepAL, RepEs]
  | e :: es, o, hc => by
    have ih := zbz (h := h) (m := m) (g := g) (es := es) (o := o + 1) (fun x hx => hc x (by simp [hx]))
    have h1 := hc e (by simp)
    cases e <;> simp [T.isAgg] at h1 <;> simp [RepAL, RepEs, RepA, ih, List.map_cons]
theorem RowLE.arr {ty : TypeId} {cs : List AV} {es : List T} (e : cs = es.map AV.t) (hc : ∀ x ∈ es, x.isAgg = false) : RowLE (.var ty cs) (.arr ty 1 es) := fun h m w id H => by
  subst e
  obtain ⟨b, arr, h1, h2, h3, h4⟩ := H
  exact ⟨b, arr, h1, h2, by simpa using h3, (zbz hc).1 h4⟩
section
variable {P : Program} {nt : Nat} {ops : Array Oper} {o : Oper} {rest : List Oper} {env : EnvL} {st : StO} {acc : List SD} {K : EnvL → StO → List SD → Prop} {d : Tmp}
theorem wL {α : Type} {f : α → T} {l : List α} {v : α} {ty : TypeId} {p x : Operand} {id : Id} {i sz : Nat} {aty : TypeId} {bytes : Nat} {z : Value} (ho : o.op = .store ty p x) (hp : zk env.get p = .ref id i sz 0) [ti : TyI P ty sz bytes z] (hst : StO.get st id = some (.arr aty sz (l.map f))) (hx : zk env.get x = .t (f v)) (hd : o.dst = none) (hg : zj ops o env = true) (hy : (f v).cells.length = sz) (hi : i < l.length)
    (H : LexP P nt ops rest env ((id, some (.arr aty sz ((l.set i v).map f))) :: st) (⟨true, [(id, .arr aty sz (l.map f))], .junk, [(id, .arr aty sz ((l.set i v).map f))], [id], []⟩ :: acc) K) : LexP P nt ops (o :: rest) env st acc K := by
  refine jp ho hp hx hst hd hg hy (by simpa using hi) ?_
  rw [show (l.map f).set i (f v) = (l.set i v).map f by simp]
  exact H
end
theorem PartsOK.mono {place place' : Nat → Option (Nat × Nat)} (hm : ∀ i p, place i = some p → place' i = some p) {ρ : Operand → AV} {n : Nat} : ∀ {ps : List (Nat × Operand)} {qs : List (Nat × AV)}, PartsOK place ρ n ps qs → PartsOK place' ρ n ps qs
  | [], [], H => H
  | (i, x) :: ps, (off, y) :: qs, H => ⟨⟨H.1.1, H.1.2.1, hm _ _ H.1.2.2.1, H.1.2.2.2⟩, PartsOK.mono hm H.2⟩
  | [], _ :: _, H => H.elim
  | _ :: _, [], H => H.elim
section
variable {P : Program} {nt : Nat} {ops : Array Oper} {o : Oper} {rest : List Oper} {env : EnvL} {st : StO} {acc : List SD} {K : EnvL → StO → List SD → Prop} {d : Nat}
end
end Go.AL
set_option linter.unusedVariables false
namespace Go.AL
open Go Go.RowKit
section
variable {P : Program} {nt : Nat} {ops : Array Oper} {o : Oper} {rest : List Oper} {env : EnvL} {st : StO} {acc : List SD} {K : EnvL → StO → List SD → Prop} {d : Nat}
end
end Go.AL
set_option linter.unusedVariables false
set_option linter.unusedSimpArgs false
namespace Go.AL
open Go Go.RowKit
class Lies (P : Program) (e : TypeId) (n : Nat) (u : TypeId) : Prop where
  h : liesAt P P.depth e (n / P.cellsOf e) 0 u 1 = true
class CellsOf (P : Program) (e : TypeId) (n : Nat) : Prop where
  h : P.cellsOf e = n
class NoEsc (P : Program) (f : FuncId) : Prop where
  h : ∀ (x : Value) (w : World), (callFunc f #[x]).run P w = .ok (.value x) w
theorem NoEsc.of {P : Program} {f : FuncId} {fn : Func} (hf : P.funcs[f]? = some fn) (hname : (fn.name == "runtime.NumGoroutine") = false)
    (hb : fn.body.isNone = true) (hn : Extern.findNext fn = none) (he : Extern.find fn = some Extern.AbiNoEscape.same) : NoEsc P f :=
  ⟨fun x w => by rw [run_callFunc_extern hf hname hb hn he]; rfl⟩
section
variable {P : Program} {o : Oper} {ρ : Operand → AV}
end
section
variable {P : Program} {nt : Nat} {ops : Array Oper} {o : Oper} {rest : List Oper} {env : EnvL} {st : StO} {acc : List SD} {K : EnvL → StO → List SD → Prop} {d : Nat}
end
end Go.AL
set_option linter.unusedVariables false
namespace Go.AL
open Go Go.RowKit
end Go.AL
set_option linter.unusedVariables false
set_option linter.unusedSimpArgs false
namespace Go.AL
open Go Go.RowKit
def zf2 (P : Program) (ty : TypeId) : Bool := !P.stoodInHeld ty && !P.eqGuardType P.depth ty
theorem zfX (s t : ByteArray) : (s == t) = decide (s = t) := by
  cases s with | mk a => cases t with | mk b =>
  rw [Bool.eq_iff_iff]
  simp only [decide_eq_true_eq, ByteArray.mk.injEq, BEq.beq]
  unfold ByteArray.beq
  simp
section
variable {P : Program} {o : Oper} {ρ : Operand → AV}
end
section
variable {P : Program} {nt : Nat} {ops : Array Oper} {o : Oper} {rest : List Oper} {env : EnvL} {st : StO} {acc : List SD} {K : EnvL → StO → List SD → Prop} {d : Nat}
end
end Go.AL
set_option linter.unusedVariables false
namespace Go.AL
open Go Go.RowKit
theorem wC {G G' : Prop} (k : G') (h : G' → G := by intro h; (first | (with_reducible refine zcW ?_) | (with_reducible refine zaH ?_) | (with_reducible refine zbF ?_) | (with_reducible refine zcT ?_) | (with_reducible refine zbS ?_) | (with_reducible refine kK ?_) | ((with_reducible refine w5 ?_ ?_); · rfl) | (with_reducible refine zfO ?_) | (with_reducible refine zfR ?_) | (with_reducible refine zam ?_) | (with_reducible refine zcn ?_) | (with_reducible refine zeR ?_) | (with_reducible refine zaO ?_) | ((with_reducible refine jJ ?_ ?_); · rfl) | (with_reducible refine za7 ?_) | (with_reducible refine zbW ?_) | ((with_reducible refine kq ?_ ?_); · rfl) | refine ze0 rfl ?_ | refine zeU rfl ?_); exact h) : G := h k
theorem wK {G G' : Prop} (k : G') (h : G' → G := by intro h; (first | ((with_reducible refine zeI ?_); first | refine ze5 rfl rfl rfl ?_) | ((with_reducible refine zfx ?_); first | refine qv (r := (.t _)) rfl rfl rfl rfl rfl ?_ | refine qv (r := (.ref _ _ _ _)) rfl rfl rfl rfl rfl ?_ | refine qv (r := (.row _)) rfl rfl rfl rfl rfl ?_ | refine qv (r := (.tup _)) rfl rfl rfl rfl rfl ?_ | refine qv (r := (.fn _ _)) rfl rfl rfl rfl rfl ?_) | ((with_reducible refine jU ?_); first | refine zat rfl rfl rfl rfl rfl rfl rfl rfl ?_ | refine vy (r := (.t (.agg _))) rfl rfl rfl rfl rfl rfl rfl rfl rfl ?_ | refine vy (r := (.agg _)) rfl rfl rfl rfl rfl rfl rfl rfl rfl ?_ | refine zbQ rfl rfl rfl rfl rfl rfl rfl ?_ | refine zae rfl rfl rfl rfl rfl rfl rfl rfl ?_) | ((with_reducible refine zaR ?_); first | refine je rfl rfl rfl rfl rfl rfl rfl ?_ | refine vU rfl rfl rfl rfl rfl rfl rfl ?_) | ((with_reducible refine xu ?_); first | refine zdZ rfl rfl rfl rfl rfl rfl rfl ?_ | refine zcZ rfl rfl rfl rfl rfl rfl ?_ | refine zdy rfl rfl rfl rfl rfl rfl ?_ | refine zbT rfl rfl rfl rfl rfl rfl ?_ | refine zbH rfl rfl rfl rfl rfl rfl ?_ | refine zaA rfl rfl rfl rfl rfl rfl rfl ?_ | refine zer rfl rfl rfl rfl rfl rfl (by decide) ?_ | refine zdm rfl rfl rfl rfl rfl rfl (by decide) ?_ | refine zes rfl rfl rfl rfl rfl rfl (by decide) ?_ | refine zfI rfl rfl rfl rfl rfl rfl (by decide) ?_) | ((with_reducible refine zd2 ?_); first | refine xF (r := (.t _)) rfl rfl rfl rfl rfl ?_ | refine xF (r := (.ref _ _ _ _)) rfl rfl rfl rfl rfl ?_ | refine xF (r := (.row _)) rfl rfl rfl rfl rfl ?_ | refine xF (r := (.fn _ _)) rfl rfl rfl rfl rfl ?_ | refine xF (r := .junk) rfl rfl rfl rfl rfl ?_) | ((with_reducible refine zfU ?_); first | refine zd5 (r := (.t _)) rfl rfl rfl rfl rfl rfl ?_ | refine zdQ (r := (.t _)) rfl rfl rfl rfl rfl rfl ?_) | ((with_reducible refine zgf ?_); first | refine zdg (r := (.t (.agg _))) (cs := (List.map .t _)) rfl rfl rfl rfl rfl rfl rfl rfl rfl ?_ | refine zdg (r := (.t _)) (cs := [.t _]) rfl rfl rfl rfl rfl rfl rfl rfl rfl ?_ | refine zdg (r := (.row _)) (cs := [.row _]) rfl rfl rfl rfl rfl rfl rfl rfl rfl ?_) | ((with_reducible refine zfn ?_); first | refine zdL rfl rfl rfl rfl rfl rfl rfl ?_) | ((with_reducible refine xK ?_); first | refine y7 (r := (.t (.agg _))) rfl rfl rfl rfl rfl rfl rfl rfl rfl rfl ?_ | refine y7 (r := (.t _)) rfl rfl rfl rfl rfl rfl rfl rfl rfl rfl ?_ | refine y7 (r := (.agg _)) rfl rfl rfl rfl rfl rfl rfl rfl rfl rfl ?_ | refine y7 (r := (.row _)) rfl rfl rfl rfl rfl rfl rfl rfl rfl rfl ?_) | ((with_reducible refine zbI ?_); first | refine zaS (r := (.ref _ _ _ _)) rfl rfl rfl rfl rfl rfl ?_) | ((with_reducible refine zfy ?_); first | refine zfV rfl rfl rfl rfl rfl ?_ | refine zfF rfl rfl rfl rfl rfl ?_ | refine zf1 rfl rfl rfl rfl rfl ?_) | ((with_reducible refine qi ?_); first | refine za0 rfl rfl rfl rfl rfl ?_) | ((with_reducible refine zdF ?_); first | refine zcl rfl rfl rfl rfl rfl rfl ?_) | ((with_reducible refine zcf ?_); first | refine za5 rfl rfl rfl rfl rfl ?_) | ((with_reducible refine jX ?_); first | refine kM rfl rfl rfl rfl rfl rfl rfl ?_) | ((with_reducible refine zeF ?_); first | refine zdP (r := (.t (.agg _))) rfl rfl rfl rfl rfl rfl rfl ?_) | ((with_reducible refine zgd ?_); first | refine zbJ rfl rfl rfl rfl rfl ?_ | refine k7 rfl rfl rfl rfl rfl ?_ | refine zb6 rfl rfl rfl rfl rfl ?_ | refine kv rfl rfl rfl rfl rfl rfl ?_) | ((with_reducible refine zdx ?_); first | refine zb9 rfl rfl rfl rfl rfl ?_) | ((with_reducible refine zf7 ?_); first | refine zfN rfl rfl rfl rfl rfl rfl ?_)); exact h) : G := h k
theorem wT {a b : T} (h : TLe a b := by repeat first | exact TLe.refl _ | exact TLe.slq _ _ | exact TLe.nil _ | exact TLe.esl _ | refine TLe.agg ?_ | refine TLs.cons ?_ ?_ | exact TLs.nil) : TLe a b := h
theorem wA {a b : List AV} (h : ArgsLE a b := by repeat first | exact ArgsLE.nil | refine ArgsLE.cons (AVLE.refl _) ?_ | refine ArgsLE.t wT ?_) : ArgsLE a b := h
end Go.AL
