/- The layer of abstract values, third part: the steps of a walk, and what a law needs of its arguments; each under the conditions that its own theorem names. -/
import Derived.Test.YtmidabiehblekaaGreatDoorAl2
import Derived.SizedLaws
import Derived.OpenShut
import Derived.Carry
import Derived.SliceStrings
import Derived.MapKept
import Derived.Laws.Cover3
import Derived.Lib.Builder
import Derived.Lib.UnsafeStr
import Derived.Laws.Externs
set_option linter.unusedVariables false
set_option linter.unusedSimpArgs false
namespace Go.AL
open Go Go.RowKit
abbrev StO := List (Id × Option Row)
def StO.get : StO → zG
  | [], _ => none
  | (i, r) :: l, id => if i = id then r else StO.get l id
def zlw (N : List Id) : Option Row → Bool
  | none => true
  | some r => r.clean N
def zhO (N : List Id) : EnvL → Bool
  | [] => true
  | (_, x) :: l => x.clean N && zhO N l
def zaW (N : List Id) : StO → Bool
  | [] => true
  | (i, r) :: l => !N.contains i && zlw N r && zaW N l
theorem zbV {N : List Id} : ∀ {l : EnvL}, zhO N l = true → ∀ t, (EnvL.get l t).clean N = true
  | [], _, t => rfl
  | (i, x) :: l, h, t => by
    simp only [zhO, Bool.and_eq_true] at h
    simp only [EnvL.get]
    split
    · exact h.1
    · exact zbV h.2 t
theorem zbn {N : List Id} : ∀ {l : StO}, zaW N l = true → ∀ id row, StO.get l id = some row → id ∉ N ∧ row.clean N = true
  | [], _, id, row, h => by simp [StO.get] at h
  | (i, r) :: l, h, id, row, hr => by
    simp only [zaW, Bool.and_eq_true, Bool.not_eq_true'] at h
    simp only [StO.get] at hr
    split at hr
    · rename_i e
      subst e
      rw [hr] at h
      exact ⟨by simpa using h.1.1, h.1.2⟩
    · exact zbn h.2 id row hr
def xg (N : List Id) (env : EnvL) (st : StO) : Bool := zhO N env && zaW N st
theorem yO {N : List Id} {env : EnvL} {st : StO} (h : xg N env st = true) : qG N env.get st.get := by
  simp only [xg, Bool.and_eq_true] at h
  exact ⟨zbV h.1, zbn h.2⟩
theorem wG (env : Env) (st : zG) : qG [] env st := by
  refine ⟨fun t => ?_, fun id row h => ⟨by simp, ?_⟩⟩
  · have := (vR [env t]).1
    simpa [AV.cleanL] using this
  · cases row with
    | var ty cs => exact (vR cs).1
    | slt => rfl
    | arr => rfl
    | dat => rfl
    | loop k cs =>
      simp only [Row.clean, List.all_eq_true]
      intro x _
      have := (vR [x.2]).1
      simpa [AV.cleanL] using this
section
variable {P : Program} {nt : Nat} {ops : Array Oper}
inductive LexP (P : Program) (nt : Nat) (ops : Array Oper) : List Oper → EnvL → StO → List SD → (EnvL → StO → List SD → Prop) → Prop
  | nil {env : EnvL} {st : StO} {acc : List SD} {K : EnvL → StO → List SD → Prop} (h : K env st acc) : LexP P nt ops [] env st acc K
  | cons {o : Oper} {rest : List Oper} {env env' : EnvL} {st st' : StO} {acc : List SD} {K : EnvL → StO → List SD → Prop} {d : SD} (h1 : StepOK P nt ops o d env.get st.get) (h2 : env'.get = yp o d env.get) (h3 : st'.get = yG d st.get) (h4 : LexP P nt ops rest env' st' (d :: acc) K) : LexP P nt ops (o :: rest) env st acc K
theorem LexP.ex {o : Oper} {rest : List Oper} {env : EnvL} {st : StO} {acc : List SD} {K : EnvL → StO → List SD → Prop} (h : ∃ d env' st', StepOK P nt ops o d env.get st.get ∧ env'.get = yp o d env.get ∧ st'.get = yG d st.get ∧ LexP P nt ops rest env' st' (d :: acc) K) : LexP P nt ops (o :: rest) env st acc K :=
  let ⟨_, _, _, h1, h2, h3, h4⟩ := h
  .cons h1 h2 h3 h4
theorem zca : ∀ {l : List Oper} {env : EnvL} {st : StO} {acc : List SD} {K : EnvL → StO → List SD → Prop} {k : Nat}, (∀ j, l[j]? = ops[k + j]?) → acc.length = k → LexP P nt ops l env st acc K →
    ∃ env' st' accF, K env' st' accF ∧ (∃ more, accF = more ++ acc) ∧ accF.length = k + l.length ∧ Run P nt ops (fun i => accF.reverse.getD i default) (List.range' k l.length) env.get st.get env'.get st'.get
  | [], env, st, acc, K, k, hl, ha, .nil H => ⟨env, st, acc, H, ⟨[], rfl⟩, by simp [ha], by simpa using Run.nil _ _⟩
  | o :: l, env, st, acc, K, k, hl, ha, .cons (env' := env1) (st' := st1) (d := d) h1 h2 h3 h4 => by
    obtain ⟨env', st', accF, k1, ⟨more, k2⟩, k3, k4⟩ := zca (k := k + 1) (fun j => by have := hl (j + 1); simpa [Nat.add_assoc, Nat.add_comm 1 j] using this) (by simp [ha]) h4
    refine ⟨env', st', accF, k1, ⟨more ++ [d], by simp [k2]⟩, by simp [k3]; omega, ?_⟩
    have hd : accF.reverse.getD k default = d := by
      rw [k2]
      simp [List.getD_eq_getElem?_getD, ha]
    rw [List.length_cons, List.range'_succ]
    have ho : ops[k]? = some o := by simpa using (hl 0).symm
    refine Run.cons ho (by rw [hd]; exact h1) ?_
    rw [hd, ← h2, ← h3]
    exact k4
theorem jN {id : Nat} {l : List Oper} {env : EnvL} {st : StO} {Q : Exit → Env → zG → Prop} (H : LexP P nt l.toArray l env st [] (fun env' st' _ => Q .normal env'.get st'.get)) : CodeT P nt (.region id l.toArray false) env.get st.get Q := by
  obtain ⟨env', st', accF, k1, _, _, k4⟩ := zca (ops := l.toArray) (k := 0) (by simp) rfl H
  refine ze5 (D := fun i => accF.reverse.getD i default) (env' := env'.get) (st' := st'.get) ?_ k1
  rw [← List.range_eq_range'] at k4
  simpa using k4
def zhz (ms : List Nat) (o : Oper) : Nat := o.after.toList.foldl (fun s e => if Region.binds .any e then s ||| 2 ^ e.on ||| ms.getD e.on 0 else s) 0
def zlF : List Oper → List Nat → List Nat
  | [], ms => ms
  | o :: l, ms => zlF l (ms ++ [zhz ms o])
theorem zgG {ms : List Nat} {o : Oper} {i k : Nat} (ho : ops[i]? = some o) (hms : ∀ j k, (ms.getD j 0).testBit k = true → Anc ops k j) (h : (zhz ms o).testBit k = true) : Anc ops k i := by
  unfold zhz at h
  have key : ∀ (l : List Edge) (s : Nat), (∀ e ∈ l, e ∈ o.after) → (s.testBit k = true → Anc ops k i) → (l.foldl (fun s e => if Region.binds .any e then s ||| 2 ^ e.on ||| ms.getD e.on 0 else s) s).testBit k = true → Anc ops k i := by
    intro l
    induction l with
    | nil => intro s _ hs h; exact hs h
    | cons e l ih =>
      intro s hl hs h
      refine ih _ (fun e' he' => hl e' (by simp [he'])) ?_ h
      intro hb
      simp only at hb
      split at hb
      · rename_i hbind
        simp only [Nat.testBit_or, Bool.or_eq_true] at hb
        rcases hb with (hb | hb) | hb
        · exact hs hb
        · have : e.on = k := by
            rw [Nat.testBit_two_pow] at hb
            simpa using hb
          exact .edge ho (hl e (by simp)) hbind this
        · exact .step ho (hl e (by simp)) hbind (hms e.on k hb)
      · exact hs hb
  exact key o.after.toList 0 (fun e he => by simpa using he) (by simp) h
theorem zdx : ∀ {l : List Oper} {ms : List Nat}, (∀ j, l[j]? = ops[ms.length + j]?) → (∀ j k, (ms.getD j 0).testBit k = true → Anc ops k j) → ∀ j k, ((zlF l ms).getD j 0).testBit k = true → Anc ops k j
  | [], ms, _, h => h
  | o :: l, ms, hl, h => by
    refine zdx (l := l) (ms := ms ++ [zhz ms o]) (fun j => ?_) fun j k hb => ?_
    · have := hl (j + 1)
      simpa [Nat.add_assoc, Nat.add_comm 1 j] using this
    · rw [List.getD_eq_getElem?_getD, List.getElem?_append] at hb
      split at hb
      · exact h j k (by rw [List.getD_eq_getElem?_getD]; exact hb)
      · rename_i hj
        rcases Nat.lt_or_ge (j - ms.length) 1 with h1 | h1
        · have e : j = ms.length := by omega
          subst e
          simp at hb
          exact zgG (by simpa using (hl 0).symm) h hb
        · rw [List.getElem?_eq_none (by simpa using h1)] at hb
          simp at hb
def znS (d : SD) (N : List Id) : Bool := d.r.clean N && d.R'.all fun x => !N.contains x.1 && x.2.clean N
def znE (a b : List Id) : Bool := a.all fun x => !b.contains x
def zgn (ops : Array Oper) (ok oi : Oper) (dk di : SD) : Bool := ok.apart ops oi && znE dk.W di.R.ids && znE di.W dk.R.ids && znE dk.N di.R.ids && znE dk.N di.N
theorem zfB {d : SD} {N : List Id} (h : znS d N = true) : qd d N := by
  simp only [znS, Bool.and_eq_true, List.all_eq_true, Bool.not_eq_true'] at h
  refine ⟨h.1, fun id row hr => ?_⟩
  have := h.2 _ (StL.get_mem hr)
  exact ⟨by simpa using this.1, this.2⟩
theorem jP {a b : List Id} (h : znE a b = true) : ∀ id, id ∈ a → id ∉ b := by
  simp only [znE, List.all_eq_true, Bool.not_eq_true'] at h
  exact fun id hid => by simpa using h id hid
theorem zfb {ok oi : Oper} {dk di : SD} (h : zgn ops ok oi dk di = true) : Compat ops ok oi dk di := by
  simp only [zgn, Bool.and_eq_true] at h
  exact ⟨h.1.1.1.1, jP h.1.1.1.2, jP h.1.1.2, jP h.1.2, jP h.2⟩
def zmM (ops : Array Oper) (ms : List Nat) (xs : List (Nat × Oper × SD)) : Bool :=
  xs.all fun (i, oi, di) => xs.all fun (k, ok, dk) =>
    if k < i then (ms.getD i 0).testBit k || (zgn ops ok oi dk di && znS di dk.N && znS dk di.N)
    else true
def znp (xs : List (Nat × Oper × SD)) : Bool :=
  xs.all fun (i, oi, di) => xs.all fun (k, ok, dk) => if k < i then znS dk di.N else true
def znc (xs : List (Nat × Oper × SD)) : Bool := xs.all fun (i, oi, di) => oi.after.toList.all fun e => !Region.binds .any e || decide (e.on < i)
def znC : Nat → List Oper → List SD → List (Nat × Oper × SD)
  | k, o :: l, d :: ds => (k, o, d) :: znC (k + 1) l ds
  | _, _, _ => []
theorem zhm : ∀ {l : List Oper} {ds : List SD} {k j : Nat} {o : Oper}, l.length = ds.length → l[j]? = some o → (k + j, o, ds.getD j default) ∈ znC k l ds
  | [], _, _, _, _, _, h => by simp at h
  | o :: l, [], _, _, _, hl, _ => by simp at hl
  | o :: l, d :: ds, k, 0, o', hl, h => by simp at h; subst h; simp [znC]
  | o :: l, d :: ds, k, j + 1, o', hl, h => by
    have := zhm (l := l) (ds := ds) (k := k + 1) (j := j) (by simpa using hl) (by simpa using h)
    simp only [znC, List.mem_cons]
    right
    rw [show k + (j + 1) = k + 1 + j from by omega]
    simpa [List.getD_eq_getElem?_getD] using this
def zeC (l : List Oper) (ds : List SD) (env : EnvL) (st : StO) : Bool :=
  let xs := znC 0 l ds
  znc xs && znp xs && zmM l.toArray (zlF l []) xs && ds.all fun d => xg d.N env st
theorem jJ {id : Nat} {l : List Oper} {env : EnvL} {st : StO} {Q : Exit → Env → zG → Prop} (hm : P.follows .mixedOrders = true) (H : LexP P nt l.toArray l env st [] (fun env' st' acc => zeC l acc.reverse env st = true ∧ Q .normal env'.get st'.get)) : CodeT P nt (.region id l.toArray true) env.get st.get Q := by
  obtain ⟨env', st', accF, ⟨c, k1⟩, _, k3, k4⟩ := zca (ops := l.toArray) (k := 0) (by simp) rfl H
  have hlen : l.length = accF.reverse.length := by simp [k3]
  have get : ∀ i o, l.toArray[i]? = some o → (i, o, accF.reverse.getD i default) ∈ znC 0 l accF.reverse := fun i o ho => by
    have := zhm (k := 0) (j := i) hlen (by simpa using ho)
    simpa using this
  simp only [zeC, Bool.and_eq_true] at c
  obtain ⟨⟨⟨c1, c2⟩, c3⟩, c4⟩ := c
  have hmask : ∀ j k, ((zlF l []).getD j 0).testBit k = true → Anc l.toArray k j := zdx (ops := l.toArray) (l := l) (ms := []) (by simp) (by simp)
  have pair : ∀ k i ok oi, l.toArray[k]? = some ok → l.toArray[i]? = some oi → k < i → Anc l.toArray k i ∨ (Compat l.toArray ok oi (accF.reverse.getD k default) (accF.reverse.getD i default) ∧ qd (accF.reverse.getD i default) (accF.reverse.getD k default).N) := fun k i ok oi hk hi hlt => by
    have := List.all_eq_true.1 (List.all_eq_true.1 c3 _ (get i oi hi)) _ (get k ok hk)
    simp only [hlt, if_true, Bool.or_eq_true, Bool.and_eq_true] at this
    rcases this with h | ⟨⟨h1, h2⟩, h3⟩
    · exact .inl (hmask i k h)
    · exact .inr ⟨zfb h1, zfB h2⟩
  refine zaa (D := fun i => accF.reverse.getD i default) (env' := env'.get) (st' := st'.get) hm ⟨?_, ?_, ?_⟩ ?_ ?_ k1
  · intro i o ho e he hb
    have := List.all_eq_true.1 (List.all_eq_true.1 c1 _ (get i o ho)) e (by simpa using he)
    simpa [hb] using this
  · intro i j oi oj hi hj hne
    rcases Nat.lt_or_ge j i with h | h
    · rcases pair j i oj oi hj hi h with h1 | ⟨_, h2⟩
      · exact .inl h1
      · exact .inr h2
    · have hlt : i < j := by omega
      have := List.all_eq_true.1 (List.all_eq_true.1 c2 _ (get j oj hj)) _ (get i oi hi)
      simp only [hlt, if_true] at this
      exact .inr (zfB this)
  · intro k i ok oi hk hi hlt
    rcases pair k i ok oi hk hi hlt with h1 | ⟨h2, _⟩
    · exact .inl h1
    · exact .inr h2
  · intro j hj
    have hj' : j < l.length := by simpa using hj
    have := List.all_eq_true.1 c4 (accF.reverse.getD j default) (by
      rw [List.getD_eq_getElem?_getD, List.getElem?_eq_getElem (by omega)]
      exact List.getElem_mem _)
    exact yO this
  · rw [← List.range_eq_range'] at k4
    simpa using k4
theorem xJ (d : Nat) (r : AV) (env : EnvL) : EnvL.get ((d, r) :: env) = qP env.get (some d) r := by
  funext t
  simp only [EnvL.get, qP, Option.some.injEq]
def zgc (R R' : StL) (N : List Id) (st : StO) : StO := R'.map (fun x => (x.1, some x.2)) ++ R.map (fun x => (x.1, none)) ++ N.map (fun i => (i, none)) ++ st
theorem StO.get_nones : ∀ {l : List Id} {b : StO} {id : Id}, StO.get (l.map (fun i => (i, (none : Option Row))) ++ b) id = if id ∈ l then none else StO.get b id
  | [], b, id => by simp
  | i :: l, b, id => by
    simp only [List.map_cons, List.cons_append, StO.get, List.mem_cons]
    by_cases e : i = id
    · simp [e]
    · rw [if_neg e, StO.get_nones]
      have : ¬ id = i := fun h => e h.symm
      simp [this]
theorem StO.get_somes : ∀ {l : StL} {b : StO} {id : Id}, StO.get (l.map (fun x => (x.1, some x.2)) ++ b) id = match StL.get l id with | some r => some r | none => StO.get b id
  | [], b, id => by simp [StL.get]
  | (i, r) :: l, b, id => by
    simp only [List.map_cons, List.cons_append, StO.get, StL.get]
    by_cases e : i = id
    · simp [e]
    · rw [if_neg e, if_neg e, StO.get_somes]
theorem jI (R R' : StL) (N : List Id) (st : StO) : StO.get (zgc R R' N st) = xO st.get R R' N := by
  funext id
  unfold zgc xO
  rw [List.append_assoc, List.append_assoc, StO.get_somes]
  cases StL.get R' id with
  | some r => rfl
  | none =>
    simp only
    have e : R.map (fun x => (x.1, (none : Option Row))) = R.ids.map (fun i => (i, none)) := by simp [StL.ids]
    rw [e, StO.get_nones, StO.get_nones]
    by_cases h1 : id ∈ R.ids <;> by_cases h2 : id ∈ N <;> simp [h1, h2]
variable {o : Oper} {rest : List Oper} {env : EnvL} {st : StO} {acc : List SD} {K : EnvL → StO → List SD → Prop}
theorem zlh {r : AV} {d : Nat} (hT : OpT P o (zE env.get) (StL.get []) r (StL.get []) []) (hd : o.dst = some d) (hn : d < nt) (hw : q8 ops o env.get)
    (H : LexP P nt ops rest ((d, r) :: env) st (⟨true, [], r, [], [], []⟩ :: acc) K) : LexP P nt ops (o :: rest) env st acc K :=
  LexP.ex ⟨⟨true, [], r, [], [], []⟩, _, _, ⟨(fun t ht => by rw [hd] at ht; cases ht; exact hn), fun _ => ⟨hw, hT⟩, (fun h => by cases h), (fun id row hr => by simp [StL.get] at hr), ⟨(fun id h => by simp [StL.ids] at h), (fun id h => by simp [StL.ids] at h), (fun id h => by simp at h)⟩, wG _ _⟩, (by rw [xJ]; unfold yp; rw [hd]), (by unfold yG; exact (zbQ _).symm), H⟩
theorem zas {st : zG} {id : Id} {row : Row} (h : st id = some row) : xO st [(id, row)] [(id, row)] [] = st := by
  funext x
  simp only [xO, StL.get]
  by_cases e : id = x
  · subst e; simp [h]
  · have : ¬ x = id := fun h => e h.symm
    simp [e, StL.ids, this]
theorem zla {id : Id} {row : Row} {r : AV} {d : Nat} (hst : StO.get st id = some row) (hT : OpT P o (zE env.get) (StL.get [(id, row)]) r (StL.get [(id, row)]) []) (hd : o.dst = some d) (hn : d < nt) (hw : q8 ops o env.get)
    (H : LexP P nt ops rest ((d, r) :: env) st (⟨true, [(id, row)], r, [(id, row)], [], []⟩ :: acc) K) : LexP P nt ops (o :: rest) env st acc K :=
  LexP.ex ⟨⟨true, [(id, row)], r, [(id, row)], [], []⟩, _, _, ⟨(fun t ht => by rw [hd] at ht; cases ht; exact hn), fun _ => ⟨hw, hT⟩, (fun h => by cases h), (fun x row' hr => by
      simp only [StL.get] at hr
      split at hr
      · rename_i e; cases hr; rw [← e]; exact hst
      · cases hr), ⟨fun id h => .inl h, fun id _ _ => rfl, fun id h => by simp at h⟩, wG _ _⟩, (by rw [xJ]; unfold yp; rw [hd]), (by unfold yG; exact (zas hst).symm), H⟩
theorem zmW {id : Id} {row : Row} {r : AV} {d : Nat} (hT : OpT P o (zE env.get) (StL.get []) r (StL.get [(id, row)]) [id]) (hd : o.dst = some d) (hn : d < nt) (hw : q8 ops o env.get) (hloc : id.isLoc = true) (hfr : xg [id] env st = true)
    (H : LexP P nt ops rest ((d, r) :: env) ((id, some row) :: st) (⟨true, [], r, [(id, row)], [], [id]⟩ :: acc) K) : LexP P nt ops (o :: rest) env st acc K :=
  LexP.ex ⟨⟨true, [], r, [(id, row)], [], [id]⟩, _, _, ⟨(fun t ht => by rw [hd] at ht; cases ht; exact hn), fun _ => ⟨hw, hT⟩, (fun h => by cases h), (fun x row' hr => by simp [StL.get] at hr), ⟨(fun x h => by simp [StL.ids] at h; exact .inr (by simp [h])), (fun x h => by simp [StL.ids] at h), (fun x h => by simp at h; rw [h]; exact hloc)⟩, yO hfr⟩, (by rw [xJ]; unfold yp; rw [hd]), (by
      unfold yG
      funext x
      simp only [StO.get, xO, StL.get]
      by_cases e : id = x
      · simp [e]
      · have : ¬ x = id := fun h => e h.symm
        simp [e, this, StL.ids]), H⟩
theorem zkw {id : Id} {row row' : Row} {r : AV} (hst : StO.get st id = some row) (hT : OpT P o (zE env.get) (StL.get [(id, row)]) r (StL.get [(id, row')]) []) (hd : o.dst = none) (hw : q8 ops o env.get)
    (H : LexP P nt ops rest env ((id, some row') :: st) (⟨true, [(id, row)], r, [(id, row')], [id], []⟩ :: acc) K) : LexP P nt ops (o :: rest) env st acc K :=
  LexP.ex ⟨⟨true, [(id, row)], r, [(id, row')], [id], []⟩, _, _, ⟨(fun t ht => by rw [hd] at ht; cases ht), fun _ => ⟨hw, hT⟩, (fun h => by cases h), (fun x row1 hr => by
      simp only [StL.get] at hr
      split at hr
      · rename_i e; cases hr; rw [← e]; exact hst
      · cases hr), ⟨(fun id h => .inl (by simpa [StL.ids] using h)), (fun x h h' => by simp [StL.ids] at h; subst h; simp at h'), (fun id h => by simp at h)⟩, wG _ _⟩, (by unfold yp qP; rw [hd]; funext t; simp), (by
      unfold yG
      funext x
      simp only [StO.get, xO, StL.get]
      by_cases e : id = x
      · simp [e]
      · have : ¬ x = id := fun h => e h.symm
        simp [e, this, StL.ids]), H⟩
end
section
variable {P : Program} {fn : Func} {env : EnvL} {st : StO}
theorem zK {t : Nat} {x : AV} (hr : fn.results = #[.tmp t]) (hx : AVLE (env.get t) x) : zgU P fn env.get st.get x := fun nt h m a w c =>
  ⟨a.tmps.getD t undef, by simp [results, hr], hx h m _ (c.env t)⟩
theorem zcw (hr : fn.results = #[]) : zgU P fn env.get st.get (.tup []) := fun nt h m a w c =>
  ⟨.tuple #[], by simp [results, hr], #[], rfl, rfl, by simp [RepAs]⟩
theorem wh {t u : Nat} {x y : AV} (hr : fn.results = #[.tmp t, .tmp u]) (hx : AVLE (env.get t) x) (hy : AVLE (env.get u) y) : zgU P fn env.get st.get (.tup [x, y]) := fun nt h m a w c =>
  ⟨.tuple #[a.tmps.getD t undef, a.tmps.getD u undef], by simp [results, hr], #[a.tmps.getD t undef, a.tmps.getD u undef], rfl, rfl, by
    simp only [RepAs, and_true]
    exact ⟨⟨_, rfl, hx h m _ (c.env t)⟩, ⟨_, rfl, hy h m _ (c.env u)⟩⟩⟩
theorem zhW {t : Nat} {ty : TypeId} {id : Id} {vty : TypeId} {cs : List AV} {d : TypeDesc} {size bytes : Nat} {z : Value} {nt : Nat} {h : Heap} {m : zQ} {a : Act} {w : World} (c : Conc nt h m env.get st.get a w) (ht : env.get t = .ref id 0 0 0) (hst : StO.get st id = some (.var vty cs)) (tu : TyU P ty d) (hd : xk d = true) (ti : TyI P ty size bytes z) (hl : cs.length = size) :
    ∃ v ad, a.tmps[t]?.getD undef = .pointer (some ad) ∧ (loadVar ty ad).run P w = .ok v w ∧ RepA h m v (zcN cs) := by
  have h1 := c.env t
  rw [ht] at h1
  obtain ⟨b, hb, e⟩ := h1
  obtain ⟨b', arr, e1, e2, e3, e4⟩ := c.sim.rows id _ hst
  rw [e1] at hb
  simp [blk] at hb
  subst hb
  obtain ⟨vs, k1, k2, k3⟩ := qr e4
  refine ⟨.agg vs.toArray, ⟨b', 0, none⟩, by simpa using e, ?_, jD (by simpa using k1) (by simpa using k3)⟩
  exact vi (P := P) tu hd ti (a := ⟨b', 0, none⟩) (w := w) (by rw [k1, hl]) (fun j v hv => by rw [wu, yI e2]; simpa using k2 j v hv)
theorem zfx {t : Nat} {ty : TypeId} {id : Id} {vty : TypeId} {cs : List AV} {d : TypeDesc} {size bytes : Nat} {z : Value} {x : AV} (hr : fn.results = #[.cell t ty]) (ht : env.get t = .ref id 0 0 0) (hst : StO.get st id = some (.var vty cs)) (tu : TyU P ty d) (hd : xk d = true) (ti : TyI P ty size bytes z) (hl : cs.length = size) (hx : AVLE (zcN cs) x) : zgU P fn env.get st.get x := fun nt h m a w c => by
  obtain ⟨v, ad, k0, k1, k2⟩ := zhW (P := P) c ht hst tu hd ti hl
  exact ⟨v, by simp [results, hr, k0, asAddr, k1], hx h m v k2⟩
theorem zF {t u : Nat} {ty : TypeId} {id : Id} {vty : TypeId} {cs : List AV} {d : TypeDesc} {size bytes : Nat} {z : Value} {x y : AV} (hr : fn.results = #[.cell t ty, .tmp u]) (ht : env.get t = .ref id 0 0 0) (hst : StO.get st id = some (.var vty cs)) (tu : TyU P ty d) (hd : xk d = true) (ti : TyI P ty size bytes z) (hl : cs.length = size) (hx : AVLE (zcN cs) x) (hy : AVLE (env.get u) y) : zgU P fn env.get st.get (.tup [x, y]) := fun nt h m a w c => by
  obtain ⟨v, ad, k0, k1, k2⟩ := zhW (P := P) c ht hst tu hd ti hl
  refine ⟨.tuple #[v, a.tmps.getD u undef], by simp [results, hr, k0, asAddr, k1], #[v, a.tmps.getD u undef], rfl, rfl, ?_⟩
  simp only [RepAs, and_true]
  exact ⟨⟨_, rfl, hx h m v k2⟩, ⟨_, rfl, hy h m _ (c.env u)⟩⟩
end
end Go.AL
set_option linter.unusedSimpArgs false
namespace Go.AL
open Go Go.RowKit
def zC (ops : Array Oper) (o : Oper) (env : EnvL) : Bool :=
  match o.guard with
  | none => true
  | some (j, want) => match x5 ops j with
    | some t => match env.get t with
      | .t (.bool b) => b == want
      | _ => false
    | none => false
theorem yT {ops : Array Oper} {o : Oper} {env : EnvL} (h : zC ops o env = true) : q8 ops o env.get := by
  unfold zC at h
  unfold q8
  cases hg : o.guard with
  | none => trivial
  | some x =>
    obtain ⟨j, want⟩ := x
    rw [hg] at h
    simp only at h ⊢
    split at h
    · rename_i t ht
      split at h
      · rename_i b he
        exact ⟨t, ht, by rw [he]; simp at h; rw [h]⟩
      · cases h
    · cases h
def zgo (ops : Array Oper) (o : Oper) (env : EnvL) : Bool :=
  match o.guard with
  | none => false
  | some (j, want) => match x5 ops j with
    | some t => match env.get t with
      | .t (.bool b) => b == !want
      | .tup [] => true
      | _ => false
    | none => false
theorem zfv {ops : Array Oper} {o : Oper} {env : EnvL} (h : zgo ops o env = true) : zeF ops o env.get := by
  unfold zgo at h
  unfold zeF
  cases hg : o.guard with
  | none => rw [hg] at h; cases h
  | some x =>
    obtain ⟨j, want⟩ := x
    rw [hg] at h
    simp only at h
    split at h
    · rename_i t ht
      split at h
      · rename_i b he
        exact ⟨j, want, t, rfl, ht, .inl (by rw [he]; simp at h; rw [h])⟩
      · rename_i he
        exact ⟨j, want, t, rfl, ht, .inr he⟩
      · cases h
    · cases h
def fieldAt : List Field → Nat → Option (TypeId × Nat)
  | [], _ => none
  | { type := t, offset := o, .. } :: _, 0 => some (t, o)
  | _ :: l, k + 1 => fieldAt l k
theorem zaS {ft : TypeId} {foff : Nat} : ∀ {l : List Field} {k : Nat}, fieldAt l k = some (ft, foff) → ∃ fd, l[k]? = some fd ∧ fd.type = ft ∧ fd.offset = foff
  | [], _, h => by simp [fieldAt] at h
  | f :: _, 0, h => by
    simp only [fieldAt, Option.some.injEq, Prod.mk.injEq] at h
    exact ⟨f, rfl, h.1, h.2⟩
  | _ :: l, k + 1, h => by
    obtain ⟨fd, h1, h2⟩ := zaS (l := l) (k := k) h
    exact ⟨fd, by simpa using h1, h2⟩
section
variable {P : Program} {nt : Nat} {ops : Array Oper} {o : Oper} {rest : List Oper} {env : EnvL} {st : StO} {acc : List SD} {K : EnvL → StO → List SD → Prop} {d : Nat}
theorem zna (hg : zgo ops o env = true) (hd : o.dst = some d) (hn : (decide (d < nt)) = true) (H : LexP P nt ops rest ((d, .tup []) :: env) st (⟨false, [], .tup [], [], [], []⟩ :: acc) K) : LexP P nt ops (o :: rest) env st acc K :=
  LexP.ex ⟨⟨false, [], .tup [], [], [], []⟩, _, _, ⟨(fun t' ht' => by rw [hd] at ht'; cases ht'; exact of_decide_eq_true hn), (fun h => by cases h), fun _ => ⟨zfv hg, rfl, rfl, rfl, rfl⟩, (fun id row hr => by simp [StL.get] at hr), ⟨(fun id h => by simp [StL.ids] at h), (fun id h => by simp [StL.ids] at h), (fun id h => by simp at h)⟩, wG _ _⟩, (by rw [xJ]; unfold yp; rw [hd]), (by unfold yG; exact (zbQ _).symm), H⟩
theorem vN {t : Nat} {b c : Bool} (he : env.get t = .t (.bool b)) (e : b = c) : EnvL.get ((t, .t (.bool c)) :: env) = env.get := by
  funext x
  simp only [EnvL.get]
  split
  · rename_i h; subst h; rw [he, e]
  · rfl
theorem zar {l : List Oper} {env1 env2 : EnvL} (e : env1.get = env2.get) (H : LexP P nt ops l env1 st acc K) (hl : l ≠ []) : LexP P nt ops l env2 st acc K := by
  cases l with
  | nil => exact absurd rfl hl
  | cons o l =>
    cases H with
    | cons h1 h2 h3 h4 => exact .cons (by rw [← e]; exact h1) (by rw [← e]; exact h2) h3 h4
def qX (ops : Array Oper) (o : Oper) (env : EnvL) : Option (Nat × Bool) :=
  match o.guard with
  | none => none
  | some (j, _) => match x5 ops j with
    | some t => match env.get t with
      | .t (.bool b) => some (t, b)
      | _ => none
    | none => none
theorem xl {t : Nat} {b : Bool} (h : qX ops o env = some (t, b)) : env.get t = .t (.bool b) := by
  unfold qX at h
  split at h
  · cases h
  · split at h
    · split at h
      · rename_i he; cases h; exact he
      · cases h
    · cases h
theorem zj {t : Nat} {p : Prop} [Decidable p] (hg : qX ops o env = some (t, decide p)) (H1 : p → LexP P nt ops (o :: rest) ((t, .t (.bool true)) :: env) st acc K) (H2 : ¬ p → LexP P nt ops (o :: rest) ((t, .t (.bool false)) :: env) st acc K) : LexP P nt ops (o :: rest) env st acc K := by
  by_cases hp : p
  · exact zar (vN (xl hg) (by simp [hp])) (H1 hp) (by simp)
  · exact zar (vN (xl hg) (by simp [hp])) (H2 hp) (by simp)
theorem zN {t : Nat} {p : Prop} [Decidable p] (hg : qX ops o env = some (t, !decide p)) (H1 : p → LexP P nt ops (o :: rest) ((t, .t (.bool false)) :: env) st acc K) (H2 : ¬ p → LexP P nt ops (o :: rest) ((t, .t (.bool true)) :: env) st acc K) : LexP P nt ops (o :: rest) env st acc K := by
  by_cases hp : p
  · exact zar (vN (xl hg) (by simp [hp])) (H1 hp) (by simp)
  · exact zar (vN (xl hg) (by simp [hp])) (H2 hp) (by simp)
theorem kb {t : Nat} {b : Bool} (hg : qX ops o env = some (t, b)) (H1 : b = true → LexP P nt ops (o :: rest) ((t, .t (.bool true)) :: env) st acc K) (H2 : b = false → LexP P nt ops (o :: rest) ((t, .t (.bool false)) :: env) st acc K) : LexP P nt ops (o :: rest) env st acc K := by
  cases hb : b with
  | true => exact zar (vN (xl hg) hb) (H1 hb) (by simp)
  | false => exact zar (vN (xl hg) hb) (H2 hb) (by simp)
theorem yc {r : AV} (hT : OpT P o (zE env.get) (StL.get []) r (StL.get []) []) (hd : o.dst = some d) (hn : (decide (d < nt)) = true) (hg : zC ops o env = true) (H : LexP P nt ops rest ((d, r) :: env) st (⟨true, [], r, [], [], []⟩ :: acc) K) : LexP P nt ops (o :: rest) env st acc K :=
  zlh hT hd (of_decide_eq_true hn) (yT hg) H
theorem qk {id : Id} {row : Row} {r : AV} (hst : StO.get st id = some row) (hT : OpT P o (zE env.get) (StL.get [(id, row)]) r (StL.get [(id, row)]) []) (hd : o.dst = some d) (hn : (decide (d < nt)) = true) (hg : zC ops o env = true)
    (H : LexP P nt ops rest ((d, r) :: env) st (⟨true, [(id, row)], r, [(id, row)], [], []⟩ :: acc) K) : LexP P nt ops (o :: rest) env st acc K :=
  zla hst hT hd (of_decide_eq_true hn) (yT hg) H
theorem zfg {id : Id} {row : Row} {r : AV} (hT : OpT P o (zE env.get) (StL.get []) r (StL.get [(id, row)]) [id]) (hd : o.dst = some d) (hn : (decide (d < nt)) = true) (hg : zC ops o env = true) (hloc : id.isLoc = true) (hfr : xg [id] env st = true)
    (H : LexP P nt ops rest ((d, r) :: env) ((id, some row) :: st) (⟨true, [], r, [(id, row)], [], [id]⟩ :: acc) K) : LexP P nt ops (o :: rest) env st acc K :=
  zmW hT hd (of_decide_eq_true hn) (yT hg) hloc hfr H
theorem zd6 {id : Id} {row row' : Row} {r : AV} (hst : StO.get st id = some row) (hT : OpT P o (zE env.get) (StL.get [(id, row)]) r (StL.get [(id, row')]) []) (hd : o.dst = none) (hg : zC ops o env = true)
    (H : LexP P nt ops rest env ((id, some row') :: st) (⟨true, [(id, row)], r, [(id, row')], [id], []⟩ :: acc) K) : LexP P nt ops (o :: rest) env st acc K :=
  zkw hst hT hd (yT hg) H
theorem zbt {x : Operand} {r : AV} (ho : o.op = .move x) (hr : zE env.get x = r) (hd : o.dst = some d) (hn : (decide (d < nt)) = true) (hg : zC ops o env = true) (H : LexP P nt ops rest ((d, r) :: env) st (⟨true, [], r, [], [], []⟩ :: acc) K) : LexP P nt ops (o :: rest) env st acc K :=
  yc (by rw [← hr]; exact zlq ho) hd hn hg H
theorem qN {x : Operand} {r : AV} (ho : o.op = .assign x) (hr : zE env.get x = r) (hd : o.dst = some d) (hn : (decide (d < nt)) = true) (hg : zC ops o env = true) (H : LexP P nt ops rest ((d, r) :: env) st (⟨true, [], r, [], [], []⟩ :: acc) K) : LexP P nt ops (o :: rest) env st acc K :=
  yc (by rw [← hr]; exact zid ho) hd hn hg H
theorem zll {c x y : Operand} {r : AV} (ho : o.op = .pick c x y) (hc : zE env.get c = .t (.bool true)) (hr : zE env.get x = r) (hd : o.dst = some d) (hn : (decide (d < nt)) = true) (hg : zC ops o env = true) (H : LexP P nt ops rest ((d, r) :: env) st (⟨true, [], r, [], [], []⟩ :: acc) K) : LexP P nt ops (o :: rest) env st acc K :=
  yc (by rw [← hr]; exact zhU (b := true) ho hc) hd hn hg H
theorem zlf {c x y : Operand} {r : AV} (ho : o.op = .pick c x y) (hc : zE env.get c = .t (.bool false)) (hr : zE env.get y = r) (hd : o.dst = some d) (hn : (decide (d < nt)) = true) (hg : zC ops o env = true) (H : LexP P nt ops rest ((d, r) :: env) st (⟨true, [], r, [], [], []⟩ :: acc) K) : LexP P nt ops (o :: rest) env st acc K :=
  yc (by rw [← hr]; exact zhU (b := false) ho hc) hd hn hg H
theorem zjU {ty : TypeId} {x : Operand} {r : AV} {cs : List AV} (ho : o.op = .box ty x) (hr : zE env.get x = r) (hb : r.boxable = true) (hcs : r.cells = cs) (hd : o.dst = some d) (hn : (decide (d < nt)) = true) (hg : zC ops o env = true) (hc : AV.cleanL [.loc d] cs = true) (hfr : xg [.loc d] env st = true)
    (H : LexP P nt ops rest ((d, .ref (.loc d) 0 0 0) :: env) ((.loc d, some (.var ty cs)) :: st) (⟨true, [], .ref (.loc d) 0 0 0, [(.loc d, .var ty cs)], [], [.loc d]⟩ :: acc) K) : LexP P nt ops (o :: rest) env st acc K := by
  subst hr; subst hcs
  exact zfg (zmG (.loc d) ho hb hc) hd hn hg rfl hfr H
theorem zlu {ty : TypeId} {size bytes : Nat} {z : Value} {cs : List AV} (ho : o.op = .alloc ty) [ti : TyI P ty size bytes z] (h1 : z.cells.toList.all Value.oneCell' = true) (hcs : z.cells.toList.map ke = cs) (hd : o.dst = some d) (hn : (decide (d < nt)) = true) (hg : zC ops o env = true) (hfr : xg [.loc d] env st = true)
    (H : LexP P nt ops rest ((d, .ref (.loc d) 0 0 0) :: env) ((.loc d, some (.var ty cs)) :: st) (⟨true, [], .ref (.loc d) 0 0 0, [(.loc d, .var ty cs)], [], [.loc d]⟩ :: acc) K) : LexP P nt ops (o :: rest) env st acc K := by
  subst hcs
  exact zfg (zjP (.loc d) ho ti (List.all_eq_true.1 h1)) hd hn hg rfl hfr H
theorem zg7 {ty : TypeId} {p : Operand} {id : Id} {i sz off : Nat} {vty : TypeId} {cs : List AV} {dd : TypeDesc} {x : AV} (ho : o.op = .load ty p) (hp : zE env.get p = .ref id i sz off) [tu : TyU P ty dd] (ha : xk dd = false) (hst : StO.get st id = some (.var vty cs)) (hx : cs[i * sz + off]? = some x) (hd : o.dst = some d) (hn : (decide (d < nt)) = true) (hg : zC ops o env = true)
    (H : LexP P nt ops rest ((d, x) :: env) st (⟨true, [(id, .var vty cs)], x, [(id, .var vty cs)], [], []⟩ :: acc) K) : LexP P nt ops (o :: rest) env st acc K :=
  qk hst (zeK ho hp tu ha hx) hd hn hg H
theorem zaQ {ty : TypeId} {p : Operand} {id : Id} {i sz off : Nat} {vty : TypeId} {cs : List AV} {dd : TypeDesc} {size bytes : Nat} {z : Value} {r : AV} (ho : o.op = .load ty p) (hp : zE env.get p = .ref id i sz off) [tu : TyU P ty dd] (ha : xk dd = true) [ti : TyI P ty size bytes z] (hst : StO.get st id = some (.var vty cs)) (hl : (decide (i * sz + off + size ≤ cs.length)) = true) (hr : zcN ((cs.drop (i * sz + off)).take size) = r) (hd : o.dst = some d) (hn : (decide (d < nt)) = true) (hg : zC ops o env = true)
    (H : LexP P nt ops rest ((d, r) :: env) st (⟨true, [(id, .var vty cs)], r, [(id, .var vty cs)], [], []⟩ :: acc) K) : LexP P nt ops (o :: rest) env st acc K := by
  subst hr
  exact qk hst (zeg ho hp tu ha ti (of_decide_eq_true hl)) hd hn hg H
theorem ziV {ty : TypeId} {p : Operand} {e x : T} {off : Nat} {dd : TypeDesc} (ho : o.op = .load ty p) (hp : zE env.get p = .tp e off) [tu : TyU P ty dd] (ha : xk dd = false) (hx : e.cells[off]? = some x) (hd : o.dst = some d) (hn : (decide (d < nt)) = true) (hg : zC ops o env = true)
    (H : LexP P nt ops rest ((d, .t x) :: env) st (⟨true, [], .t x, [], [], []⟩ :: acc) K) : LexP P nt ops (o :: rest) env st acc K :=
  yc (zf2 ho hp tu ha hx) hd hn hg H
theorem zgh {ty : TypeId} {p : Operand} {e : T} {dd : TypeDesc} {size bytes : Nat} {z : Value} (ho : o.op = .load ty p) (hp : zE env.get p = .tp e 0) [tu : TyU P ty dd] (ha : xk dd = true) [ti : TyI P ty size bytes z] (hd : o.dst = some d) (hn : (decide (d < nt)) = true) (hg : zC ops o env = true) (hl : e.cells.length = size) (hagg : e.isAgg = true)
    (H : LexP P nt ops rest ((d, .t e) :: env) st (⟨true, [], .t e, [], [], []⟩ :: acc) K) : LexP P nt ops (o :: rest) env st acc K :=
  yc (zaL ho hp tu ha ti hl hagg) hd hn hg H
theorem zgp {ty : TypeId} {p : Operand} {id : Id} {i sz off : Nat} {e : TypeId} {es : List T} {dd : TypeDesc} {x y : T} (ho : o.op = .load ty p) (hp : zE env.get p = .ref id i sz off) [tu : TyU P ty dd] (ha : xk dd = false) (hst : StO.get st id = some (.slt e sz es)) (hd : o.dst = some d) (hn : (decide (d < nt)) = true) (hg : zC ops o env = true) (hx : es[i]? = some x) (hy : x.cells[off]? = some y)
    (H : LexP P nt ops rest ((d, .t y) :: env) st (⟨true, [(id, .slt e sz es)], .t y, [(id, .slt e sz es)], [], []⟩ :: acc) K) : LexP P nt ops (o :: rest) env st acc K :=
  qk hst (zft ho hp (.inl ⟨e, rfl⟩) tu ha hx hy) hd hn hg H
theorem vv {ty : TypeId} {p x : Operand} {id : Id} {i sz off : Nat} {vty : TypeId} {cs cs' : List AV} {r : AV} {size bytes : Nat} {z : Value} (ho : o.op = .store ty p x) (hp : zE env.get p = .ref id i sz off) [ti : TyI P ty size bytes z] (hr : zE env.get x = r) (hb : r.boxable = true) (hx : (decide (r.cells.length = size)) = true) (hst : StO.get st id = some (.var vty cs)) (hl : (decide (i * sz + off + size ≤ cs.length)) = true) (hcs : yP cs (i * sz + off) r.cells = cs') (hd : o.dst = none) (hg : zC ops o env = true)
    (H : LexP P nt ops rest env ((id, some (.var vty cs')) :: st) (⟨true, [(id, .var vty cs)], .junk, [(id, .var vty cs')], [id], []⟩ :: acc) K) : LexP P nt ops (o :: rest) env st acc K := by
  subst hr; subst hcs
  exact zd6 hst (zeh ho hp ti hb (of_decide_eq_true hx) (of_decide_eq_true hl)) hd hg H
theorem zgV {x : Operand} {r : AV} (ho : o.op = .nilCheck x) (hr : zE env.get x = r) (hx : r.nonNil = true) (hd : o.dst = some d) (hn : (decide (d < nt)) = true) (hg : zC ops o env = true) (H : LexP P nt ops rest ((d, r) :: env) st (⟨true, [], r, [], [], []⟩ :: acc) K) : LexP P nt ops (o :: rest) env st acc K := by
  subst hr
  exact yc (zfd ho hx) hd hn hg H
theorem za1 {fields : Array Field} {k : Nat} {ft : TypeId} {foff : Nat} (h : fieldAt fields.toList k = some (ft, foff)) : ∃ fd, fields[k]? = some fd ∧ fd.type = ft ∧ fd.offset = foff := by
  obtain ⟨fd, h1, h2⟩ := zaS h
  exact ⟨fd, by simpa using h1, h2⟩
theorem zfq {s : TypeId} {x : Operand} {k : Nat} {id : Id} {i sz off : Nat} {fields : Array Field} {ft : TypeId} {foff size bytes : Nat} {z : Value} (ho : o.op = .fieldAddr s x k) (hx : zE env.get x = .ref id i sz off) [tu : TyU P s (.struct fields)] (hf : fieldAt fields.toList k = some (ft, foff)) [ti : TyI P ft size bytes z] (hs : (decide (size ≠ 0)) = true) (hd : o.dst = some d) (hn : (decide (d < nt)) = true) (hg : zC ops o env = true)
    (H : LexP P nt ops rest ((d, .ref id i sz (off + foff)) :: env) st (⟨true, [], .ref id i sz (off + foff), [], [], []⟩ :: acc) K) : LexP P nt ops (o :: rest) env st acc K := by
  obtain ⟨fd, hf1, rfl, rfl⟩ := za1 hf
  exact yc (zaw ho hx tu hf1 ti (of_decide_eq_true hs)) hd hn hg H
theorem zbE {s : TypeId} {x : Operand} {k : Nat} {e : T} {off : Nat} {fields : Array Field} {ft : TypeId} {foff size bytes : Nat} {z : Value} (ho : o.op = .fieldAddr s x k) (hx : zE env.get x = .tp e off) [tu : TyU P s (.struct fields)] (hf : fieldAt fields.toList k = some (ft, foff)) [ti : TyI P ft size bytes z] (hs : (decide (size ≠ 0)) = true) (hd : o.dst = some d) (hn : (decide (d < nt)) = true) (hg : zC ops o env = true)
    (H : LexP P nt ops rest ((d, .tp e (off + foff)) :: env) st (⟨true, [], .tp e (off + foff), [], [], []⟩ :: acc) K) : LexP P nt ops (o :: rest) env st acc K := by
  obtain ⟨fd, hf1, rfl, rfl⟩ := za1 hf
  exact yc (za8 ho hx tu hf1 ti (of_decide_eq_true hs)) hd hn hg H
theorem zbp {t elem : TypeId} {x ix : Operand} {sz : Nat} {es : List T} {k : IntKind} {i : Int} {bytes : Nat} {z : Value} (ho : o.op = .indexAddr t x ix) (hx : zE env.get x = .t (.sl sz es)) (hi : zE env.get ix = .t (.int k i)) [tu : TyU P t (.slice elem)] [ti : TyI P elem sz bytes z] (hd : o.dst = some d) (hn : (decide (d < nt)) = true) (hg : zC ops o env = true) (h0 : 0 ≤ i) (h1 : i < (es.length : Int))
    (H : LexP P nt ops rest ((d, .tp (es.getD i.toNat .nilp) 0) :: env) st (⟨true, [], .tp (es.getD i.toNat .nilp) 0, [], [], []⟩ :: acc) K) : LexP P nt ops (o :: rest) env st acc K :=
  yc (za7 ho hx hi tu ti h0 h1) hd hn hg H
theorem yf {t elem : TypeId} {x ix : Operand} {id : Id} {e : TypeId} {sz : Nat} {es : List T} {k : IntKind} {i : Int} {bytes : Nat} {z : Value} (ho : o.op = .indexAddr t x ix) (hx : zE env.get x = .row id) (hi : zE env.get ix = .t (.int k i)) [tu : TyU P t (.slice elem)] (hst : StO.get st id = some (.slt e sz es)) [ti : TyI P elem sz bytes z] (hd : o.dst = some d) (hn : (decide (d < nt)) = true) (hg : zC ops o env = true) (h0 : 0 ≤ i) (h1 : i < (es.length : Int))
    (H : LexP P nt ops rest ((d, .ref id i.toNat sz 0) :: env) st (⟨true, [(id, .slt e sz es)], .ref id i.toNat sz 0, [(id, .slt e sz es)], [], []⟩ :: acc) K) : LexP P nt ops (o :: rest) env st acc K :=
  qk hst (zab ho hx hi tu ti h0 h1) hd hn hg H
theorem zf {t : TypeId} {x ix : Operand} {s : ByteArray} {k : IntKind} {i : Int} (ho : o.op = .index t x ix) (hx : zE env.get x = .t (.str s)) (hi : zE env.get ix = .t (.int k i)) [tu : TyU P t .string] (hd : o.dst = some d) (hn : (decide (d < nt)) = true) (hg : zC ops o env = true) (h0 : 0 ≤ i) (h1 : i < (s.size : Int))
    (H : LexP P nt ops rest ((d, .t (.int .u8 (bAt s i))) :: env) st (⟨true, [], .t (.int .u8 (bAt s i)), [], [], []⟩ :: acc) K) : LexP P nt ops (o :: rest) env st acc K :=
  yc (zew ho hx hi tu h0 h1) hd hn hg H
theorem zlk {op : BinOp} {ty yt : TypeId} {x y : Operand} {k : IntKind} {a b : Int} {r : T} (ho : o.op = .binOp op ty x y yt) (hx : zE env.get x = .t (.int k a)) (hy : zE env.get y = .t (.int k b)) (hr : znr op k a b = some r) (hd : o.dst = some d) (hn : (decide (d < nt)) = true) (hg : zC ops o env = true)
    (H : LexP P nt ops rest ((d, .t r) :: env) st (⟨true, [], .t r, [], [], []⟩ :: acc) K) : LexP P nt ops (o :: rest) env st acc K :=
  yc (zjJ ho hx hy hr) hd hn hg H
theorem znW {ty yt : TypeId} {x y : Operand} {k : IntKind} {a b : Int} (ho : o.op = .binOp .quo ty x y yt) (hx : zE env.get x = .t (.int k a)) (hy : zE env.get y = .t (.int k b)) (hd : o.dst = some d) (hn : (decide (d < nt)) = true) (hg : zC ops o env = true) (hb : b ≠ 0)
    (H : LexP P nt ops rest ((d, .t (.int k (k.wrap (a.tdiv b)))) :: env) st (⟨true, [], .t (.int k (k.wrap (a.tdiv b))), [], [], []⟩ :: acc) K) : LexP P nt ops (o :: rest) env st acc K :=
  yc (zm4 ho hx hy hb) hd hn hg H
theorem zmr {ty yt : TypeId} {x y : Operand} {k : IntKind} {a b : Int} (ho : o.op = .binOp .rem ty x y yt) (hx : zE env.get x = .t (.int k a)) (hy : zE env.get y = .t (.int k b)) (hd : o.dst = some d) (hn : (decide (d < nt)) = true) (hg : zC ops o env = true) (hb : b ≠ 0)
    (H : LexP P nt ops rest ((d, .t (.int k (a.tmod b))) :: env) st (⟨true, [], .t (.int k (a.tmod b)), [], [], []⟩ :: acc) K) : LexP P nt ops (o :: rest) env st acc K :=
  yc (zmt ho hx hy hb) hd hn hg H
theorem xi {ty yt : TypeId} {x y : Operand} {k yk : IntKind} {a b : Int} (ho : o.op = .binOp .shl ty x y yt) (hx : zE env.get x = .t (.int k a)) (hy : zE env.get y = .t (.int yk b)) (hd : o.dst = some d) (hn : (decide (d < nt)) = true) (hg : zC ops o env = true) (hb : 0 ≤ b)
    (H : LexP P nt ops rest ((d, .t (.int k (k.wrap (a * 2 ^ min b.toNat k.bits)))) :: env) st (⟨true, [], .t (.int k (k.wrap (a * 2 ^ min b.toNat k.bits))), [], [], []⟩ :: acc) K) : LexP P nt ops (o :: rest) env st acc K :=
  yc (zm7 ho hx hy hb) hd hn hg H
theorem je {ty yt : TypeId} {x y : Operand} {k yk : IntKind} {a b : Int} (ho : o.op = .binOp .shr ty x y yt) (hx : zE env.get x = .t (.int k a)) (hy : zE env.get y = .t (.int yk b)) (hd : o.dst = some d) (hn : (decide (d < nt)) = true) (hg : zC ops o env = true) (hb : 0 ≤ b)
    (H : LexP P nt ops rest ((d, .t (.int k (a / 2 ^ min b.toNat k.bits))) :: env) st (⟨true, [], .t (.int k (a / 2 ^ min b.toNat k.bits)), [], [], []⟩ :: acc) K) : LexP P nt ops (o :: rest) env st acc K :=
  yc (znh ho hx hy hb) hd hn hg H
theorem zoc {ty : TypeId} {x : Operand} {b : Bool} (ho : o.op = .unOp .not ty x) (hx : zE env.get x = .t (.bool b)) (hd : o.dst = some d) (hn : (decide (d < nt)) = true) (hg : zC ops o env = true)
    (H : LexP P nt ops rest ((d, .t (.bool (!b))) :: env) st (⟨true, [], .t (.bool (!b)), [], [], []⟩ :: acc) K) : LexP P nt ops (o :: rest) env st acc K :=
  yc (zmV ho hx) hd hn hg H
theorem zok {ty : TypeId} {x : Operand} {k : IntKind} {n : Int} (ho : o.op = .unOp .neg ty x) (hx : zE env.get x = .t (.int k n)) (hd : o.dst = some d) (hn : (decide (d < nt)) = true) (hg : zC ops o env = true)
    (H : LexP P nt ops rest ((d, .t (.int k (k.wrap (0 - n)))) :: env) st (⟨true, [], .t (.int k (k.wrap (0 - n))), [], [], []⟩ :: acc) K) : LexP P nt ops (o :: rest) env st acc K :=
  yc (znu ho hx) hd hn hg H
theorem znX {ty : TypeId} {x : Operand} {k : IntKind} {n : Int} (ho : o.op = .unOp .xor ty x) (hx : zE env.get x = .t (.int k n)) (hd : o.dst = some d) (hn : (decide (d < nt)) = true) (hg : zC ops o env = true)
    (H : LexP P nt ops rest ((d, .t (.int k (k.wrap (BitVec.ofInt k.bits (if k.signed then -1 else k.max) ^^^ BitVec.ofInt k.bits n).toNat))) :: env) st (⟨true, [], .t (.int k (k.wrap (BitVec.ofInt k.bits (if k.signed then -1 else k.max) ^^^ BitVec.ofInt k.bits n).toNat)), [], [], []⟩ :: acc) K) : LexP P nt ops (o :: rest) env st acc K :=
  yc (znf ho hx) hd hn hg H
theorem zf3 {src dst : TypeId} {x : Operand} {dd : TypeDesc} {k k' : IntKind} {n : Int} (ho : o.op = .convert src dst x) (hx : zE env.get x = .t (.int k n)) [ts : TyU P src dd] [td : TyU P dst (.int k')] (hd : o.dst = some d) (hn : (decide (d < nt)) = true) (hg : zC ops o env = true)
    (H : LexP P nt ops rest ((d, .t (.int k' (k'.wrap n))) :: env) st (⟨true, [], .t (.int k' (k'.wrap n)), [], [], []⟩ :: acc) K) : LexP P nt ops (o :: rest) env st acc K :=
  yc (ze3 ho hx ts td) hd hn hg H
theorem yj {ty yt : TypeId} {x y : Operand} {s t : ByteArray} (ho : o.op = .binOp .add ty x y yt) (hx : zE env.get x = .t (.str s)) (hy : zE env.get y = .t (.str t)) (hd : o.dst = some d) (hn : (decide (d < nt)) = true) (hg : zC ops o env = true) (hl : s.size + t.size ≤ 9223372036854775807)
    (H : LexP P nt ops rest ((d, .t (.str (s ++ t))) :: env) st (⟨true, [], .t (.str (s ++ t)), [], [], []⟩ :: acc) K) : LexP P nt ops (o :: rest) env st acc K :=
  yc (zib ho hx hy hl) hd hn hg H
theorem zkN {ty yt : TypeId} {x y : Operand} {s t : ByteArray} (ho : o.op = .binOp .eql ty x y yt) (hx : zE env.get x = .t (.str s)) (hy : zE env.get y = .t (.str t)) (hd : o.dst = some d) (hn : (decide (d < nt)) = true) (hg : zC ops o env = true)
    (H : LexP P nt ops rest ((d, .t (.bool (decide (s = t)))) :: env) st (⟨true, [], .t (.bool (decide (s = t))), [], [], []⟩ :: acc) K) : LexP P nt ops (o :: rest) env st acc K :=
  yc (zh5 ho hx hy) hd hn hg H
theorem zkZ {ty yt : TypeId} {x y : Operand} {s t : ByteArray} (ho : o.op = .binOp .neq ty x y yt) (hx : zE env.get x = .t (.str s)) (hy : zE env.get y = .t (.str t)) (hd : o.dst = some d) (hn : (decide (d < nt)) = true) (hg : zC ops o env = true)
    (H : LexP P nt ops rest ((d, .t (.bool (!decide (s = t)))) :: env) st (⟨true, [], .t (.bool (!decide (s = t))), [], [], []⟩ :: acc) K) : LexP P nt ops (o :: rest) env st acc K :=
  yc (zi2 ho hx hy) hd hn hg H
theorem zh9 {ty yt : TypeId} {x y : Operand} {a b : Bool} (ho : o.op = .binOp .eql ty x y yt) (hx : zE env.get x = .t (.bool a)) (hy : zE env.get y = .t (.bool b)) [tu : TyU P ty .bool] (hd : o.dst = some d) (hn : (decide (d < nt)) = true) (hg : zC ops o env = true)
    (H : LexP P nt ops rest ((d, .t (.bool (a == b))) :: env) st (⟨true, [], .t (.bool (a == b)), [], [], []⟩ :: acc) K) : LexP P nt ops (o :: rest) env st acc K :=
  yc (zgF ho hx hy tu) hd hn hg H
theorem ziv {ty yt : TypeId} {x y : Operand} {a b : Bool} (ho : o.op = .binOp .neq ty x y yt) (hx : zE env.get x = .t (.bool a)) (hy : zE env.get y = .t (.bool b)) [tu : TyU P ty .bool] (hd : o.dst = some d) (hn : (decide (d < nt)) = true) (hg : zC ops o env = true)
    (H : LexP P nt ops rest ((d, .t (.bool (!(a == b)))) :: env) st (⟨true, [], .t (.bool (!(a == b))), [], [], []⟩ :: acc) K) : LexP P nt ops (o :: rest) env st acc K :=
  yc (zgs ho hx hy tu) hd hn hg H
theorem ziO {x : Operand} {i : Nat} {vs : List AV} {y : AV} (ho : o.op = .extract x i) (hx : zE env.get x = .tup vs) (hy : vs[i]? = some y) (hd : o.dst = some d) (hn : (decide (d < nt)) = true) (hg : zC ops o env = true)
    (H : LexP P nt ops rest ((d, y) :: env) st (⟨true, [], y, [], [], []⟩ :: acc) K) : LexP P nt ops (o :: rest) env st acc K :=
  yc (zgE ho hx hy) hd hn hg H
theorem zgN {f : FuncId} {caps : Array Operand} {cs : List AV} (ho : o.op = .makeFunc (.func f) #[] caps) (hc : caps.toList.map (zE env.get) = cs) (hd : o.dst = some d) (hn : (decide (d < nt)) = true) (hg : zC ops o env = true)
    (H : LexP P nt ops rest ((d, .fn f cs) :: env) st (⟨true, [], .fn f cs, [], [], []⟩ :: acc) K) : LexP P nt ops (o :: rest) env st acc K := by
  subst hc
  exact yc (zfT ho) hd hn hg H
theorem zkj {t : TypeId} {x : Operand} {sz : Nat} {es : List T} {e : TypeId} (ho : o.op = .call { callee := .builtin .len, args := #[x], argTypes := #[t] }) (hx : zE env.get x = .t (.sl sz es)) [tu : TyU P t (.slice e)] (hd : o.dst = some d) (hn : (decide (d < nt)) = true) (hg : zC ops o env = true)
    (H : LexP P nt ops rest ((d, .t (.int .i64 (es.length : Int))) :: env) st (⟨true, [], .t (.int .i64 (es.length : Int)), [], [], []⟩ :: acc) K) : LexP P nt ops (o :: rest) env st acc K :=
  yc (zh1 (rt := 0) ho hx tu) hd hn hg H
theorem zdi {t : TypeId} {x : Operand} {s : ByteArray} (ho : o.op = .call { callee := .builtin .len, args := #[x], argTypes := #[t] }) (hx : zE env.get x = .t (.str s)) [tu : TyU P t .string] (hd : o.dst = some d) (hn : (decide (d < nt)) = true) (hg : zC ops o env = true)
    (H : LexP P nt ops rest ((d, .t (.int .i64 (s.size : Int))) :: env) st (⟨true, [], .t (.int .i64 (s.size : Int)), [], [], []⟩ :: acc) K) : LexP P nt ops (o :: rest) env st acc K :=
  yc (zgL ho hx tu) hd hn hg H
theorem zdC {t : TypeId} {x : Operand} {id : Id} {e e' : TypeId} {sz : Nat} {es : List T} (ho : o.op = .call { callee := .builtin .len, args := #[x], argTypes := #[t] }) (hx : zE env.get x = .row id) (hst : StO.get st id = some (.slt e' sz es)) [tu : TyU P t (.slice e)] (hd : o.dst = some d) (hn : (decide (d < nt)) = true) (hg : zC ops o env = true)
    (H : LexP P nt ops rest ((d, .t (.int .i64 (es.length : Int))) :: env) st (⟨true, [(id, .slt e' sz es)], .t (.int .i64 (es.length : Int)), [(id, .slt e' sz es)], [], []⟩ :: acc) K) : LexP P nt ops (o :: rest) env st acc K :=
  qk hst (zgA ho hx tu) hd hn hg H
theorem yx {t : TypeId} {x : Operand} {lo hi : Option Operand} {s : ByteArray} {l hh : Int} (ho : o.op = .slice t x lo hi none) (hx : zE env.get x = .t (.str s)) [tu : TyU P t .string] (hlo : qB (zE env.get) lo 0 l) (hhi : qB (zE env.get) hi (s.size : Int) hh) (hd : o.dst = some d) (hn : (decide (d < nt)) = true) (hg : zC ops o env = true) (h0 : 0 ≤ l) (h1 : l ≤ hh) (h2 : hh ≤ (s.size : Int))
    (H : LexP P nt ops rest ((d, .t (.str (s.extract l.toNat hh.toNat))) :: env) st (⟨true, [], .t (.str (s.extract l.toNat hh.toNat)), [], [], []⟩ :: acc) K) : LexP P nt ops (o :: rest) env st acc K :=
  yc (zey ho hx tu hlo hhi h0 h1 h2) hd hn hg H
theorem znK {ts : Array TypeId} {x y : Operand} {k k' : IntKind} {a b : Int} (ho : o.op = .call { callee := .builtin .min, args := #[x, y], argTypes := ts }) (hx : zE env.get x = .t (.int k a)) (hy : zE env.get y = .t (.int k' b)) (hd : o.dst = some d) (hn : (decide (d < nt)) = true) (hg : zC ops o env = true)
    (H : LexP P nt ops rest ((d, .t (.int k (if b < a then b else a))) :: env) st (⟨true, [], .t (.int k (if b < a then b else a)), [], [], []⟩ :: acc) K) : LexP P nt ops (o :: rest) env st acc K :=
  yc (zm3 (t := 0) ho hx hy) hd hn hg H
theorem zlm {f : Operand} {as : Array Operand} {ts : Array TypeId} {g : FuncId} {caps args : List AV} {r : AV} (ho : o.op = .call { callee := .value f, args := as, argTypes := ts }) (hf : xn (zE env.get f) = some (g, caps)) [hb : FnB P g] (H0 : Spec P g args [] r []) (hr : r.all (fun _ => false) = true) (hlen : (decide (as.size + caps.length = args.length)) = true) (hargs : ArgsLE (as.toList.map (zE env.get) ++ caps) args) (hren : AV.renL id args = args) (hrr : r.ren id = r) (hd : o.dst = some d) (hn : (decide (d < nt)) = true) (hg : zC ops o env = true)
    (H : LexP P nt ops rest ((d, r) :: env) st (⟨true, [], r, [], [], []⟩ :: acc) K) : LexP P nt ops (o :: rest) env st acc K := by
  refine yc (r := r) ?_ hd hn hg H
  have all_mono : ∀ x : AV, x.all (fun _ => false) = true → x.all (fun id => vn id || (xd id && (StL.ids []).contains id)) = true := by
    intro x
    induction x using AV.rec (motive_2 := fun xs => AV.allL (fun _ => false) xs = true → AV.allL (fun id => vn id || (xd id && (StL.ids []).contains id)) xs = true) with
    | t x => intro _; rfl
    | tp e off => intro _; rfl
    | ref j i sz off => intro hx; simp [AV.all] at hx
    | view j n c => intro hx; simp [AV.all] at hx
    | row j => intro hx; simp [AV.all] at hx
    | agg cs ih => intro hx; simp only [AV.all] at hx ⊢; exact ih hx
    | tup cs ih => intro hx; simp only [AV.all] at hx ⊢; exact ih hx
    | fn f cs ih => intro hx; simp only [AV.all] at hx ⊢; exact ih hx
    | junk => intro _; rfl
    | nil => rfl
    | cons x xs h1 h2 =>
      rename_i hx
      simp only [AV.allL, Bool.and_eq_true] at hx ⊢
      exact ⟨h1 hx.1, h2 hx.2⟩
  have ok : CallOK [] [] r id := ⟨fun i hi => by simp [StL.ids] at hi, fun k hk => by simp [StL.ids] at hk, all_mono r hr, fun x hx => by simp at hx, fun k hk => by simp [StL.ids] at hk⟩
  have := zhl (P := P) (ρ := zE env.get) id ho hf hb H0 ok (of_decide_eq_true hlen) (by rw [hren]; exact hargs)
  rw [hrr] at this
  simpa [StL.ren, StL.ids] using this
end
end Go.AL
set_option linter.unusedSimpArgs false
namespace Go.AL
open Go Go.RowKit
section
variable {P : Program} {nt : Nat} {ops : Array Oper} {env : EnvL} {st : StO} {acc : List SD} {K : EnvL → StO → List SD → Prop} {Q : Exit → Env → zG → Prop}
theorem zl9 (H : K env st acc) : LexP P nt ops [] env st acc K := .nil H
theorem zmk {y : Code} (H : CodeT P nt y env.get st.get Q) : ziL P nt y Q .normal env.get st.get := H
theorem zf0 {y : Code} {i : Nat} (H : Q (.exit i) env.get st.get) : ziL P nt y Q (.exit i) env.get st.get := H
theorem zig {y : Code} (H : Q .ret env.get st.get) : ziL P nt y Q .ret env.get st.get := H
theorem zny {i : Nat} (H : Q .normal env.get st.get) : vx i Q .normal env.get st.get := H
theorem zgy {i : Nat} (H : Q .ret env.get st.get) : vx i Q .ret env.get st.get := H
theorem zfm {i j : Nat} (hij : (i == j) = true) (H : Q .normal env.get st.get) : vx i Q (.exit j) env.get st.get := by
  have : i = j := by simpa using hij
  subst this
  simpa [vx] using H
theorem zel {i j : Nat} (hij : (i == j) = false) (H : Q (.exit j) env.get st.get) : vx i Q (.exit j) env.get st.get := by
  have : ¬ j = i := by
    intro e; subst e; simp at hij
  simpa [vx, this] using H
theorem zgd {I : Nat → Env → zG → Prop} {n i : Nat} (H : Q (.exit i) env.get st.get) : zk8 nt I n Q (.exit i) env.get st.get := H
theorem zh4 {I : Nat → Env → zG → Prop} {n : Nat} (H : Q .ret env.get st.get) : zk8 nt I n Q .ret env.get st.get := H
theorem zI {I : Nat → Env → zG → Prop} {n n' : Nat} {env1 : EnvL} {st1 : StO} (hn : n' < n) (g : Ghost nt env.get st.get env1.get st1.get) (H : I n' env1.get st1.get) : zk8 nt I n Q .normal env.get st.get := ⟨n', hn, env1.get, st1.get, g, H⟩
theorem zee {l : List Oper} {ds : List SD} {env0 : EnvL} {st0 : StO} (hc : zeC l ds env0 st0 = true) (H : Q .normal env.get st.get) : zeC l ds env0 st0 = true ∧ Q .normal env.get st.get := ⟨hc, H⟩
theorem zmL {x : Operand} {y z : Code} (hb : zE env.get x = .t (.bool true)) (H : CodeT P nt y env.get st.get Q) : CodeT P nt (.cond x y z) env.get st.get Q := zad hb H
theorem zmT {x : Operand} {y z : Code} (hb : zE env.get x = .t (.bool false)) (H : CodeT P nt z env.get st.get Q) : CodeT P nt (.cond x y z) env.get st.get Q := zad hb H
theorem zd {x : Operand} {y z : Code} {p : Prop} [Decidable p] (hb : zE env.get x = .t (.bool (decide p))) (H1 : p → CodeT P nt y env.get st.get Q) (H2 : ¬ p → CodeT P nt z env.get st.get Q) : CodeT P nt (.cond x y z) env.get st.get Q :=
  k9 hb (fun h => H1 (of_decide_eq_true h)) (fun h => H2 (of_decide_eq_false h))
theorem zS {x : Operand} {y z : Code} {p : Prop} [Decidable p] (hb : zE env.get x = .t (.bool (!decide p))) (H1 : p → CodeT P nt z env.get st.get Q) (H2 : ¬ p → CodeT P nt y env.get st.get Q) : CodeT P nt (.cond x y z) env.get st.get Q :=
  k9 hb (fun h => H2 (by simpa using h)) (fun h => H1 (by simpa using h))
theorem zan {x : Operand} {y z : Code} {b : Bool} (hb : zE env.get x = .t (.bool b)) (H1 : b = true → CodeT P nt y env.get st.get Q) (H2 : b = false → CodeT P nt z env.get st.get Q) : CodeT P nt (.cond x y z) env.get st.get Q := k9 hb H1 H2
end
section
variable {P : Program} {nt : Nat} {ops : Array Oper} {o : Oper} {rest : List Oper} {env : EnvL} {st : StO} {acc : List SD} {K : EnvL → StO → List SD → Prop} {d : Nat}
theorem zlo {α : Type} {f : α → T} {l : List α} {i : Nat} (a : α) (h : i < l.length) : (l.map f).getD i .nilp = f (l.getD i a) := by
  simp [List.getD_eq_getElem?_getD, h]
theorem zq {α : Type} [Inhabited α] {f : α → T} {l : List α} {t elem : TypeId} {x ix : Operand} {sz : Nat} {k : IntKind} {i : Int} {bytes : Nat} {z : Value} (ho : o.op = .indexAddr t x ix) (hx : zE env.get x = .t (.sl sz (l.map f))) (hi : zE env.get ix = .t (.int k i)) [tu : TyU P t (.slice elem)] [ti : TyI P elem sz bytes z] (hd : o.dst = some d) (hn : (decide (d < nt)) = true) (hg : zC ops o env = true) (h0 : 0 ≤ i) (h1 : i < (l.length : Int))
    (H : LexP P nt ops rest ((d, .tp (f (l.getD i.toNat default)) 0) :: env) st (⟨true, [], .tp (f (l.getD i.toNat default)) 0, [], [], []⟩ :: acc) K) : LexP P nt ops (o :: rest) env st acc K := by
  have h1' : i < ((l.map f).length : Int) := by simpa using h1
  have e := zlo (f := f) (l := l) (i := i.toNat) default (toNat_lt h0 h1)
  refine zbp ho hx hi hd hn hg h0 h1' ?_
  rw [e]; exact H
theorem ziK {α : Type} {f : α → T} {l : List α} {t : TypeId} {x : Operand} {sz : Nat} {e : TypeId} (ho : o.op = .call { callee := .builtin .len, args := #[x], argTypes := #[t] }) (hx : zE env.get x = .t (.sl sz (l.map f))) [tu : TyU P t (.slice e)] (hd : o.dst = some d) (hn : (decide (d < nt)) = true) (hg : zC ops o env = true)
    (H : LexP P nt ops rest ((d, .t (.int .i64 (l.length : Int))) :: env) st (⟨true, [], .t (.int .i64 (l.length : Int)), [], [], []⟩ :: acc) K) : LexP P nt ops (o :: rest) env st acc K := by
  refine zkj ho hx hd hn hg ?_
  rw [List.length_map]; exact H
theorem zet {α : Type} {f : α → T} {l : List α} {t : TypeId} {x : Operand} {id : Id} {e e' : TypeId} {sz : Nat} (ho : o.op = .call { callee := .builtin .len, args := #[x], argTypes := #[t] }) (hx : zE env.get x = .row id) (hst : StO.get st id = some (.slt e' sz (l.map f))) [tu : TyU P t (.slice e)] (hd : o.dst = some d) (hn : (decide (d < nt)) = true) (hg : zC ops o env = true)
    (H : LexP P nt ops rest ((d, .t (.int .i64 (l.length : Int))) :: env) st (⟨true, [(id, .slt e' sz (l.map f))], .t (.int .i64 (l.length : Int)), [(id, .slt e' sz (l.map f))], [], []⟩ :: acc) K) : LexP P nt ops (o :: rest) env st acc K := by
  refine zdC ho hx hst hd hn hg ?_
  rw [List.length_map]; exact H
theorem yS {α : Type} [Inhabited α] {f : α → T} {l : List α} {ty : TypeId} {p : Operand} {id : Id} {i sz off : Nat} {e : TypeId} {dd : TypeDesc} {y : T} (ho : o.op = .load ty p) (hp : zE env.get p = .ref id i sz off) [tu : TyU P ty dd] (ha : xk dd = false) (hst : StO.get st id = some (.slt e sz (l.map f))) (hy : (f (l.getD i default)).cells[off]? = some y) (hd : o.dst = some d) (hn : (decide (d < nt)) = true) (hg : zC ops o env = true) (hx : i < l.length)
    (H : LexP P nt ops rest ((d, .t y) :: env) st (⟨true, [(id, .slt e sz (l.map f))], .t y, [(id, .slt e sz (l.map f))], [], []⟩ :: acc) K) : LexP P nt ops (o :: rest) env st acc K :=
  zgp ho hp ha hst hd hn hg (x := f (l.getD i default)) (by rw [List.getElem?_map]; simp [List.getD_eq_getElem?_getD, hx]) hy H
end
theorem zr {n : Int} (h0 : -9223372036854775808 ≤ n) (h1 : n ≤ 9223372036854775807) : IntKind.i64.wrap n = n := by
  simp only [IntKind.wrap, IntKind.signed, IntKind.bits]
  simp
  split <;> omega
section
variable {P : Program} {env : EnvL} {st : StO}
theorem zdy (S : StL) : StO.get (S.map fun x => (x.1, some x.2)) = StL.get S := by
  funext id
  induction S with
  | nil => rfl
  | cons x S ih =>
    obtain ⟨i, r⟩ := x
    simp only [List.map_cons, StO.get, StL.get]
    split
    · rfl
    · exact ih
theorem yq {f : FuncId} {fn : Func} {c : Code} {args : List AV} {S S' : StL} {r : AV} {env0 : EnvL} {st0 : StO} (hf : P.funcs[f]? = some fn) (hb : fn.body = some c) (hn : (decide (args.length ≤ fn.ntmps)) = true) (he : zaM 0 args = env0) (hs : S.map (fun x => (x.1, some x.2)) = st0)
    (H : CodeT P fn.ntmps c env0.get st0.get (znZ P fn r S')) : Spec P f args S r S' := by
  subst he; subst hs
  rw [zdy] at H
  exact zeW hf hb (of_decide_eq_true hn) H
theorem zp {fn : Func} {r : AV} {S' : StL} (h1 : zgU P fn env.get st.get r) (h2 : ∀ x ∈ S', StO.get st x.1 = some x.2) : znZ P fn r S' .ret env.get st.get := ⟨h1, fun id row h => h2 _ (StL.get_mem h)⟩
theorem zns {fn : Func} {r : AV} {S' : StL} (h1 : zgU P fn env.get st.get r) (h2 : ∀ x ∈ S', StO.get st x.1 = some x.2) : znZ P fn r S' .normal env.get st.get := ⟨h1, fun id row h => h2 _ (StL.get_mem h)⟩
theorem AVLE.of_eq {x y : AV} (e : x = y) : AVLE x y := e ▸ AVLE.refl x
theorem zo {fn : Func} {t : Nat} {y x : T} (hr : fn.results = #[.tmp t]) (hx : env.get t = .t y) (e : y = x) : zgU P fn env.get st.get (.t x) := zK hr (AVLE.of_eq (by rw [hx, e]))
theorem zD {fn : Func} {t u : Nat} {y x y' x' : T} (hr : fn.results = #[.tmp t, .tmp u]) (hx : env.get t = .t y) (hx' : env.get u = .t y') (e : y = x) (e' : y' = x') : zgU P fn env.get st.get (.tup [.t x, .t x']) := wh hr (AVLE.of_eq (by rw [hx, e])) (AVLE.of_eq (by rw [hx', e']))
def zi6 : List Nat → EnvL → EnvL
  | [], _ => []
  | t :: ts, env => (t, env.get t) :: zi6 ts env
theorem zfO : ∀ (ts : List Nat) (env : EnvL) (t : Nat), EnvL.get (zi6 ts env) t = env.get t ∨ EnvL.get (zi6 ts env) t = .junk
  | [], env, t => .inr rfl
  | u :: ts, env, t => by
    simp only [zi6, EnvL.get]
    split
    · rename_i e; subst e; exact .inl rfl
    · exact zfO ts env t
theorem ziI {nt : Nat} (ts : List Nat) (env' : EnvL) (st' : StO) (he : zi6 ts env = env') (hs : ∀ x ∈ st', x.2 = none ∨ StO.get st x.1 = x.2) : Ghost nt env.get st.get env'.get st'.get := by
  subst he
  refine ziB (fun t => ?_) fun id row h => ?_
  · rcases zfO ts env t with h | h
    · rw [h]; exact AVLE.refl _
    · rw [h]; exact AVLE.junk _
  · have mem : ∀ {l : StO}, StO.get l id = some row → (id, some row) ∈ l := by
      intro l
      induction l with
      | nil => intro h; simp [StO.get] at h
      | cons x l ih =>
        obtain ⟨i, r⟩ := x
        intro hq
        simp only [StO.get] at hq
        split at hq
        · rename_i e; subst e; rw [hq]; simp
        · exact List.mem_cons_of_mem _ (ih hq)
    rcases hs _ (mem h) with h1 | h1
    · cases h1
    · exact h1
end
section
variable {P : Program} {nt : Nat} {ops : Array Oper} {rest : List Oper} {env : EnvL} {st : StO} {acc : List SD} {K : EnvL → StO → List SD → Prop} {d : Option Tmp} {ty : TypeId} {pos : String} {after : Array Edge} {g : Option (Nat × Bool)}
theorem zoi {x : Operand} (H : LexP P nt ops ({ dst := d, op := .move x, type := ty, pos := pos, after := after, guard := g } :: rest) env st acc K) : LexP P nt ops ({ dst := d, op := .move x, type := ty, pos := pos, after := after, guard := g } :: rest) env st acc K := H
theorem zlU {x : Operand} (H : LexP P nt ops ({ dst := d, op := .assign x, type := ty, pos := pos, after := after, guard := g } :: rest) env st acc K) : LexP P nt ops ({ dst := d, op := .assign x, type := ty, pos := pos, after := after, guard := g } :: rest) env st acc K := H
theorem znM {c x y : Operand} (H : LexP P nt ops ({ dst := d, op := .pick c x y, type := ty, pos := pos, after := after, guard := g } :: rest) env st acc K) : LexP P nt ops ({ dst := d, op := .pick c x y, type := ty, pos := pos, after := after, guard := g } :: rest) env st acc K := H
theorem zor {t : TypeId} {x : Operand} (H : LexP P nt ops ({ dst := d, op := .box t x, type := ty, pos := pos, after := after, guard := g } :: rest) env st acc K) : LexP P nt ops ({ dst := d, op := .box t x, type := ty, pos := pos, after := after, guard := g } :: rest) env st acc K := H
theorem zmD {t : TypeId} (H : LexP P nt ops ({ dst := d, op := .alloc t, type := ty, pos := pos, after := after, guard := g } :: rest) env st acc K) : LexP P nt ops ({ dst := d, op := .alloc t, type := ty, pos := pos, after := after, guard := g } :: rest) env st acc K := H
theorem zaY {t : TypeId} {x : Operand} (H : LexP P nt ops ({ dst := d, op := .load t x, type := ty, pos := pos, after := after, guard := g } :: rest) env st acc K) : LexP P nt ops ({ dst := d, op := .load t x, type := ty, pos := pos, after := after, guard := g } :: rest) env st acc K := H
theorem zmC {t : TypeId} {x y : Operand} (H : LexP P nt ops ({ dst := d, op := .store t x y, type := ty, pos := pos, after := after, guard := g } :: rest) env st acc K) : LexP P nt ops ({ dst := d, op := .store t x y, type := ty, pos := pos, after := after, guard := g } :: rest) env st acc K := H
theorem ziQ {x : Operand} (H : LexP P nt ops ({ dst := d, op := .nilCheck x, type := ty, pos := pos, after := after, guard := g } :: rest) env st acc K) : LexP P nt ops ({ dst := d, op := .nilCheck x, type := ty, pos := pos, after := after, guard := g } :: rest) env st acc K := H
theorem zgl {t : TypeId} {x : Operand} {k : Nat} (H : LexP P nt ops ({ dst := d, op := .fieldAddr t x k, type := ty, pos := pos, after := after, guard := g } :: rest) env st acc K) : LexP P nt ops ({ dst := d, op := .fieldAddr t x k, type := ty, pos := pos, after := after, guard := g } :: rest) env st acc K := H
theorem zA {t : TypeId} {x y : Operand} (H : LexP P nt ops ({ dst := d, op := .indexAddr t x y, type := ty, pos := pos, after := after, guard := g } :: rest) env st acc K) : LexP P nt ops ({ dst := d, op := .indexAddr t x y, type := ty, pos := pos, after := after, guard := g } :: rest) env st acc K := H
theorem zy {t : TypeId} {x y : Operand} (H : LexP P nt ops ({ dst := d, op := .index t x y, type := ty, pos := pos, after := after, guard := g } :: rest) env st acc K) : LexP P nt ops ({ dst := d, op := .index t x y, type := ty, pos := pos, after := after, guard := g } :: rest) env st acc K := H
theorem zM {b : BinOp} {t u : TypeId} {x y : Operand} (H : LexP P nt ops ({ dst := d, op := .binOp b t x y u, type := ty, pos := pos, after := after, guard := g } :: rest) env st acc K) : LexP P nt ops ({ dst := d, op := .binOp b t x y u, type := ty, pos := pos, after := after, guard := g } :: rest) env st acc K := H
theorem zn6 {b : UnOp} {t : TypeId} {x : Operand} (H : LexP P nt ops ({ dst := d, op := .unOp b t x, type := ty, pos := pos, after := after, guard := g } :: rest) env st acc K) : LexP P nt ops ({ dst := d, op := .unOp b t x, type := ty, pos := pos, after := after, guard := g } :: rest) env st acc K := H
theorem yJ {t u : TypeId} {x : Operand} (H : LexP P nt ops ({ dst := d, op := .convert t u x, type := ty, pos := pos, after := after, guard := g } :: rest) env st acc K) : LexP P nt ops ({ dst := d, op := .convert t u x, type := ty, pos := pos, after := after, guard := g } :: rest) env st acc K := H
theorem zj4 {x : Operand} {k : Nat} (H : LexP P nt ops ({ dst := d, op := .extract x k, type := ty, pos := pos, after := after, guard := g } :: rest) env st acc K) : LexP P nt ops ({ dst := d, op := .extract x k, type := ty, pos := pos, after := after, guard := g } :: rest) env st acc K := H
theorem ziM {f : Fn} {xs ys : Array Operand} (H : LexP P nt ops ({ dst := d, op := .makeFunc f xs ys, type := ty, pos := pos, after := after, guard := g } :: rest) env st acc K) : LexP P nt ops ({ dst := d, op := .makeFunc f xs ys, type := ty, pos := pos, after := after, guard := g } :: rest) env st acc K := H
theorem vB {t : TypeId} {x : Operand} {l h m : Option Operand} (H : LexP P nt ops ({ dst := d, op := .slice t x l h m, type := ty, pos := pos, after := after, guard := g } :: rest) env st acc K) : LexP P nt ops ({ dst := d, op := .slice t x l h m, type := ty, pos := pos, after := after, guard := g } :: rest) env st acc K := H
theorem zfw {t : TypeId} {n : Nat} {ps : Array (Nat × Operand)} (H : LexP P nt ops ({ dst := d, op := .buildSlice t n ps, type := ty, pos := pos, after := after, guard := g } :: rest) env st acc K) : LexP P nt ops ({ dst := d, op := .buildSlice t n ps, type := ty, pos := pos, after := after, guard := g } :: rest) env st acc K := H
theorem znq {t : TypeId} {ps : Array (Nat × Operand)} (H : LexP P nt ops ({ dst := d, op := .build t ps, type := ty, pos := pos, after := after, guard := g } :: rest) env st acc K) : LexP P nt ops ({ dst := d, op := .build t ps, type := ty, pos := pos, after := after, guard := g } :: rest) env st acc K := H
theorem zoB {xs : Array Operand} {ts : Array TypeId} (H : LexP P nt ops ({ dst := d, op := .call { callee := .builtin .len, args := xs, argTypes := ts }, type := ty, pos := pos, after := after, guard := g } :: rest) env st acc K) : LexP P nt ops ({ dst := d, op := .call { callee := .builtin .len, args := xs, argTypes := ts }, type := ty, pos := pos, after := after, guard := g } :: rest) env st acc K := H
theorem zw {xs : Array Operand} {ts : Array TypeId} (H : LexP P nt ops ({ dst := d, op := .call { callee := .builtin .append, args := xs, argTypes := ts }, type := ty, pos := pos, after := after, guard := g } :: rest) env st acc K) : LexP P nt ops ({ dst := d, op := .call { callee := .builtin .append, args := xs, argTypes := ts }, type := ty, pos := pos, after := after, guard := g } :: rest) env st acc K := H
theorem zoo {xs : Array Operand} {ts : Array TypeId} (H : LexP P nt ops ({ dst := d, op := .call { callee := .builtin .min, args := xs, argTypes := ts }, type := ty, pos := pos, after := after, guard := g } :: rest) env st acc K) : LexP P nt ops ({ dst := d, op := .call { callee := .builtin .min, args := xs, argTypes := ts }, type := ty, pos := pos, after := after, guard := g } :: rest) env st acc K := H
theorem ze {f : Operand} {xs : Array Operand} {ts : Array TypeId} (H : LexP P nt ops ({ dst := d, op := .call { callee := .value f, args := xs, argTypes := ts }, type := ty, pos := pos, after := after, guard := g } :: rest) env st acc K) : LexP P nt ops ({ dst := d, op := .call { callee := .value f, args := xs, argTypes := ts }, type := ty, pos := pos, after := after, guard := g } :: rest) env st acc K := H
theorem zmw {o : Op} {j : Nat} {b : Bool} (H : LexP P nt ops ({ dst := d, op := o, type := ty, pos := pos, after := after, guard := some (j, b) } :: rest) env st acc K) : LexP P nt ops ({ dst := d, op := o, type := ty, pos := pos, after := after, guard := some (j, b) } :: rest) env st acc K := H
end
end Go.AL
namespace Go.AL
open Go Go.RowKit Go.ChangeShapes Go.WideShapes Go.ChangeMaps
def xA (w : World) : Heap := fun b => w.heap[b]?
theorem xh {w : World} {b o : Nat} : hcell (xA w) b o = w.cell? ⟨b, o, none⟩ := by
  unfold hcell xA World.cell?
  cases w.heap[b]? with
  | none => rfl
  | some x => cases x <;> simp
theorem zmO (w : World) (m : zQ) : Sim (xA w) m (StL.get []) w :=
  ⟨fun b o h => h, fun id row h => by simp [StL.get] at h, fun id row b h => by simp [StL.get] at h, fun id id' r r' b h => by simp [StL.get] at h⟩
theorem Spec.calls {P : Program} {f : FuncId} {args : List AV} {b : Bool} (S : Spec P f args [] (.t (.bool b)) []) {vs : Array Value} {w : World} (hn : vs.size = args.length) (hr : RepAs (xA w) (fun _ => undef) (fun j => vs[j]?) 0 args) :
    Calls P f vs w fun e w' => e = .returned (.bool b) ∧ Below w.heap.size w w' := by
  refine (S.run _ _ vs w (zmO w _) hn hr).mono ?_
  rintro e w' ⟨v, h', m', rfl, hv, hs, hf⟩
  refine ⟨by simp only [RepA, RepT] at hv; rw [hv], hf.foot.os, hf.foot.tape, hf.foot.output, hf.foot.size, fun k hk => (hf.foot.keep k hk (fun id row h => by simp [StL.get] at h)).1⟩
section
variable {H : Type} {enc : TypeId × Value → H} {P : Program}
theorem jw (hl : laidOutB P = true) {W W' : World} (hb : Below W.heap.size W W') {sp : Nat → Bool} : ∀ {ts : List TypeId} {vs : List Value} {ds : List (DataW H)} {ps : List MemPlace},
    (∀ t ∈ ts, P.readableRec t = true ∧ t < P.types.size) → DataW.TrodAll enc P W 0 (fun _ => true) true ts vs ds ps → (∀ p ∈ ps, p.block < W.heap.size ∧ sp p.block = true) → DataW.TrodAll enc P W' 0 sp true ts vs ds ps
  | [], _, _, _, _, h, _ => by
    obtain ⟨rfl, rfl, rfl⟩ := trodAll_nil h
    exact trodAll_mk0
  | t :: ts, _, _, _, ht, h, hp => by
    obtain ⟨v, vs1, d, ds1, a, b, rfl, rfl, rfl, h1, h2⟩ := trodAll_cons h
    obtain ⟨r1, r2⟩ := ht t (List.mem_cons_self ..)
    exact trodAll_cons_mk (WideElems.Trod_stays hl r1 r2 h1 (fun x hx => hb.same (hp x (List.mem_append.2 (.inl hx))).1) (fun x hx => (hp x (List.mem_append.2 (.inl hx))).2))
      (jw hl hb (fun t' h' => ht t' (List.mem_cons_of_mem _ h')) h2 (fun x hx => hp x (List.mem_append.2 (.inr hx))))
theorem zlS {f : Func} {s : ChangeSpec} {apart fresh handsOn again : Bool} {W W' : World} {args : Array Value} {ds gs : List (DataW H)} {before : List MemPlace} {tb : TypeId}
    (hl : laidOutB P = true) (hv : s.vars = []) (hW : DataW.Whole enc P f.params.toList s.vars apart W args.toList ds gs before)
    (hts : ∀ t ∈ f.params.toList, P.readableRec t = true ∧ t < P.types.size)
    (hr : f.resultTypes = #[tb]) (hu : P.underlying tb = some .bool)
    (hfn : ∀ ds : List (DataW H), ds.length = f.params.toList.length → s.fn H ds = { results := [.lit (.bool true)], args := ds })
    (hb : Below W.heap.size W W') : s.post enc P f apart fresh handsOn again W args (.bool true) W' := by
  have hW' := hW
  obtain ⟨p, q, hA, hV, rfl, hfz, hnd⟩ := hW
  have hV' := hV
  rw [hv] at hV
  obtain ⟨rfl, rfl⟩ := trodVars_none hV
  have hlt := hW'.lt
  have hlen : ds.length = f.params.toList.length := by
    have : ∀ {ts : List TypeId} {vs : List Value} {ds : List (DataW H)} {ps : List MemPlace}, DataW.TrodAll enc P W 0 (fun _ => true) true ts vs ds ps → ds.length = ts.length := by
      intro ts
      induction ts with
      | nil => intro vs ds ps h; obtain ⟨_, rfl, _⟩ := trodAll_nil h; rfl
      | cons t ts ih =>
        intro vs ds ps h
        obtain ⟨v, vs1, d, ds1, a, b, rfl, rfl, rfl, h1, h2⟩ := trodAll_cons h
        simp [ih h2]
    exact this hA
  have e := hfn ds hlen
  have hz : ∀ b off, MemPlace.cell b off ∈ p → W'.frozen? ⟨b, off, none⟩ = false := fun b off hp => by
    rw [hb.frozen (p := ⟨b, off, none⟩) (by simpa [MemPlace.block] using hlt (.cell b off) (by simpa using hp))]
    exact hfz b off (by simpa using hp)
  have hargs : ∀ sp : Nat → Bool, (∀ x ∈ p, sp x.block = true) → DataW.TrodAll enc P W' 0 sp true f.params.toList args.toList ds p := fun sp hsp =>
    jw hl hb hts hA (fun x hx => ⟨hlt x (by simpa using hx), hsp x hx⟩)
  have hvars : ∀ sp : Nat → Bool, DataW.TrodVars enc P W' sp s.vars ([] : List (DataW H)) [] := fun sp => by rw [hv]; rfl
  have hres : ∀ (b : Nat) (sp : Nat → Bool) (hd : Bool), DataW.TrodAll enc P W' b sp hd f.resultTypes.toList ((Value.bool true).resultList f.resultTypes.size) [DataW.lit (.bool true)] [] := fun b sp hd => by
    rw [hr]; exact trodAll_cons_mk (shut_bool hu _) trodAll_mk0
  refine ⟨ds, [], p ++ [], [], p, [], hW', ?_, ?_, ?_, World.keptBut_mono (fun x hx => ⟨hx, ?_⟩) (hb.frame _), fun _ => ⟨?_, [DataW.lit (.bool true)] ++ ds, [], ([] ++ p) ++ [], ⟨[] ++ p, [], ?_, hvars _, rfl, ?_, ?_⟩, ?_⟩⟩
  · simp only [List.append_nil]; rw [e]; exact hres _ _ _
  · simp only [List.append_nil]; rw [e]; exact hargs _ (fun x hx => by simpa using hlt x (by simpa using hx))
  · simp only [List.append_nil]; rw [e]; exact hvars _
  · simp at hx; exact .inr (.inl hx)
  · exact ok_one (by rw [hr]) rfl (okWide_bool_mk hu _)
  · exact trodAll_append (hargs _ (fun _ _ => rfl)) (hres _ _ _)
  · intro b off hp; exact hz b off (by simpa using hp)
  · intro ha; simpa using hnd ha
  · intro x hx _; simpa using hx
end
theorem qW {H : Type} {P : Program} {t : TypeId} {d : DataW H} : ∀ {es : List (DataW H)}, d ∈ es → ∀ n ∈ DataW.weights P t d, n ∈ DataW.weightsAll P t es
  | x :: es, h, n, hn => by
    simp only [DataW.weightsAll, List.mem_append]
    rcases List.mem_cons.1 h with rfl | h
    · exact .inl hn
    · exact .inr (qW h n hn)
structure WtOK (P : Program) {H : Type} (mul : TypeId → Nat) (wt : TypeId → DataW H → List Nat) : Prop where
  str : ∀ t b, ∃ n ∈ wt t (.lit (.string b)), b.length ≤ n
  len : ∀ t e es sp, P.underlying t = some (.slice e) → ∃ n ∈ wt t (.slice es sp), es.length * mul e ≤ n
  elem : ∀ t e es sp x, P.underlying t = some (.slice e) → x ∈ es → ∀ n ∈ wt e x, ∃ n' ∈ wt t (.slice es sp), n ≤ n'
  part : ∀ (t : TypeId) (fs : Array Field) (ps : List (DataW H)) (i : Nat) (f : Field) (p : DataW H), P.underlying t = some (.struct fs) → fs[i]? = some f → ps[i]? = some p → ∀ n ∈ wt f.type p, ∃ n' ∈ wt t (.agg ps), n ≤ n'
theorem zao (P : Program) (H : Type) : WtOK P (H := H) P.bytesOf (DataW.weights P) where
  str t b := ⟨b.length, by simp [DataW.weights], Nat.le_refl _⟩
  len t e es sp ht := ⟨(es.length + sp.length) * P.bytesOf e, by simp [DataW.weights, ht], Nat.mul_le_mul_right _ (Nat.le_add_right _ _)⟩
  elem t e es sp x ht hx n hn := ⟨n, by simp only [DataW.weights, ht, List.mem_cons, List.mem_append]; exact .inr (.inl (qW hx n hn)), Nat.le_refl _⟩
  part t fs ps i f p ht hf hp n hn := ⟨n, by simp only [DataW.weights, ht]; exact DataW.weights_mem_each (j := i) (by simp [hf]) hp n hn, Nat.le_refl _⟩
structure Rd (P : Program) (t : TypeId) (n : Nat) (X : Type) where
  toT : X → T
  ok : (TypeId → Nat) → Nat → X → Prop
  len : ∀ x, (toT x).cells.length = n
  opens : ∀ {H : Type} {enc : TypeId × Value → H} {w : World} {base : Nat} {spare : Nat → Bool} {held : Bool} {fuel : Nat} {cs : List Value} {d : DataW H × List MemPlace}, DataW.trod enc P w base spare held fuel t cs = some d → ∀ {mul : TypeId → Nat} {wt : TypeId → DataW H → List Nat} {B : Nat}, WtOK P mul wt → (∀ n ∈ wt t d.1, n ≤ B) →
    ∃ x, ok mul B x ∧ cs.length = n ∧ ∀ (g : Nat → Option Value) (o : Nat), (∀ i u, cs[i]? = some u → g (o + i) = some u) → RepL (xA w) g o (toT x).cells
  one : ∀ {H : Type} {enc : TypeId × Value → H} {w : World} {base : Nat} {spare : Nat → Bool} {held : Bool} {v : Value} {d : DataW H} {ps : List MemPlace} {b0 : Nat}, DataW.Trod enc P w base spare held t v d ps → Value.okWide P w .any b0 t v → ∀ {mul : TypeId → Nat} {wt : TypeId → DataW H → List Nat} {B : Nat}, WtOK P mul wt → (∀ n ∈ wt t d, n ≤ B) →
    ∃ x, ok mul B x ∧ RepT (xA w) v (toT x)
section
variable {P : Program}
def Rd.int {t : TypeId} {k : IntKind} (ht : P.underlying t = some (.int k)) : Rd P t 1 Int where
  toT n := .int k n
  ok _ _ n := (Lit.int k n).wf = true
  len _ := rfl
  opens h _ _ _ _ _ := by
    obtain ⟨n, rfl, rfl, hw⟩ := DataW.trod_int ht h
    refine ⟨n, hw, rfl, fun g o hg => ?_⟩
    simp only [T.cells, RepL, and_true]
    exact ⟨_, by simpa using hg 0 _ rfl, rfl, rfl⟩
  one hd hv _ _ _ _ _ := by
    obtain ⟨n, rfl, _, _, hw⟩ := open_int ht hv hd
    exact ⟨n, hw, rfl⟩
def Rd.bool {t : TypeId} (ht : P.underlying t = some .bool) : Rd P t 1 Bool where
  toT b := .bool b
  ok _ _ b := True
  len _ := rfl
  opens h _ _ _ _ _ := by
    obtain ⟨n, rfl, rfl⟩ := DataW.trod_bool ht h
    refine ⟨n, trivial, rfl, fun g o hg => ?_⟩
    simp only [T.cells, RepL, and_true]
    exact ⟨_, by simpa using hg 0 _ rfl, rfl, rfl⟩
  one hd hv _ _ _ _ _ := by
    obtain ⟨n, rfl, _, _⟩ := open_bool ht hv hd
    exact ⟨n, trivial, rfl⟩
def Rd.str {t : TypeId} (ht : P.underlying t = some .string) : Rd P t 1 ByteArray where
  toT s := .str s
  ok _ B s := s.size ≤ maxLen ∧ s.size ≤ B
  len _ := rfl
  opens h mul wt B hwt hbk := by
    obtain ⟨n, rfl, rfl, hw⟩ := DataW.trod_string ht h
    refine ⟨n, ⟨hw, by obtain ⟨q, h1, h2⟩ := hwt.str t n.data.toList; have := hbk q h1; rw [Array.length_toList] at h2; exact Nat.le_trans h2 this⟩, rfl, fun g o hg => ?_⟩
    simp only [T.cells, RepL, and_true]
    exact ⟨_, by simpa using hg 0 _ rfl, rfl, rfl⟩
  one hd hv mul wt B hwt hbk := by
    obtain ⟨n, rfl, rfl, _, hw⟩ := open_string ht hv hd
    exact ⟨n, ⟨hw, by obtain ⟨q, h1, h2⟩ := hwt.str t n.data.toList; have := hbk q h1; rw [Array.length_toList] at h2; exact Nat.le_trans h2 this⟩, rfl⟩
def zmi {X : Type} (n : Nat) (f : X → T) : Option (List X) → T
  | none => .nilsl
  | some l => .sl n (l.map f)
theorem zhG {h : Heap} {g : Nat → Option Value} {sz : Nat} : ∀ {es : List T} {o : Nat}, (∀ i e, es[i]? = some e → e.cells.length = sz ∧ RepL h g (o + i * sz) e.cells) → RepEs h g o sz es
  | [], _, _ => by simp [RepEs]
  | e :: es, o, H => by
    rw [yU]
    refine ⟨by simpa using H 0 e rfl, zhG fun i e' he => ?_⟩
    have := H (i + 1) e' (by simpa using he)
    rw [Nat.add_mul, Nat.one_mul] at this
    rw [show o + sz + i * sz = o + (i * sz + sz) from by omega]; exact this
theorem zga {t e : TypeId} {n : Nat} {X : Type} (ht : P.underlying t = some (.slice e)) (hc : P.cellsOf e = n) (hn : 0 < n) (toT : X → T) (okX : X → Prop) (hlenT : ∀ x, (toT x).cells.length = n)
    {H : Type} {enc : TypeId × Value → H} {w : World} {base : Nat} {spare : Nat → Bool} {held : Bool} {fuel : Nat} {cs : List Value} {d : DataW H × List MemPlace} (h : DataW.trod enc P w base spare held fuel t cs = some d) {mul : TypeId → Nat} {wt : TypeId → DataW H → List Nat} {B : Nat} (hwt : WtOK P mul wt)
    (hop : ∀ (fuel' : Nat), fuel' < fuel → ∀ (cs : List Value) (d : DataW H × List MemPlace), DataW.trod enc P w base spare held fuel' e cs = some d → (∀ n ∈ wt e d.1, n ≤ B) → ∃ x, okX x ∧ cs.length = n ∧ ∀ (g : Nat → Option Value) (o : Nat), (∀ i u, cs[i]? = some u → g (o + i) = some u) → RepL (xA w) g o (toT x).cells) (hbk : ∀ n ∈ wt t d.1, n ≤ B) :
    ∃ v, cs = [v] ∧ v.oneCell' = true ∧ ∃ x : Option (List X), (∀ l, x = some l → l.length ≤ maxLen ∧ l.length * mul e ≤ B ∧ ∀ y ∈ l, okX y) ∧ RepT (xA w) v (zmi n toT x) := by
  rcases DataW.trod_slice ht h with ⟨rfl, _⟩ | ⟨a, len, cap, elems, rest, m, hfu, rfl, rfl, hb, hl, hm, hlen, hel, hsp, hns⟩
  · exact ⟨_, rfl, rfl, none, ⟨(fun l h => by cases h), rfl⟩⟩
  · rw [hc] at hel
    have hKe : ∀ x ∈ elems, ∀ n ∈ wt e x.1, n ≤ B := fun x hx n hn => by
      obtain ⟨q, h1, h2⟩ := hwt.elem t e (elems.map (·.1)) (rest.map (·.1)) x.1 ht (List.mem_map_of_mem (f := (·.1)) hx) n hn
      exact Nat.le_trans h2 (hbk q h1)
    have hKl : elems.length * mul e ≤ B := by
      obtain ⟨q, h1, h2⟩ := hwt.len t e (elems.map (·.1)) (rest.map (·.1)) ht
      rw [List.length_map] at h2
      exact Nat.le_trans h2 (hbk q h1)
    have key : ∀ i, i < len → ∃ x, okX x ∧ ∃ cs, w.cells? base (a.add (i * n)) n = some cs ∧ cs.length = n ∧ ∀ (g : Nat → Option Value) (o : Nat), (∀ i u, cs[i]? = some u → g (o + i) = some u) → RepL (xA w) g o (toT x).cells := fun i hi => by
      have h1 := hel i hi
      have h2 : elems[i]? = some (elems[i]'(by omega)) := List.getElem?_eq_getElem (by omega)
      rw [h2] at h1
      cases hcs : w.cells? base (a.add (i * n)) n with
      | none => rw [hcs] at h1; simp at h1
      | some cs =>
        rw [hcs] at h1
        obtain ⟨x, k1, k2, k3⟩ := hop m (by omega) _ _ (by simpa using h1) (hKe _ (List.getElem_mem _))
        exact ⟨x, k1, cs, rfl, k2, k3⟩
    have cellAt : ∀ i cs, w.cells? base (a.add (i * n)) n = some cs → cs.length = n → ∀ j u, cs[j]? = some u → w.cell? (a.add (i * n + j)) = some u := fun i cs hcs hcl j u hu => by
      unfold World.cells? at hcs
      split at hcs
      · have hj : j < n := by
          have := (List.getElem?_eq_some_iff.1 hu).1
          omega
        have := mapM_some_get hcs j j (by simp [hj])
        rw [hu] at this
        have e : (a.add (i * n)).add j = a.add (i * n + j) := by by_cases hj0 : j = 0 <;> by_cases hi0 : i * n = 0 <;> simp [Addr.add, hj0, hi0, Nat.add_assoc]
        rw [← e]; exact this
      · cases hcs
    have all : ∀ k, k ≤ len → ∃ xs : List X, xs.length = k ∧ (∀ y ∈ xs, okX y) ∧ ∀ i y, xs[i]? = some y → ∃ cs, w.cells? base (a.add (i * n)) n = some cs ∧ cs.length = n ∧ ∀ (g : Nat → Option Value) (o : Nat), (∀ i u, cs[i]? = some u → g (o + i) = some u) → RepL (xA w) g o (toT y).cells := fun k => by
      induction k with
      | zero => exact fun _ => ⟨[], rfl, by simp, by simp⟩
      | succ k ih =>
        intro hk
        obtain ⟨xs, h1, h2, h3⟩ := ih (by omega)
        obtain ⟨x, k1, cs, k2, k3, k4⟩ := key k (by omega)
        refine ⟨xs ++ [x], by simp [h1], ?_, ?_⟩
        · intro y hy
          rcases List.mem_append.1 hy with hy | hy
          · exact h2 y hy
          · simp at hy; subst hy; exact k1
        · intro i y hy
          by_cases hi : i < k
          · rw [List.getElem?_append_left (by omega)] at hy; exact h3 i y hy
          · rw [List.getElem?_append_right (by omega)] at hy
            have : i = k := by
              have := (List.getElem?_eq_some_iff.1 hy).1
              simp at this; omega
            subst this
            simp [h1] at hy
            subst hy
            exact ⟨cs, k2, k3, k4⟩
    obtain ⟨xs, h1, h2, h3⟩ := all len (Nat.le_refl _)
    refine ⟨_, rfl, rfl, some xs, ?_, ?_⟩
    · intro l hl'; cases hl'; exact ⟨by omega, by rw [h1, ← hlen]; exact hKl, h2⟩
    · simp only [zmi, RepT]
      refine ⟨some a, len, cap, rfl, by simp [h1], hl, ⟨hm, fun h => by cases h⟩, fun hne => ?_⟩
      have hpos : 0 < len := by omega
      obtain ⟨x, k1, cs, k2, k3, k4⟩ := key 0 hpos
      have hsp : a.spot = none := by
        have : cs[0]? = some (cs[0]'(by omega)) := List.getElem?_eq_getElem (by omega)
        have := cellAt 0 cs k2 k3 0 _ this
        simpa [Addr.add] using World.cell?_spot this
      obtain ⟨b, off, spot⟩ := a
      simp only at hsp
      subst hsp
      refine ⟨b, off, rfl, zhG fun i e he => ?_⟩
      rw [List.getElem?_map, Option.map_eq_some_iff] at he
      obtain ⟨y, hy, rfl⟩ := he
      obtain ⟨cs, k2, k3, k4⟩ := h3 i y hy
      refine ⟨hlenT y, k4 _ _ fun j u hu => ?_⟩
      have := cellAt i cs k2 k3 j u hu
      rw [add_plain] at this
      rw [xh]
      rw [Nat.add_assoc]; exact this
theorem Rd.slice_open {t e : TypeId} {n : Nat} {X : Type} (ht : P.underlying t = some (.slice e)) (hc : P.cellsOf e = n) (hn : 0 < n) (R : Rd P e n X)
    {H : Type} {enc : TypeId × Value → H} {w : World} {base : Nat} {spare : Nat → Bool} {held : Bool} {fuel : Nat} {cs : List Value} {d : DataW H × List MemPlace} (h : DataW.trod enc P w base spare held fuel t cs = some d) {mul : TypeId → Nat} {wt : TypeId → DataW H → List Nat} {B : Nat} (hwt : WtOK P mul wt) (hbk : ∀ n ∈ wt t d.1, n ≤ B) :
    ∃ v, cs = [v] ∧ v.oneCell' = true ∧ ∃ x : Option (List X), (∀ l, x = some l → l.length ≤ maxLen ∧ l.length * mul e ≤ B ∧ ∀ y ∈ l, R.ok mul B y) ∧ RepT (xA w) v (zmi n R.toT x) :=
  zga ht hc hn R.toT (R.ok mul B) R.len h hwt (fun fuel' _ cs d hd hB => R.opens hd hwt hB) hbk
def Rd.slice {t e : TypeId} {n : Nat} {X : Type} (ht : P.underlying t = some (.slice e)) (hc : P.cellsOf e = n) (hn : 0 < n) (R : Rd P e n X) : Rd P t 1 (Option (List X)) where
  toT := zmi n R.toT
  ok mul B x := ∀ l, x = some l → l.length ≤ maxLen ∧ l.length * mul e ≤ B ∧ ∀ y ∈ l, R.ok mul B y
  len x := by cases x <;> rfl
  opens h mul wt B hwt hbk := by
    obtain ⟨v, rfl, h1, x, hx, hr⟩ := Rd.slice_open ht hc hn R h hwt hbk
    refine ⟨x, hx, rfl, fun g o hg => ?_⟩
    have e : (zmi n R.toT x).cells = [zmi n R.toT x] := by cases x <;> rfl
    rw [e]
    simp only [RepL, and_true]
    exact ⟨v, by simpa using hg 0 _ rfl, h1, hr⟩
  one hd hv mul wt B hwt hbk := by
    obtain ⟨fuel, hf⟩ := hd
    obtain ⟨a, len, cap, rfl⟩ := okWide_slice ht hv
    obtain ⟨v, e, h1, x, hx, hr⟩ := Rd.slice_open ht hc hn R hf hwt hbk
    simp [Value.cells] at e
    subst e
    exact ⟨x, hx, hr⟩
theorem zjT {X : Type} {n : Nat} {f : X → T} {h : Heap} {v : Value} {x : Option (List X)} (H : RepT h v (zmi n f x)) : RepT h v (.sl n ((x.getD []).map f)) := by
  cases x with
  | some l => exact H
  | none =>
    simp only [zmi, RepT] at H
    simp only [RepT]
    exact ⟨none, 0, 0, H, by simp, Nat.le_refl _, ⟨Nat.zero_le _, fun _ => rfl⟩, fun h => absurd rfl h⟩
def Rd.list {t e : TypeId} {n : Nat} {X : Type} (ht : P.underlying t = some (.slice e)) (hc : P.cellsOf e = n) (hn : 0 < n) (R : Rd P e n X) : Rd P t 1 (List X) where
  toT l := .sl n (l.map R.toT)
  ok mul B l := l.length ≤ maxLen ∧ l.length * mul e ≤ B ∧ ∀ y ∈ l, R.ok mul B y
  len x := rfl
  opens h mul wt B hwt hbk := by
    obtain ⟨v, rfl, h1, x, hx, hr⟩ := Rd.slice_open ht hc hn R h hwt hbk
    refine ⟨x.getD [], ?_, rfl, fun g o hg => ?_⟩
    · cases x with
      | none => exact ⟨Nat.zero_le _, by simp, by simp⟩
      | some l => exact hx l rfl
    · simp only [T.cells, RepL, and_true]
      exact ⟨v, by simpa using hg 0 _ rfl, h1, zjT hr⟩
  one hd hv mul wt B hwt hbk := by
    obtain ⟨x, hx, hr⟩ := (Rd.slice ht hc hn R).one hd hv hwt hbk
    refine ⟨x.getD [], ?_, zjT hr⟩
    cases x with
    | none => exact ⟨Nat.zero_le _, by simp⟩
    | some l => exact hx l rfl
end
theorem zjF {h : Heap} {m : zQ} {g : Nat → Option Value} {o : Nat} : RepAs h m g o [] := trivial
theorem jZ {h : Heap} {m : zQ} {g : Nat → Option Value} {o : Nat} {v : Value} {x : T} {xs : List AV} (e : g o = some v) (H : RepT h v x) (H2 : RepAs h m g (o + 1) xs) : RepAs h m g o (.t x :: xs) := ⟨⟨v, e, H⟩, H2⟩
end Go.AL
set_option linter.unusedSimpArgs false
namespace Go.AL
open Go Go.RowKit
def zgt : Nat → List (Nat × AV) → Option (List T)
  | _, [] => some []
  | k, (i, .t e) :: ps => match i == k, zgt (k + 1) ps with
    | true, some l => some (e :: l)
    | _, _ => none
  | _, _ => none
theorem zdf {ps : List (Nat × AV)} {k : Nat} {es : List T} (h : zgt k ps = some es) : ps = (es.zipIdx k).map fun e => (e.2, AV.t e.1) := by
  induction ps generalizing k es with
  | nil => simp [zgt] at h; subst h; rfl
  | cons p ps ih =>
    obtain ⟨i, x⟩ := p
    cases x with
    | t e =>
      simp only [zgt] at h
      split at h
      · rename_i l hi h1
        cases h
        simp at hi
        subst hi
        simp [ih h1]
      · cases h
    | _ => simp [zgt] at h
theorem zie {α : Type} (A B C : List α) (off : Nat) (X : List α) (h : A.length = off) (h2 : X.length = B.length) : yP (A ++ B ++ C) off X = A ++ X ++ C := by
  subst h
  unfold yP
  rw [h2, ← List.length_append, List.drop_left, List.append_assoc A B C, List.take_left]
theorem zgk (e : T) : (AV.t e).cells = e.cells.map AV.t := by cases e <;> rfl
theorem zeq {sz : Nat} : ∀ (es : List T) (A : List AV) (k : Nat), A.length = k * sz → (∀ e ∈ es, e.cells.length = sz) →
    zev (A ++ List.replicate (es.length * sz) AV.junk) ((es.zipIdx k).map fun e => (e.2 * sz, AV.t e.1)) = A ++ (es.flatMap T.cells).map AV.t
  | [], A, k, hA, _ => by simp [zev]
  | e :: es, A, k, hA, he => by
    have h1 := he e (List.mem_cons_self ..)
    simp only [List.zipIdx_cons, List.map_cons, zev]
    have e1 : List.replicate ((e :: es).length * sz) AV.junk = List.replicate sz AV.junk ++ List.replicate (es.length * sz) AV.junk := by
      rw [List.length_cons, Nat.add_mul, Nat.one_mul, Nat.add_comm, List.replicate_append_replicate]
    rw [e1, ← List.append_assoc, zie A _ _ _ _ hA (by rw [zgk]; simp [h1]), zgk]
    rw [zeq es (A ++ e.cells.map AV.t) (k + 1) (by simp [hA, h1, Nat.add_mul]) (fun x hx => he x (List.mem_cons_of_mem _ hx))]
    simp
theorem zb8 {ρ : Operand → AV} {sz n : Nat} : ∀ (ps : List (Nat × Operand)) (es : List T) (k : Nat), ps.map (fun p => (p.1, ρ p.2)) = (es.zipIdx k).map (fun e => (e.2, AV.t e.1)) → (∀ e ∈ es, e.cells.length = sz) → (k + es.length) * sz ≤ n →
    PartsOK (fun i => some (i * sz, sz)) ρ n ps ((es.zipIdx k).map fun e => (e.2 * sz, AV.t e.1))
  | [], [], _, _, _, _ => by simp [PartsOK]
  | [], e :: es, _, h, _, _ => by simp at h
  | p :: ps, [], _, h, _, _ => by simp at h
  | (i, x) :: ps, e :: es, k, h, he, hn => by
    simp only [List.map_cons, List.zipIdx_cons, List.cons.injEq, Prod.mk.injEq] at h
    obtain ⟨⟨rfl, h2⟩, h3⟩ := h
    have h1 := he e (List.mem_cons_self ..)
    simp only [List.zipIdx_cons, List.map_cons, PartsOK]
    have hl : (AV.t e).cells.length = sz := by rw [zgk]; simp [h1]
    have e1 : i * sz + sz ≤ n := Nat.le_trans (by rw [List.length_cons, Nat.add_mul, Nat.add_mul]; omega) hn
    refine ⟨⟨h2.symm, rfl, by rw [hl], by rw [hl]; exact e1⟩, zb8 ps es (i + 1) h3 (fun x hx => he x (List.mem_cons_of_mem _ hx)) ?_⟩
    rw [List.length_cons] at hn
    rw [show i + 1 + es.length = i + (es.length + 1) from by omega]; exact hn
section
variable {P : Program} {nt : Nat} {ops : Array Oper} {o : Oper} {rest : List Oper} {env : EnvL} {st : StO} {acc : List SD} {K : EnvL → StO → List SD → Prop} {d : Nat}
theorem jO {R R' : StL} {N W : List Id} {r : AV} {st' : StO} (hT : OpT P o (zE env.get) (StL.get R) r (StL.get R') N) (hd : o.dst = some d) (hn : d < nt) (hw : q8 ops o env.get) (hsub : ∀ x ∈ R, StO.get st x.1 = some x.2) (hdom : ∀ id ∈ R'.ids, id ∈ R.ids ∨ id ∈ N) (hsame : ∀ id ∈ R.ids, id ∉ W → StL.get R' id = StL.get R id) (hloc : ∀ id ∈ N, id.isLoc = true) (hfr : xg N env st = true)
    (he : StO.get st' = StO.get (zgc R R' N st)) (H : LexP P nt ops rest ((d, r) :: env) st' (⟨true, R, r, R', W, N⟩ :: acc) K) : LexP P nt ops (o :: rest) env st acc K :=
  LexP.ex ⟨⟨true, R, r, R', W, N⟩, _, _, ⟨(fun t ht => by rw [hd] at ht; cases ht; exact hn), fun _ => ⟨hw, hT⟩, (fun h => by cases h), fun id row hr => hsub _ (StL.get_mem hr), ⟨hdom, hsame, hloc⟩, yO hfr⟩, (by rw [xJ]; unfold yp; rw [hd]), (by rw [he, jI]; rfl), H⟩
theorem zem {t elem : TypeId} {len : Nat} {parts : Array (Nat × Operand)} {sz bytes : Nat} {z : Value} {es : List T} (ho : o.op = .buildSlice t len parts) [tu : TyU P t (.slice elem)] [ti : TyI P elem sz bytes z]
    (hes : zgt 0 (parts.toList.map (fun p => (p.1, zE env.get p.2))) = some es) (hside : (decide (es.length = len) && (es.all (fun e => decide (e.cells.length = sz)) && (decide (z.cells.size = sz) && (decide (0 < sz) && (z.cells.toList.all Value.oneCell' && decide (len * sz ≤ 16777216)))))) = true)
    (hd : o.dst = some d) (hn : (decide (d < nt)) = true) (hg : zC ops o env = true) (hfr : xg [.loc d] env st = true)
    (H : LexP P nt ops rest ((d, .row (.loc d)) :: env) ((.loc d, some (.slt elem sz es)) :: st) (⟨true, [], .row (.loc d), [(.loc d, .slt elem sz es)], [], [.loc d]⟩ :: acc) K) : LexP P nt ops (o :: rest) env st acc K := by
  simp only [Bool.and_eq_true, decide_eq_true_eq, List.all_eq_true] at hside
  obtain ⟨s1, s2, s3, s4, s5, s6⟩ := hside
  have e := zdf hes
  subst s1
  have f := zeq (sz := sz) es [] 0 (by simp) s2
  simp only [List.nil_append] at f
  exact zfg (kL (.loc d) ho tu ti s3 s4 s5 s6 (zb8 _ _ 0 e s2 (by simp)) f rfl s2) hd hn hg rfl hfr H
end
def zn9 (id : Id) (x : T) : EnvL → EnvL
  | [] => []
  | (t, v) :: l => (t, v.sub id x) :: zn9 id x l
def zkd (id : Id) (x : T) : StO → StO
  | [] => []
  | (i, r) :: l => (i, r.map (Row.sub id x)) :: zkd id x l
theorem zhF {id : Id} {x : T} {t : Nat} : ∀ {l : EnvL}, EnvL.get (zn9 id x l) t = (EnvL.get l t).sub id x
  | [] => rfl
  | (i, v) :: l => by
    simp only [zn9, EnvL.get]
    split
    · rfl
    · exact zhF
theorem zfL {id : Id} {x : T} {j : Id} : ∀ {l : StO}, StO.get (zkd id x l) j = (StO.get l j).map (Row.sub id x)
  | [] => rfl
  | (i, v) :: l => by
    simp only [zkd, StO.get]
    split
    · rfl
    · exact zfL
theorem zB {nt : Nat} {env env' : EnvL} {st st' : StO} {id : Id} {e : TypeId} {sz : Nat} {es : List T} (hr : StO.get st id = some (.slt e sz es)) (he : zn9 id (.sl sz es) env = env') (hs : (id, none) :: zkd id (.sl sz es) st = st') : Ghost nt env.get st.get env'.get st'.get := by
  subst he; subst hs
  have := zfu (nt := nt) (env := env.get) (st := st.get) hr
  have e1 : (fun t => (env.get t).sub id (.sl sz es)) = EnvL.get (zn9 id (.sl sz es) env) := by funext t; exact zhF.symm
  have e2 : (fun j => if j = id then none else (st.get j).map (Row.sub id (.sl sz es))) = StO.get ((id, none) :: zkd id (.sl sz es) st) := by
    funext j
    simp only [StO.get]
    by_cases h : id = j
    · simp [h]
    · rw [if_neg h, if_neg (fun h' => h h'.symm), zfL]
  rw [e1, e2] at this
  exact this
end Go.AL
set_option linter.unusedSimpArgs false
namespace Go.AL
open Go Go.RowKit
section
variable {P : Program} {nt : Nat} {ops : Array Oper} {o : Oper} {rest : List Oper} {env : EnvL} {st : StO} {acc : List SD} {K : EnvL → StO → List SD → Prop} {d : Nat}
theorem jd {id : Id} {row : Row} (hfr : xg [.loc d] env st = true) (hst : StO.get st id = some row) : Id.loc d ≠ id := fun e => by
  have := (yO hfr).2 id _ hst
  rw [e] at this
  simp at this
theorem zh {s x : Operand} {t t2 elem e2 e2' : TypeId} {id id2 : Id} {sz bytes : Nat} {z : Value} {xs ys : List T} (ho : o.op = .call { callee := .builtin .append, args := #[s, x], argTypes := #[t, t2] }) (hs1 : zE env.get s = .row id) (hx : zE env.get x = .row id2) [tu : TyU P t (.slice elem)] [ti : TyI P elem sz bytes z] [tu2 : TyU P t2 (.slice e2)]
    (hst : StO.get st id = some (.slt elem sz xs)) (hst2 : StO.get st id2 = some (.slt e2' sz ys)) (hside : (decide (z.cells.size = sz) && (decide (0 < sz) && decide (id ≠ id2))) = true)
    (hd : o.dst = some d) (hn : (decide (d < nt)) = true) (hg : zC ops o env = true) (hfr : xg [.loc d] env st = true)
    (hb : (xs.length + ys.length) * bytes ≤ 140737488355328) (hm : xs.length + ys.length ≤ 9223372036854775807)
    (H : LexP P nt ops rest ((d, .row (.loc d)) :: env) ((.loc d, some (.slt elem sz (xs ++ ys))) :: (id, none) :: st) (⟨true, [(id, .slt elem sz xs), (id2, .slt e2' sz ys)], .row (.loc d), [(.loc d, .slt elem sz (xs ++ ys)), (id2, .slt e2' sz ys)], [id], [.loc d]⟩ :: acc) K) : LexP P nt ops (o :: rest) env st acc K := by
  simp only [Bool.and_eq_true, decide_eq_true_eq] at hside
  have hne := jd hfr hst
  have hne2 := jd hfr hst2
  refine jO (R := [(id, .slt elem sz xs), (id2, .slt e2' sz ys)]) (R' := [(.loc d, .slt elem sz (xs ++ ys)), (id2, .slt e2' sz ys)]) (N := [.loc d]) (W := [id]) (r := .row (.loc d)) ?_ hd (of_decide_eq_true hn) (yT hg) ?_ ?_ ?_ ?_ hfr ?_ H
  · exact j9 (R2 := [(id2, .slt e2' sz ys)]) (.loc d) ho hs1 tu ti tu2 (by rw [hx]; exact .row) hside.1 hside.2.1 (by simp [StL.ids, hside.2.2]) (by simp [StL.ids, hne2]) hb hm
  · intro y hy; simp at hy; rcases hy with rfl | rfl
    · exact hst
    · exact hst2
  · intro j hj; simp [StL.ids] at hj; rcases hj with rfl | rfl
    · exact .inr (by simp)
    · exact .inl (by simp [StL.ids])
  · intro j hj hj'; simp [StL.ids] at hj; simp at hj'; rcases hj with rfl | rfl
    · exact absurd rfl hj'
    · simp [StL.get, hne2, hside.2.2]
  · intro j hj; simp at hj; rw [hj]; rfl
  · funext y
    show StO.get ((.loc d, some (.slt elem sz (xs ++ ys))) :: (id, none) :: st) y = StO.get ((.loc d, some (.slt elem sz (xs ++ ys))) :: (id2, some (.slt e2' sz ys)) :: (id, none) :: (id2, none) :: (.loc d, none) :: st) y
    simp only [StO.get]
    by_cases e1 : Id.loc d = y
    · simp [e1]
    · by_cases e2 : id2 = y
      · subst e2; simp [hne2, hside.2.2, hst2]
      · simp [e1, e2]
theorem yH {s x : Operand} {t t2 elem : TypeId} {id : Id} {bytes : Nat} {z : Value} {xs : List T} {b : ByteArray} (ho : o.op = .call { callee := .builtin .append, args := #[s, x], argTypes := #[t, t2] }) (hs1 : zE env.get s = .row id) (hx : zE env.get x = .t (.str b)) [tu : TyU P t (.slice elem)] [ti : TyI P elem 1 bytes z] [tu2 : TyU P t2 .string]
    (hst : StO.get st id = some (.slt elem 1 xs)) (hside : (decide (z.cells.size = 1)) = true)
    (hd : o.dst = some d) (hn : (decide (d < nt)) = true) (hg : zC ops o env = true) (hfr : xg [.loc d] env st = true)
    (hb : (xs.length + (yW b).length) * bytes ≤ 140737488355328) (hm : xs.length + (yW b).length ≤ 9223372036854775807)
    (H : LexP P nt ops rest ((d, .row (.loc d)) :: env) ((.loc d, some (.slt elem 1 (xs ++ yW b))) :: (id, none) :: st) (⟨true, [(id, .slt elem 1 xs)], .row (.loc d), [(.loc d, .slt elem 1 (xs ++ yW b))], [id], [.loc d]⟩ :: acc) K) : LexP P nt ops (o :: rest) env st acc K := by
  have hne := jd hfr hst
  refine jO (R := [(id, .slt elem 1 xs)]) (R' := [(.loc d, .slt elem 1 (xs ++ yW b))]) (N := [.loc d]) (W := [id]) (r := .row (.loc d)) ?_ hd (of_decide_eq_true hn) (yT hg) ?_ ?_ ?_ ?_ hfr ?_ H
  · exact j9 (R2 := []) (.loc d) ho hs1 tu ti tu2 (by rw [hx]; exact .str rfl) (of_decide_eq_true hside) (by decide) (by simp [StL.ids]) (by simp [StL.ids]) hb hm
  · intro y hy; simp at hy; subst hy; exact hst
  · intro j hj; simp [StL.ids] at hj; exact .inr (by simp [hj])
  · intro j hj hj'; simp [StL.ids] at hj; simp [hj] at hj'
  · intro j hj; simp at hj; rw [hj]; rfl
  · funext y
    show StO.get ((.loc d, some (.slt elem 1 (xs ++ yW b))) :: (id, none) :: st) y = StO.get ((.loc d, some (.slt elem 1 (xs ++ yW b))) :: (id, none) :: (.loc d, none) :: st) y
    simp only [StO.get]
    by_cases e1 : Id.loc d = y
    · simp [e1]
    · simp [e1]
theorem zc0 {src dst elem : TypeId} {x : Operand} {s : ByteArray} (ho : o.op = .convert src dst x) (hx : zE env.get x = .t (.str s)) [ts : TyU P src .string] [td : TyU P dst (.slice elem)] [te : TyU P elem (.int .u8)]
    (hd : o.dst = some d) (hn : (decide (d < nt)) = true) (hg : zC ops o env = true) (hfr : xg [.loc d] env st = true) (hl : s.size ≤ 9223372036854775807)
    (H : LexP P nt ops rest ((d, .row (.loc d)) :: env) ((.loc d, some (.slt elem 1 (yW s))) :: st) (⟨true, [], .row (.loc d), [(.loc d, .slt elem 1 (yW s))], [], [.loc d]⟩ :: acc) K) : LexP P nt ops (o :: rest) env st acc K :=
  zfg (zgT (.loc d) ho hx ts td te hl) hd hn hg rfl hfr H
theorem z6 {src dst elem e' : TypeId} {x : Operand} {id : Id} {es : List T} (ho : o.op = .convert src dst x) (hx : zE env.get x = .row id) [ts : TyU P src (.slice elem)] [td : TyU P dst .string] [te : TyU P elem (.int .u8)] (hst : StO.get st id = some (.slt e' 1 es))
    (hd : o.dst = some d) (hn : (decide (d < nt)) = true) (hg : zC ops o env = true) (hu : znU es)
    (H : LexP P nt ops rest ((d, .t (.str (zbi es))) :: env) st (⟨true, [(id, .slt e' 1 es)], .t (.str (zbi es)), [(id, .slt e' 1 es)], [], []⟩ :: acc) K) : LexP P nt ops (o :: rest) env st acc K :=
  qk hst (zf4 (R2 := [(id, .slt e' 1 es)]) (d := .slice elem) ho (by rw [hx]; exact .row) ts td te hu) hd hn hg H
end
def zmB (σ : Id → Id) : EnvL → EnvL
  | [] => []
  | (t, v) :: l => (t, v.ren σ) :: zmB σ l
theorem zeB {σ : Id → Id} {t : Nat} : ∀ {l : EnvL}, EnvL.get (zmB σ l) t = (EnvL.get l t).ren σ
  | [] => rfl
  | (i, v) :: l => by
    simp only [zmB, EnvL.get]
    split
    · rfl
    · exact zeB
theorem kz {nt : Nat} {env : EnvL} {st : StO} (t : Nat) (id : Id) (e sz : Nat) (ht : EnvL.get env t = .t .nilsl) (hf : xg [id] env st = true) (hloc : id.isLoc = true) : Ghost nt env.get st.get (EnvL.get ((t, .row id) :: env)) (StO.get ((id, some (.slt e sz [])) :: st)) := by
  have := zj8 (nt := nt) (env := env.get) (st := st.get) (t := t) id e sz ht (yO hf) hloc
  have e1 : (fun x => if x = t then AV.row id else env.get x) = EnvL.get ((t, .row id) :: env) := by
    funext x
    simp only [EnvL.get]
    by_cases h : t = x
    · simp [h]
    · rw [if_neg h, if_neg (fun h' => h h'.symm)]
  have e2 : (fun x => if x = id then some (Row.slt e sz []) else st.get x) = StO.get ((id, some (.slt e sz [])) :: st) := by
    funext x
    simp only [StO.get]
    by_cases h : id = x
    · simp [h]
    · rw [if_neg h, if_neg (fun h' => h h'.symm)]
  rw [e1, e2] at this
  exact this
def ze2 (ids : List Id) (st : StO) : StO := match ids with
  | [] => []
  | i :: l => (i, StO.get st i) :: ze2 l st
theorem zc7 {st : StO} : ∀ {ids : List Id}, ∀ x ∈ ze2 ids st, x.2 = none ∨ StO.get st x.1 = x.2
  | [], x, h => by simp [ze2] at h
  | i :: l, x, h => by
    simp only [ze2, List.mem_cons] at h
    rcases h with rfl | h
    · exact .inr rfl
    · exact zc7 x h
theorem za {nt : Nat} {env env' : EnvL} {st st' : StO} (ts : List Nat) (ids : List Id) (he : zi6 ts env = env') (hs : ze2 ids st = st') : Ghost nt env.get st.get env'.get st'.get := by
  subst hs
  exact ziI ts env' _ he zc7
def stR (a b : Id) : StO → StO
  | [] => []
  | (i, r) :: l => (qH a b i, r.map (Row.ren (qH a b))) :: stR a b l
theorem zgz {a b j : Id} (hab : a ≠ b) : ∀ {l : StO}, zaW [b] l = true → StO.get (stR a b l) j = if j = b then (StO.get l a).map (Row.ren (qH a b)) else if j = a then none else (StO.get l j).map (Row.ren (qH a b))
  | [], _ => by simp [stR, StO.get]
  | (i, r) :: l, h => by
    simp only [zaW, Bool.and_eq_true, Bool.not_eq_true'] at h
    have hib : i ≠ b := by have := h.1.1; simpa using this
    simp only [stR, StO.get, zgz hab h.2]
    unfold qH
    by_cases e1 : i = a
    · subst e1
      by_cases e2 : j = b
      · subst e2; simp
      · by_cases e3 : j = i
        · subst e3; simp [e2, Ne.symm e2]
        · simp [e2, e3, Ne.symm e2, Ne.symm e3]
    · by_cases e2 : j = b
      · subst e2; simp [e1, hib]
      · by_cases e3 : j = a
        · subst e3; simp [e1, e2]
        · simp [e1, e2, e3]
          by_cases e4 : i = j
          · subst e4; simp
          · simp [e4]
theorem zg {nt : Nat} {env env' : EnvL} {st st' : StO} (a b : Id) (hab : (decide (a ≠ b) && (a.isLoc && !vn b)) = true) (hf : xg [b] env st = true) (he : zmB (qH a b) env = env') (hs : stR a b st = st') : Ghost nt env.get st.get env'.get st'.get := by
  subst he; subst hs
  simp only [Bool.and_eq_true, decide_eq_true_eq, Bool.not_eq_true'] at hab
  have := zkq (nt := nt) (env := env.get) (st := st.get) a b hab.1 hab.2.1 hab.2.2 (yO hf)
  have e1 : (fun t => (env.get t).ren (qH a b)) = EnvL.get (zmB (qH a b) env) := by funext t; exact zeB.symm
  have hf2 : zaW [b] st = true := by unfold xg at hf; simp only [Bool.and_eq_true] at hf; exact hf.2
  have e2 : (fun j => if j = b then (st.get a).map (Row.ren (qH a b)) else if j = a then none else (st.get j).map (Row.ren (qH a b))) = StO.get (stR a b st) := by
    funext j
    exact (zgz hab.1 hf2).symm
  rw [e1, e2] at this
  exact this
end Go.AL
set_option linter.unusedSimpArgs false
namespace Go.AL
open Go Go.RowKit
def xW : TypeDesc → T → Bool
  | .string, .str _ => true
  | .int k, .int k' _ => decide (k' = k)
  | .bool, .bool _ => true
  | _, _ => false
def zaj : T → T → Bool
  | .str a, .str b => decide (a = b)
  | .int _ a, .int _ b => decide (a = b)
  | .bool a, .bool b => decide (a = b)
  | _, _ => false
def kg : List (T × T) → T → Option T
  | [], _ => none
  | (k, v) :: es, x => if zaj x k then some v else kg es x
def zcR : List (T × T) → T → T → List (T × T)
  | [], x, y => [(x, y)]
  | (k, v) :: es, x, y => if zaj x k then (k, y) :: es else (k, v) :: zcR es x y
def xp (d : TypeDesc) : List (T × T) → Bool
  | [] => true
  | (k, _) :: es => xW d k && xp d es
theorem zg3 {h : Heap} {d : TypeDesc} {x k : T} {u v : Value} (hx : xW d x = true) (hk : xW d k = true) (r1 : RepT h u x) (r2 : RepT h v k) : Instr.sameNow d u v = some (zaj x k) := by
  cases d <;> cases x <;> simp [xW] at hx <;> cases k <;> simp [xW] at hk <;> simp only [RepT] at r1 r2 <;> subst r1 <;> subst r2
  · rename_i a b
    cases a <;> cases b <;> rfl
  · subst hx; subst hk
    rename_i k a b
    simp only [Instr.sameNow, zaj, if_true]
    congr 1
  · rename_i a b
    simp only [Instr.sameNow, zaj]
    congr 1
    by_cases e : a = b
    · subst e; simp [(MapKept.bytes_beq a a).2 rfl]
    · have : (a == b) = false := by
        cases hab : (a == b) with
        | false => rfl
        | true => exact absurd ((MapKept.bytes_beq a b).1 hab) e
      simp [e, this]
theorem jj {h : Heap} {d : TypeDesc} {x : T} {u : Value} (hx : xW d x = true) (r1 : RepT h u x) : MapKept.IsKey d u := by
  cases d <;> cases x <;> simp [xW] at hx <;> simp only [RepT] at r1 <;> subst r1 <;> simp [MapKept.IsKey, hx]
theorem kR {h : Heap} {d : TypeDesc} {x : T} {u : Value} (hx : xW d x = true) (r1 : RepT h u x) : ∀ {xs : List MapEntry} {es : List (T × T)} (i : Nat), RepEnts h xs es → xp d es = true →
    (kg es x = none ∧ Instr.findNow d u xs i = some none ∧ zcR es x = fun y => es ++ [(x, y)]) ∨
    ∃ y v j e, kg es x = some y ∧ Instr.findNow d u xs i = some (some (i + j, v)) ∧ RepT h v y ∧ xs[j]? = some e ∧ e.key = u ∧ ∀ (f : MapEntry → MapEntry) (z : T) (fv : Value), (∀ e, e.key = u → (f e).key = u ∧ (f e).val = fv) → RepT h fv z → RepEnts h (xs.modify j f) (zcR es x z)
  | [], [], i, _, _ => .inl ⟨rfl, rfl, rfl⟩
  | [], _ :: _, i, H, _ => H.elim
  | _ :: _, [], i, H, _ => H.elim
  | e :: xs, (k, v) :: es, i, H, hk => by
    simp only [xp, Bool.and_eq_true] at hk
    obtain ⟨H1, H2, H3⟩ := H
    have hs := zg3 hx hk.1 r1 H1
    cases hq : zaj x k with
    | true =>
      right
      have hkey : e.key = u := by
        have h1 := jj hx r1
        have h2 := jj hk.1 H1
        obtain ⟨r, hr, hiff⟩ := MapKept.sameNow_of_keys h1 h2
        rw [hs, hq] at hr
        cases hr
        exact (hiff.1 rfl).symm
      refine ⟨v, e.val, 0, e, by simp [kg, hq], by simp [Instr.findNow, hs, hq], H2, rfl, hkey, ?_⟩
      intro f z fv hf hz
      obtain ⟨f1, f2⟩ := hf e hkey
      simp only [zcR, hq, if_true, List.modify_zero_cons]
      exact ⟨by rw [f1, ← hkey]; exact H1, by rw [f2]; exact hz, H3⟩
    | false =>
      rcases kR hx r1 (i + 1) H3 hk.2 with ⟨g1, g2, g3⟩ | ⟨y, v', j, e', g1, g2, g3, g4, g5, g6⟩
      · left
        refine ⟨by simp [kg, hq, g1], by simp [Instr.findNow, hs, hq, g2], ?_⟩
        funext z
        simp [zcR, hq, g3]
      · right
        refine ⟨y, v', j + 1, e', by simp [kg, hq, g1], by simp [Instr.findNow, hs, hq, g2]; omega, g3, by simpa using g4, g5, ?_⟩
        intro f z fv hf hz
        simp only [zcR, hq, List.modify_succ_cons]
        exact ⟨H1, H2, g6 f z fv hf hz⟩
theorem vz {h : Heap} : ∀ {xs ys : List MapEntry} {es fs : List (T × T)}, RepEnts h xs es → RepEnts h ys fs → RepEnts h (xs ++ ys) (es ++ fs)
  | [], _, [], _, _, H => H
  | [], _, _ :: _, _, H, _ => H.elim
  | _ :: _, _, [], _, H, _ => H.elim
  | x :: xs, ys, (k, v) :: es, fs, H, H2 => ⟨H.1, H.2.1, vz H.2.2 H2⟩
theorem zf5 {ents : Array MapEntry} {clock : Nat} (S : zaN ents.toList clock) (e : MapEntry) (he : e.born = clock) : zaN (ents.push e).toList (clock + 1) := by
  refine ⟨fun x hx => ?_, ?_⟩
  · simp only [Array.toList_push, List.mem_append, List.mem_singleton] at hx
    rcases hx with hx | rfl
    · exact Nat.lt_succ_of_lt (S.1 x hx)
    · omega
  · simp only [Array.toList_push, List.map_append, List.map_cons, List.map_nil]
    rw [List.nodup_append]
    refine ⟨S.2, by simp, fun a ha b hb => ?_⟩
    obtain ⟨x, hx, rfl⟩ := List.mem_map.1 ha
    have := S.1 x hx
    simp at hb
    omega
theorem zcg (f : MapEntry → MapEntry) (hf : ∀ e, (f e).born = e.born) : ∀ (l : List MapEntry) (j : Nat), (l.modify j f).map (·.born) = l.map (·.born)
  | [], j => by simp
  | x :: l, 0 => by simp [hf]
  | x :: l, j + 1 => by simp [zcg f hf l j]
theorem zef {ents : List MapEntry} {clock : Nat} (S : zaN ents clock) (f : MapEntry → MapEntry) (j : Nat) (hf : ∀ e, (f e).born = e.born) : zaN (ents.modify j f) clock := by
  have hm := zcg f hf ents j
  refine ⟨fun x hx => ?_, by rw [hm]; exact S.2⟩
  have h1 : x.born ∈ (ents.modify j f).map (·.born) := List.mem_map.2 ⟨x, hx, rfl⟩
  rw [hm] at h1
  obtain ⟨y, hy, e⟩ := List.mem_map.1 h1
  rw [← e]; exact S.1 y hy
section
variable {P : Program} {o : Oper} {ρ : Operand → AV}
theorem zgS {t : TypeId} (id : Id) (ho : o.op = .makeMap t none) : OpT P o ρ (StL.get []) (.row id) (StL.get [(id, .dat (.map []))]) [id] := by
  refine OpT.of ?_
  intro h m a w hs hr K Q hK
  have hrun : (execOp a.eval o).run P w = .ok (.value (.map (some w.heap.size))) (w.alloc (.map #[] 0)) := by
    simp [execOp, ho, RowKit.run_makeMap]
  obtain ⟨s1, s2⟩ := zaf (m := m) hs.imm (vj w (.map #[] 0)) (id := id) (v := .map (some w.heap.size)) rfl (row := .dat (.map []))
    ⟨w.heap.size, .map #[] 0, by rw [zu]; rfl, vk w _, w.heap.size, #[], 0, zu _ _ _, rfl, trivial, ⟨fun x hx => by simp at hx, by simp⟩⟩
  unfold Oper.wp
  rw [hrun]
  exact hK _ h _ _ ⟨(zu _ _ _).symm, rfl⟩ s1 s2 fun _ => zU
theorem zge {h : Heap} {m : zQ} {w : World} {id : Id} {es : List (T × T)} (hs : Sim h m (StL.get [(id, .dat (.map es))]) w) : ∃ r ents clock, m id = .map (some r) ∧ w.heap[r]? = some (.map ents clock) ∧ RepEnts h ents.toList es ∧ zaN ents.toList clock := by
  obtain ⟨b, ob, e1, e2, r, ents, clock, e3, e4, e5, e6⟩ := qO hs (yz id _)
  rw [e3] at e1
  simp [blk] at e1
  subst e1
  exact ⟨r, ents, clock, e3, by rw [e2, e4], e5, e6⟩
theorem zcZ {t kt et : TypeId} {x ix : Operand} {ok : Bool} {id : Id} {es : List (T × T)} {k zT : T} {kd : TypeDesc} {sz bytes : Nat} {z : Value} (ho : o.op = .lookup t x ix ok) (hx : ρ x = .row id) (hk : ρ ix = .t k) (tu : TyU P t (.map kt et)) (td : TyU P kt kd) (ti : TyI P et sz bytes z)
    (hz : ∀ h, RepT h z zT) (hkey : xW kd k = true) (hes : xp kd es = true) :
    OpT P o ρ (StL.get [(id, .dat (.map es))]) (if ok then .tup [.t ((kg es k).getD zT), .t (.bool (kg es k).isSome)] else .t ((kg es k).getD zT)) (StL.get [(id, .dat (.map es))]) [] :=
  xX fun h m a w hs hr => by
    have r1 := hr x (by simp [ho, Op.operands])
    have r2 := hr ix (by simp [ho, Op.operands])
    rw [hx] at r1
    rw [hk] at r2
    simp only [RepA] at r1 r2
    obtain ⟨r, ents, clock, e1, e2, e3, _⟩ := zge hs
    rw [e1] at r1
    have hK := jj hkey r2
    rcases kR hkey r2 0 e3 hes with ⟨g1, g2, g3⟩ | ⟨y, v, j, e, g1, g2, g3, g4, g5, g6⟩
    · cases ok with
      | true => exact ⟨.tuple #[z, .bool false], by simp [execOp, ho, r1.1, Instr.lookup, run_underlying tu.h, MapKept.run_getObj_map e2, MapKept.run_checkKey td.h hK, MapKept.run_findKey td.h g2, yv ti, Result.andThen], by
          simp only [if_true, RepA, g1, Option.getD_none, Option.isSome_none]
          exact ⟨_, rfl, rfl, ⟨z, rfl, hz h⟩, ⟨_, rfl, rfl⟩, trivial⟩⟩
      | false => exact ⟨z, by simp [execOp, ho, r1.1, Instr.lookup, run_underlying tu.h, MapKept.run_getObj_map e2, MapKept.run_checkKey td.h hK, MapKept.run_findKey td.h g2, yv ti, Result.andThen], by
          simp only [RepA, g1, Option.getD_none]
          exact hz h⟩
    · cases ok with
      | true => exact ⟨.tuple #[v, .bool true], by simp [execOp, ho, r1.1, Instr.lookup, run_underlying tu.h, MapKept.run_getObj_map e2, MapKept.run_checkKey td.h hK, MapKept.run_findKey td.h g2, Result.andThen], by
          simp only [if_true, RepA, g1, Option.getD_some, Option.isSome_some]
          exact ⟨_, rfl, rfl, ⟨v, rfl, g3⟩, ⟨_, rfl, rfl⟩, trivial⟩⟩
      | false => exact ⟨v, by simp [execOp, ho, r1.1, Instr.lookup, run_underlying tu.h, MapKept.run_getObj_map e2, MapKept.run_checkKey td.h hK, MapKept.run_findKey td.h g2, Result.andThen], by
          simp only [RepA, g1, Option.getD_some]
          exact g3⟩
theorem jp {t kt et : TypeId} {x ix y : Operand} {id : Id} {es : List (T × T)} {k v : T} {kd : TypeDesc} (ho : o.op = .mapUpdate t x ix y ∨ o.op = .insert t x ix y) (hx : ρ x = .row id) (hk : ρ ix = .t k) (hv : ρ y = .t v) (tu : TyU P t (.map kt et)) (td : TyU P kt kd) (hkey : xW kd k = true) (hes : xp kd es = true) :
    OpT P o ρ (StL.get [(id, .dat (.map es))]) .junk (StL.get [(id, .dat (.map (zcR es k v)))]) [] := by
  refine OpT.of ?_
  intro h m a w hs hr K Q hK'
  have hmem : x ∈ o.op.operands ∧ ix ∈ o.op.operands ∧ y ∈ o.op.operands := by rcases ho with ho | ho <;> simp [ho, Op.operands]
  have r1 := hr x hmem.1
  have r2 := hr ix hmem.2.1
  have r3 := hr y hmem.2.2
  rw [hx] at r1
  rw [hk] at r2
  rw [hv] at r3
  simp only [RepA] at r1 r2 r3
  obtain ⟨r, ents, clock, e1, e2, e3, hS⟩ := zge hs
  rw [e1] at r1
  have hK := jj hkey r2
  have hlt : r < w.heap.size := (Array.getElem?_eq_some_iff.1 e2).1
  have fin : ∀ (ents' : Array MapEntry) (clock' : Nat), RepEnts h ents'.toList (zcR es k v) → zaN ents'.toList clock' → (Instr.mapUpdate t (a.eval x) (a.eval ix) (a.eval y)).run P w = .ok () { w with heap := w.heap.setIfInBounds r (.map ents' clock') } → o.wp P a w K Q := fun ents' clock' hE hS' hrun => by
    have hw : Wrote w { w with heap := w.heap.setIfInBounds r (.map ents' clock') } r := ⟨rfl, rfl, rfl, by simp, fun b hb => (MapKept.heap_set e2).2 b hb⟩
    obtain ⟨s1, s2⟩ := jt hs (by rw [e1]; rfl) hw (row' := .dat (.map (zcR es k v))) ⟨r, .map ents' clock', by rw [e1]; rfl, (MapKept.heap_set e2).1, r, ents', clock', e1, rfl, hE, hS'⟩
    unfold Oper.wp
    have hrun' : (execOp a.eval o).run P w = .ok .skip { w with heap := w.heap.setIfInBounds r (.map ents' clock') } := by
      rcases ho with ho | ho <;> simp [execOp, ho, hrun]
    rw [hrun']
    exact hK' undef h m _ trivial s1 s2 fun _ _ => rfl
  rcases kR hkey r2 0 e3 hes with ⟨g1, g2, g3⟩ | ⟨y', v', j, e, g1, g2, g3, g4, g5, g6⟩
  · refine fin (ents.push { key := a.eval ix, val := a.eval y, born := clock }) (clock + 1) ?_ ?_ ?_
    · rw [g3]
      simp only [Array.toList_push]
      exact vz e3 ⟨r2, r3, trivial⟩
    · exact zf5 hS _ rfl
    · simp [Instr.mapUpdate, r1.1, run_underlying tu.h, MapKept.run_getObj_map e2, MapKept.run_checkKey td.h hK, MapKept.run_findKey td.h g2, MapKept.run_setObj_map _ e2, Result.andThen]
  · have hj : ents[j]? = some e := by simpa using g4
    refine fin (ents.modify j fun e => { e with key := a.eval ix, val := a.eval y }) clock ?_ ?_ ?_
    · rw [Array.toList_modify]
      exact g6 _ v (a.eval y) (fun e he => ⟨rfl, rfl⟩) r3
    · rw [Array.toList_modify]
      exact zef hS _ _ fun _ => rfl
    · simp [Instr.mapUpdate, r1.1, run_underlying tu.h, MapKept.run_getObj_map e2, MapKept.run_checkKey td.h hK, MapKept.run_findKey td.h g2, hj, g5, MapKept.run_keyThatStays hK, MapKept.run_setObj_map _ e2, Result.andThen]
end
end Go.AL
set_option linter.unusedSimpArgs false
namespace Go.AL
open Go Go.RowKit
section
variable {P : Program} {nt : Nat} {ops : Array Oper} {o : Oper} {rest : List Oper} {env : EnvL} {st : StO} {acc : List SD} {K : EnvL → StO → List SD → Prop} {d : Nat}
theorem zh8 {t : TypeId} (ho : o.op = .makeMap t none) (hd : o.dst = some d) (hn : (decide (d < nt)) = true) (hg : zC ops o env = true) (hfr : xg [.loc d] env st = true)
    (H : LexP P nt ops rest ((d, .row (.loc d)) :: env) ((.loc d, some (.dat (.map []))) :: st) (⟨true, [], .row (.loc d), [(.loc d, .dat (.map []))], [], [.loc d]⟩ :: acc) K) : LexP P nt ops (o :: rest) env st acc K :=
  zfg (zgS (.loc d) ho) hd hn hg rfl hfr H
theorem zfR {t kt et : TypeId} {x ix : Operand} {id : Id} {es : List (T × T)} {k zT : T} {kd : TypeDesc} {sz bytes : Nat} {z : Value} (ho : o.op = .lookup t x ix false) (hx : zE env.get x = .row id) (hk : zE env.get ix = .t k) [tu : TyU P t (.map kt et)] [td : TyU P kt kd] [ti : TyI P et sz bytes z]
    (hz : ∀ h, RepT h z zT) (hst : StO.get st id = some (.dat (.map es))) (hkey : xW kd k = true) (hd : o.dst = some d) (hn : (decide (d < nt)) = true) (hg : zC ops o env = true) (hes : xp kd es = true)
    (H : LexP P nt ops rest ((d, .t ((kg es k).getD zT)) :: env) st (⟨true, [(id, .dat (.map es))], .t ((kg es k).getD zT), [(id, .dat (.map es))], [], []⟩ :: acc) K) : LexP P nt ops (o :: rest) env st acc K :=
  qk hst (by have := zcZ (ρ := zE env.get) ho hx hk tu td ti hz hkey hes; simpa using this) hd hn hg H
theorem zaT {t kt et : TypeId} {x ix : Operand} {id : Id} {es : List (T × T)} {k zT : T} {kd : TypeDesc} {sz bytes : Nat} {z : Value} (ho : o.op = .lookup t x ix true) (hx : zE env.get x = .row id) (hk : zE env.get ix = .t k) [tu : TyU P t (.map kt et)] [td : TyU P kt kd] [ti : TyI P et sz bytes z]
    (hz : ∀ h, RepT h z zT) (hst : StO.get st id = some (.dat (.map es))) (hkey : xW kd k = true) (hd : o.dst = some d) (hn : (decide (d < nt)) = true) (hg : zC ops o env = true) (hes : xp kd es = true)
    (H : LexP P nt ops rest ((d, .tup [.t ((kg es k).getD zT), .t (.bool (kg es k).isSome)]) :: env) st (⟨true, [(id, .dat (.map es))], .tup [.t ((kg es k).getD zT), .t (.bool (kg es k).isSome)], [(id, .dat (.map es))], [], []⟩ :: acc) K) : LexP P nt ops (o :: rest) env st acc K :=
  qk hst (by have := zcZ (ρ := zE env.get) ho hx hk tu td ti hz hkey hes; simpa using this) hd hn hg H
theorem zaA {t kt et : TypeId} {x ix y : Operand} {id : Id} {es : List (T × T)} {k v : T} {kd : TypeDesc} (ho : o.op = .mapUpdate t x ix y) (hx : zE env.get x = .row id) (hk : zE env.get ix = .t k) (hv : zE env.get y = .t v) [tu : TyU P t (.map kt et)] [td : TyU P kt kd]
    (hst : StO.get st id = some (.dat (.map es))) (hkey : xW kd k = true) (hd : o.dst = none) (hg : zC ops o env = true) (hes : xp kd es = true)
    (H : LexP P nt ops rest env ((id, some (.dat (.map (zcR es k v)))) :: st) (⟨true, [(id, .dat (.map es))], .junk, [(id, .dat (.map (zcR es k v)))], [id], []⟩ :: acc) K) : LexP P nt ops (o :: rest) env st acc K :=
  zd6 hst (jp (.inl ho) hx hk hv tu td hkey hes) hd hg H
theorem zeT {t kt et : TypeId} {x ix y : Operand} {id : Id} {es : List (T × T)} {k v : T} {kd : TypeDesc} (ho : o.op = .insert t x ix y) (hx : zE env.get x = .row id) (hk : zE env.get ix = .t k) (hv : zE env.get y = .t v) [tu : TyU P t (.map kt et)] [td : TyU P kt kd]
    (hst : StO.get st id = some (.dat (.map es))) (hkey : xW kd k = true) (hd : o.dst = none) (hg : zC ops o env = true) (hes : xp kd es = true)
    (H : LexP P nt ops rest env ((id, some (.dat (.map (zcR es k v)))) :: st) (⟨true, [(id, .dat (.map es))], .junk, [(id, .dat (.map (zcR es k v)))], [id], []⟩ :: acc) K) : LexP P nt ops (o :: rest) env st acc K :=
  zd6 hst (jp (.inr ho) hx hk hv tu td hkey hes) hd hg H
def zf7 (st : StO) : StL → Prop
  | [] => True
  | x :: l => StO.get st x.1 = some x.2 ∧ zf7 st l
theorem zc {st : StO} : ∀ {l : StL}, zf7 st l → ∀ x ∈ l, StO.get st x.1 = some x.2
  | [], _, x, h => by simp at h
  | y :: l, H, x, h => by
    rcases List.mem_cons.1 h with rfl | h
    · exact H.1
    · exact zc H.2 x h
def zgM (S S' : StL) (r : AV) (l : List (Id × Id)) : Bool :=
  (S.ids ++ S'.ids).all (fun i => (S.ids ++ S'.ids).all fun j => !decide (xq l i = xq l j) || decide (i = j)) &&
  (S'.ids.all (fun k => !xd k || ((xq l k).isLoc && l.all fun p => !vn p.1 || !decide (p.2 = xq l k))) &&
  (r.all (fun id => vn id || (xd id && S'.ids.contains id)) &&
  (S'.all (fun x => x.2.all (fun id => vn id || (xd id && S'.ids.contains id))) &&
  S'.ids.all (fun k => (vn k && S.ids.contains k) || xd k))))
theorem zgQ (l : List (Id × Id)) (x : Id) : (∃ p ∈ l, p.1 = x ∧ xq l x = p.2) ∨ xq l x = x := by
  induction l with
  | nil => exact .inr rfl
  | cons p l ih =>
    obtain ⟨a, b⟩ := p
    simp only [xq]
    split
    · rename_i e
      exact .inl ⟨(a, b), List.mem_cons_self .., e.symm ▸ rfl, rfl⟩
    · rcases ih with ⟨p, h1, h2, h3⟩ | h
      · exact .inl ⟨p, List.mem_cons_of_mem _ h1, h2, h3⟩
      · exact .inr h
theorem kq {S S' : StL} {r : AV} {l : List (Id × Id)} (h : zgM S S' r l = true) : CallOK S S' r (xq l) ∧ (∀ k ∈ S'.ids, xd k = true → (xq l k).isLoc = true) ∧ ∀ k ∈ S'.ids, k ∈ S.ids ∨ xd k = true := by
  unfold zgM at h
  simp only [Bool.and_eq_true, List.all_eq_true, Bool.or_eq_true, Bool.not_eq_true', decide_eq_false_iff_not, decide_eq_true_eq] at h
  obtain ⟨h1, h2, h3, h4, h5⟩ := h
  refine ⟨⟨fun i hi j hj e => ?_, fun k hk hr p hp e => ?_, h3, h4, fun k hk => ?_⟩, fun k hk hr => ?_, fun k hk => ?_⟩
  · rcases h1 i hi j hj with h | h
    · exact absurd e h
    · exact h
  · rcases h2 k hk with h | ⟨h6, h7⟩
    · rw [hr] at h; cases h
    · rcases zgQ l p with ⟨q, q1, q2, q3⟩ | q
      · rcases h7 q q1 with h | h
        · rw [q2, hp] at h; cases h
        · exact h (by rw [e, q3])
      · rw [q] at e
        rw [e] at h6
        cases p <;> simp [vn, Id.isLoc] at hp h6
  · rcases h5 k hk with h | h
    · exact .inl h.1
    · exact .inr h
  · rcases h2 k hk with h | h
    · rw [hr] at h; cases h
    · exact h.1
  · rcases h5 k hk with h | h
    · exact .inl (by simpa using h.2)
    · exact .inr h
theorem ja {f : Operand} {as : Array Operand} {ts : Array TypeId} {g : FuncId} {caps args : List AV} {S S' : StL} {r r' : AV} {st' : StO} {R1 R2 : StL} {N : List Id} (l : List (Id × Id)) (ho : o.op = .call { callee := .value f, args := as, argTypes := ts }) (hf : xn (zE env.get f) = some (g, caps)) [hb : FnB P g] (H0 : Spec P g args S r S')
    (hargs : ArgsLE (as.toList.map (zE env.get) ++ caps) (AV.renL (xq l) args)) (hR1 : S.ren (xq l) = R1) (hst : zf7 st R1) (hlen : (decide (as.size + caps.length = args.length)) = true) (hok : zgM S S' r l = true) (hrr : r.ren (xq l) = r')
    (hR2 : S'.ren (xq l) = R2) (hN : (S'.ids.filter xd).map (xq l) = N) (hfr : xg N env st = true) (hs' : zgc R1 R2 N st = st')
    (hd : o.dst = some d) (hn : (decide (d < nt)) = true) (hg : zC ops o env = true)
    (H : LexP P nt ops rest ((d, r') :: env) st' (⟨true, R1, r', R2, R1.ids, N⟩ :: acc) K) : LexP P nt ops (o :: rest) env st acc K := by
  obtain ⟨ok, hloc, hdom⟩ := kq hok
  have hT := zhl (P := P) (ρ := zE env.get) (xq l) ho hf hb H0 ok (of_decide_eq_true hlen) hargs
  rw [hR1, hR2, hN, hrr] at hT
  subst hs'
  refine jO hT hd (of_decide_eq_true hn) (yT hg) (zc hst) ?_ (fun id h1 h2 => absurd h1 h2) ?_ hfr rfl H
  · intro id hid
    subst hR1; subst hR2; subst hN
    simp only [StL.ids, StL.ren, List.map_map, List.mem_map, Function.comp] at hid ⊢
    obtain ⟨x, hx, rfl⟩ := hid
    have hk : x.1 ∈ S'.ids := List.mem_map_of_mem hx
    rcases hdom x.1 hk with h | h
    · obtain ⟨y, hy, e⟩ := List.mem_map.1 h
      exact .inl ⟨y, hy, by rw [e]⟩
    · exact .inr ⟨x.1, by simpa using ⟨⟨x.2, hx⟩, h⟩, rfl⟩
  · intro id hid
    subst hN
    obtain ⟨k, hk, rfl⟩ := List.mem_map.1 hid
    rw [List.mem_filter] at hk
    exact hloc k hk.1 hk.2
end
end Go.AL
set_option linter.unusedSimpArgs false
namespace Go.AL
open Go Go.RowKit
def zlE : T → Option Bool
  | .nilsl => some true
  | .esl => some false
  | .sl _ (_ :: _) => some false
  | _ => none
theorem zkL {h : Heap} {v : Value} {t : T} {b : Bool} (ht : zlE t = some b) (H : RepT h v t) : ∃ a l c, v = .slice a l c ∧ a.isNone = b := by
  unfold zlE at ht
  split at ht
  · cases ht
    exact ⟨_, _, _, H, rfl⟩
  · cases ht
    simp only [RepT] at H
    obtain ⟨a, c, rfl, _⟩ := H
    exact ⟨_, _, _, rfl, rfl⟩
  · cases ht
    simp only [RepT] at H
    obtain ⟨A, n, c, rfl, hn, _, _, hA⟩ := H
    obtain ⟨b, o, rfl, _⟩ := hA (by rw [hn]; simp)
    exact ⟨_, _, _, rfl, rfl⟩
  · cases ht
section
variable {P : Program} {o : Oper} {ρ : Operand → AV}
theorem zfp {ty yt e : TypeId} {x y : Operand} {t : T} {b : Bool} (ho : o.op = .binOp .eql ty x y yt) (hx : ρ x = .t t) (hy : ρ y = .t .nilsl) (ht : zlE t = some b) (tu : TyU P ty (.slice e)) :
    OpT P o ρ (StL.get []) (.t (.bool b)) (StL.get []) [] :=
  zY fun h m A w _ hrep => by
    have r1 := hrep x (by simp [ho, Op.operands])
    have r2 := hrep y (by simp [ho, Op.operands])
    rw [hx] at r1
    rw [hy] at r2
    simp only [RepA] at r1 r2
    obtain ⟨a, l, c, e1, e2⟩ := zkL ht r1
    simp only [RepT] at r2
    exact ⟨.bool b, by simp [execOp, ho, e1, r2, binOp, eqGuard, run_equal_slice_nil w ty e a l c tu.h, e2], by simp [RepA, RepT]⟩
end
section
variable {P : Program} {nt : Nat} {ops : Array Oper} {o : Oper} {rest : List Oper} {env : EnvL} {st : StO} {acc : List SD} {K : EnvL → StO → List SD → Prop} {d : Nat}
theorem zgC {ty yt e : TypeId} {x y : Operand} {t : T} {b : Bool} (ho : o.op = .binOp .eql ty x y yt) (hx : zE env.get x = .t t) (hy : zE env.get y = .t .nilsl) (ht : zlE t = some b) [tu : TyU P ty (.slice e)] (hd : o.dst = some d) (hn : (decide (d < nt)) = true) (hg : zC ops o env = true)
    (H : LexP P nt ops rest ((d, .t (.bool b)) :: env) st (⟨true, [], .t (.bool b), [], [], []⟩ :: acc) K) : LexP P nt ops (o :: rest) env st acc K :=
  yc (zfp ho hx hy ht tu) hd hn hg H
end
theorem AVLE.esl (sz : Nat) : AVLE (.t .esl) (.t (.sl sz [])) := fun h m v H => by
  simp only [RepA, RepT] at H ⊢
  obtain ⟨a, c, rfl, hc⟩ := H
  exact ⟨some a, 0, c, rfl, rfl, Nat.zero_le _, ⟨hc, fun h => by cases h⟩, fun h => absurd rfl h⟩
section
variable {P : Program} {nt : Nat} {ops : Array Oper} {rest : List Oper} {env : EnvL} {st : StO} {acc : List SD} {K : EnvL → StO → List SD → Prop} {d : Option Tmp} {ty : TypeId} {pos : String} {after : Array Edge} {g : Option (Nat × Bool)}
theorem zj2 {t : TypeId} (H : LexP P nt ops ({ dst := d, op := .makeMap t none, type := ty, pos := pos, after := after, guard := g } :: rest) env st acc K) : LexP P nt ops ({ dst := d, op := .makeMap t none, type := ty, pos := pos, after := after, guard := g } :: rest) env st acc K := H
theorem zld {t : TypeId} {x y : Operand} {b : Bool} (H : LexP P nt ops ({ dst := d, op := .lookup t x y b, type := ty, pos := pos, after := after, guard := g } :: rest) env st acc K) : LexP P nt ops ({ dst := d, op := .lookup t x y b, type := ty, pos := pos, after := after, guard := g } :: rest) env st acc K := H
theorem zcn {t : TypeId} {x y z : Operand} (H : LexP P nt ops ({ dst := d, op := .mapUpdate t x y z, type := ty, pos := pos, after := after, guard := g } :: rest) env st acc K) : LexP P nt ops ({ dst := d, op := .mapUpdate t x y z, type := ty, pos := pos, after := after, guard := g } :: rest) env st acc K := H
theorem zhR {t : TypeId} {x y z : Operand} (H : LexP P nt ops ({ dst := d, op := .insert t x y z, type := ty, pos := pos, after := after, guard := g } :: rest) env st acc K) : LexP P nt ops ({ dst := d, op := .insert t x y z, type := ty, pos := pos, after := after, guard := g } :: rest) env st acc K := H
end
end Go.AL
set_option linter.unusedSimpArgs false
namespace Go.AL
open Go Go.RowKit
section
variable {P : Program} {nt : Nat}
def gQ (nt : Nat) (Q : Exit → Env → zG → Prop) : Exit → Env → zG → Prop := fun e env st => ∃ env2 st2, Ghost nt env st env2 st2 ∧ Q e env2 st2
theorem ziq {c : Code} {env : Env} {st : zG} {Q : Exit → Env → zG → Prop} (H : CodeT P nt c env st (gQ nt Q)) : CodeT P nt c env st Q := by
  refine ⟨fun ro hro h m a w k => wpIn_mono (H.run ro hro h m a w k) ?_⟩
  rintro e a' w' ⟨env', st', h', m', ⟨env2, st2, g, hq⟩, c', s', n'⟩
  obtain ⟨h2, m2, c2, s2⟩ := g h' m' a' w' c'
  exact ⟨env2, st2, h2, m2, hq, c2, s'.trans s2, n'⟩
theorem yw {f : FuncId} {fn : Func} {c : Code} {args : List AV} {S S' : StL} {r : AV} {env0 : EnvL} {st0 : StO} (hf : P.funcs[f]? = some fn) (hb : fn.body = some c) (hn : (decide (args.length ≤ fn.ntmps)) = true) (he : zaM 0 args = env0) (hs : S.map (fun x => (x.1, some x.2)) = st0)
    (H : CodeT P fn.ntmps c env0.get st0.get (gQ fn.ntmps (znZ P fn r S'))) : Spec P f args S r S' := yq hf hb hn he hs (ziq H)
end
section
variable {P : Program} {o : Oper} {ρ ρ' : Operand → AV}
end
section
variable {P : Program} {nt : Nat} {ops : Array Oper} {o : Oper} {rest : List Oper} {env : EnvL} {st : StO} {acc : List SD} {K : EnvL → StO → List SD → Prop} {d : Nat}
end
end Go.AL
set_option linter.unusedSimpArgs false
namespace Go.AL
open Go Go.RowKit
section
variable {P : Program} {nt : Nat} {ops : Array Oper} {o : Oper} {rest : List Oper} {env : EnvL} {st : StO} {acc : List SD} {K : EnvL → StO → List SD → Prop} {d : Nat}
theorem zaE {t kt et : TypeId} {x ix : Operand} {id : Id} {es : List (T × T)} {k zT y : T} {kd : TypeDesc} {sz bytes : Nat} {z : Value} (ho : o.op = .lookup t x ix false) (hx : zE env.get x = .row id) (hk : zE env.get ix = .t k) [tu : TyU P t (.map kt et)] [td : TyU P kt kd] [ti : TyI P et sz bytes z]
    (hst : StO.get st id = some (.dat (.map es))) (hy : (kg es k).getD zT = y) (hz : ∀ h, RepT h z zT) (hkey : xW kd k = true) (hd : o.dst = some d) (hn : (decide (d < nt)) = true) (hg : zC ops o env = true) (hes : xp kd es = true)
    (H : LexP P nt ops rest ((d, .t y) :: env) st (⟨true, [(id, .dat (.map es))], .t y, [(id, .dat (.map es))], [], []⟩ :: acc) K) : LexP P nt ops (o :: rest) env st acc K := by
  subst hy
  exact zfR ho hx hk hz hst hkey hd hn hg hes H
end
end Go.AL
set_option linter.unusedSimpArgs false
namespace Go.AL
open Go Go.RowKit
mutual
inductive TLe : T → T → Prop
  | refl (x : T) : TLe x x
  | nil (sz : Nat) : TLe .nilsl (.sl sz [])
  | esl (sz : Nat) : TLe .esl (.sl sz [])
  | slq (sz : Nat) (es : List T) : TLe (.slq sz es) (.sl sz es)
  | agg {cs ds : List T} : TLs cs ds → TLe (.agg cs) (.agg ds)
  | sl {sz : Nat} {es fs : List T} : TLs es fs → TLe (.sl sz es) (.sl sz fs)
inductive TLs : List T → List T → Prop
  | nil : TLs [] []
  | cons {x y : T} {xs ys : List T} : TLe x y → TLs xs ys → TLs (x :: xs) (y :: ys)
end
theorem TLs.refl : ∀ xs : List T, TLs xs xs
  | [] => .nil
  | x :: xs => .cons (.refl x) (TLs.refl xs)
theorem TLs.append : ∀ {xs ys us vs : List T}, TLs xs ys → TLs us vs → TLs (xs ++ us) (ys ++ vs)
  | [], [], us, vs, _, h => h
  | x :: xs, y :: ys, us, vs, h, h2 => by
    cases h with
    | cons a b => exact .cons a (TLs.append b h2)
  | [], _ :: _, _, _, h, _ => by cases h
  | _ :: _, [], _, _, h, _ => by cases h
theorem TLs.len : ∀ {xs ys : List T}, TLs xs ys → xs.length = ys.length
  | [], [], _ => rfl
  | x :: xs, y :: ys, h => by
    cases h with
    | cons a b => simp [TLs.len b]
  | [], _ :: _, h => by cases h
  | _ :: _, [], h => by cases h
theorem TLe.cells_le : ∀ {x y : T}, TLe x y → TLs x.cells y.cells
  | _, _, .refl x => TLs.refl _
  | _, _, .nil sz => .cons (.nil sz) .nil
  | _, _, .esl sz => .cons (.esl sz) .nil
  | _, _, .slq sz es => .cons (.slq sz es) .nil
  | _, _, .agg h => h
  | _, _, .sl h => .cons (.sl h) .nil
mutual
theorem TLe.rep : ∀ {x y : T}, TLe x y → ∀ {h : Heap} {v : Value}, RepT h v x → RepT h v y
  | _, _, .refl x, _, _, H => H
  | _, _, .nil sz, h, v, H => by
    simp only [RepT] at H ⊢
    exact ⟨none, 0, 0, H, rfl, Nat.le_refl _, ⟨Nat.zero_le _, fun _ => rfl⟩, fun h => absurd rfl h⟩
  | _, _, .esl sz, h, v, H => by
    simp only [RepT] at H ⊢
    obtain ⟨a, c, rfl, hc⟩ := H
    exact ⟨some a, 0, c, rfl, rfl, Nat.zero_le _, ⟨hc, fun h => by cases h⟩, fun h => absurd rfl h⟩
  | _, _, .slq sz es, h, v, H => by
    simp only [RepT] at H ⊢
    obtain ⟨A, n, e, hn, hm, hr⟩ := H
    exact ⟨A, n, n, e, hn, Nat.le_refl _, hm, hr⟩
  | _, _, .agg e, h, v, H => by
    simp only [RepT] at H ⊢
    obtain ⟨vs, rfl, h1, h2⟩ := H
    exact ⟨vs, rfl, h1.trans e.len, TLs.repL e h2⟩
  | _, _, .sl e, h, v, H => by
    simp only [RepT] at H ⊢
    obtain ⟨A, n, c, rfl, h1, h2, h3, h4⟩ := H
    refine ⟨A, n, c, rfl, h1.trans e.len, h2, h3, fun hn => ?_⟩
    obtain ⟨b, o, k1, k2⟩ := h4 hn
    exact ⟨b, o, k1, TLs.repEs e k2⟩
theorem TLs.repL : ∀ {xs ys : List T}, TLs xs ys → ∀ {h : Heap} {g : Nat → Option Value} {o : Nat}, RepL h g o xs → RepL h g o ys
  | _, _, .nil, _, _, _, H => H
  | _, _, .cons e es, h, g, o, H => by
    obtain ⟨⟨u, h1, h2, h3⟩, h4⟩ := H
    exact ⟨⟨u, h1, h2, TLe.rep e h3⟩, TLs.repL es h4⟩
theorem TLs.repEs : ∀ {xs ys : List T}, TLs xs ys → ∀ {h : Heap} {g : Nat → Option Value} {o sz : Nat}, RepEs h g o sz xs → RepEs h g o sz ys
  | _, _, .nil, _, _, _, _, H => H
  | _, _, .cons e es, h, g, o, sz, H => by
    rw [yU] at H ⊢
    refine ⟨⟨(TLs.len (TLe.cells_le e)).symm.trans H.1.1, ?_⟩, TLs.repEs es H.2⟩
    cases e with
    | refl x => exact H.1.2
    | nil s => obtain ⟨⟨u, h1, h2, h3⟩, _⟩ := H.1.2; exact ⟨⟨u, h1, h2, TLe.rep (.nil s) h3⟩, trivial⟩
    | esl s => obtain ⟨⟨u, h1, h2, h3⟩, _⟩ := H.1.2; exact ⟨⟨u, h1, h2, TLe.rep (.esl s) h3⟩, trivial⟩
    | slq s q => obtain ⟨⟨u, h1, h2, h3⟩, _⟩ := H.1.2; exact ⟨⟨u, h1, h2, TLe.rep (.slq s q) h3⟩, trivial⟩
    | agg k => exact TLs.repL k H.1.2
    | sl k => obtain ⟨⟨u, h1, h2, h3⟩, _⟩ := H.1.2; exact ⟨⟨u, h1, h2, TLe.rep (.sl k) h3⟩, trivial⟩
end
theorem TLe.av {x y : T} (e : TLe x y) : AVLE (.t x) (.t y) := fun h m v H => e.rep H
theorem ArgsLE.t {x y : T} {xs ys : List AV} (h1 : TLe x y) (h2 : ArgsLE xs ys) : ArgsLE (.t x :: xs) (.t y :: ys) := ArgsLE.cons h1.av h2
theorem zbB {P : Program} {fn : Func} {env : EnvL} {st : StO} {t u : Nat} {y x y' x' : T} (hr : fn.results = #[.tmp t, .tmp u]) (hx : env.get t = .t y) (hx' : env.get u = .t y') (e : TLe y x) (e' : TLe y' x') : zgU P fn env.get st.get (.tup [.t x, .t x']) := wh hr (by rw [hx]; exact e.av) (by rw [hx']; exact e'.av)
def RowLE (r r' : Row) : Prop := ∀ h m w id, SimRow h m w id r → SimRow h m w id r'
theorem RowLE.slt {e : TypeId} {sz : Nat} {es fs : List T} (h : TLs es fs) : RowLE (.slt e sz es) (.slt e sz fs) := fun hh m w id H => by
  obtain ⟨xs, h1, h2⟩ := H
  exact ⟨xs, by rw [← h.len]; exact h1, h.repEs h2⟩
def AVLs : List AV → List AV → Prop
  | [], [] => True
  | x :: xs, y :: ys => AVLE x y ∧ AVLs xs ys
  | _, _ => False
theorem AVLs.repAL : ∀ {xs ys : List AV}, AVLs xs ys → ∀ {h : Heap} {m : zQ} {g : Nat → Option Value} {o : Nat}, RepAL h m g o xs → RepAL h m g o ys
  | [], [], _, _, _, _, _, H => H
  | x :: xs, y :: ys, e, h, m, g, o, H => by
    obtain ⟨⟨u, h1, h2, h3⟩, h4⟩ := H
    exact ⟨⟨u, h1, h2, e.1 _ _ _ h3⟩, AVLs.repAL e.2 h4⟩
  | [], _ :: _, e, _, _, _, _, _ => e.elim
  | _ :: _, [], e, _, _, _, _, _ => e.elim
theorem AVLs.len : ∀ {xs ys : List AV}, AVLs xs ys → xs.length = ys.length
  | [], [], _ => rfl
  | x :: xs, y :: ys, e => by simp [AVLs.len e.2]
  | [], _ :: _, e => e.elim
  | _ :: _, [], e => e.elim
theorem RowLE.var {ty : TypeId} {cs ds : List AV} (e : AVLs cs ds) : RowLE (.var ty cs) (.var ty ds) := fun h m w id H => by
  obtain ⟨b, arr, h1, h2, h3, h4⟩ := H
  exact ⟨b, arr, h1, h2, h3.trans e.len, e.repAL h4⟩
theorem zav {nt : Nat} {env : EnvL} {st st' : StO} {id : Id} {r r' : Row} (hr : StO.get st id = some r) (hle : RowLE r r') (hs : (id, some r') :: st = st') : Ghost nt env.get st.get env.get st'.get := by
  subst hs
  have key : ∀ y row, StO.get ((id, some r') :: st) y = some row → ∃ row0, st.get y = some row0 ∧ ∀ h m w, SimRow h m w y row0 → SimRow h m w y row := by
    intro y row hy
    by_cases e : id = y
    · subst e
      have : row = r' := by simpa [StO.get] using hy.symm
      subst this
      exact ⟨r, hr, fun h m w => hle h m w id⟩
    · have : StO.get st y = some row := by simpa [StO.get, e] using hy
      exact ⟨row, this, fun h m w H => H⟩
  intro h m a w c
  refine c.step (h' := h) (m' := m) ⟨c.sim.imm, fun y row hy => ?_, fun y row b hy => ?_, fun y y' r1 r2 b k1 k2 => ?_⟩ (c.env) ⟨⟨rfl, rfl, rfl, Nat.le_refl _, fun _ _ _ => ⟨rfl, rfl⟩, fun _ _ hu => hu, fun y row b hy hb => ?_⟩, fun _ => rfl⟩
  · obtain ⟨r0, h1, h2⟩ := key y row hy
    exact h2 h m w (c.sim.rows y r0 h1)
  · obtain ⟨r0, h1, _⟩ := key y row hy
    exact c.sim.sep y r0 b h1
  · obtain ⟨r0, h1, _⟩ := key y r1 k1
    obtain ⟨r0', h1', _⟩ := key y' r2 k2
    exact c.sim.inj y y' r0 r0' b h1 h1'
  · obtain ⟨r0, h1, _⟩ := key y row hy
    exact .inr ⟨y, r0, h1, hb⟩
def zhT (P : Program) (t : TypeId) : Option (List (Nat × Option Nat)) :=
  match P.underlying t with
  | some (.struct fs) => some (fs.toList.map fun f => (f.offset, (P.info? f.type).map (·.size)))
  | _ => none
class TyB (P : Program) (t : TypeId) (pl : outParam (List (Nat × Nat))) : Prop where
  h : zhT P t = some (pl.map fun p => (p.1, some p.2))
def zfQ (pl : List (Nat × Nat)) (n : Nat) : List (Nat × AV) → Option (List (Nat × AV))
  | [] => some []
  | (i, y) :: ps => match pl[i]? with
    | none => none
    | some (off, sz) => bif y.boxable && (decide (y.cells.length = sz) && decide (off + sz ≤ n)) then (match zfQ pl n ps with | some qs => some ((off, y) :: qs) | none => none) else none
theorem zbY {pl : List (Nat × Nat)} {n : Nat} {ρ : Operand → AV} : ∀ {ps : List (Nat × Operand)} {qs : List (Nat × AV)}, zfQ pl n (ps.map fun p => (p.1, ρ p.2)) = some qs → PartsOK (fun i => pl[i]?) ρ n ps qs
  | [], qs, h => by
    simp only [List.map_nil, zfQ, Option.some.injEq] at h
    subst h; trivial
  | (i, x) :: ps, qs, h => by
    simp only [List.map_cons, zfQ] at h
    split at h
    · simp at h
    · rename_i off sz hp
      cases hb : ((ρ x).boxable && (decide ((ρ x).cells.length = sz) && decide (off + sz ≤ n))) with
      | false => rw [hb] at h; simp at h
      | true =>
        rw [hb] at h
        simp only [cond_true] at h
        simp only [Bool.and_eq_true, decide_eq_true_eq] at hb
        split at h
        · rename_i qs' hq
          cases h
          exact ⟨⟨rfl, hb.1, by show pl[i]? = _; rw [hp, hb.2.1], by have := hb.2.2; have := hb.2.1; omega⟩, zbY hq⟩
        · simp at h
section
variable {P : Program} {nt : Nat} {ops : Array Oper} {o : Oper} {rest : List Oper} {env : EnvL} {st : StO} {acc : List SD} {K : EnvL → StO → List SD → Prop} {d : Nat}
theorem zlZ {t : TypeId} {parts : Array (Nat × Operand)} {size bytes : Nat} {z : Value} {pl : List (Nat × Nat)} {qs : List (Nat × AV)} {r : AV} (ho : o.op = .build t parts) [tb : TyB P t pl] [ti : TyI P t size bytes z]
    (hz : (decide (z.cells.size = size) && z.cells.toList.all Value.oneCell') = true) (hq : zfQ pl size (parts.toList.map fun p => (p.1, zE env.get p.2)) = some qs) (hr : zcN (zev (z.cells.toList.map ke) qs) = r) (hd : o.dst = some d) (hn : (decide (d < nt)) = true) (hg : zC ops o env = true)
    (H : LexP P nt ops rest ((d, r) :: env) st (⟨true, [], r, [], [], []⟩ :: acc) K) : LexP P nt ops (o :: rest) env st acc K := by
  subst hr
  simp only [Bool.and_eq_true, decide_eq_true_eq, List.all_eq_true] at hz
  have hb := tb.h
  unfold zhT at hb
  split at hb
  · rename_i fs hu
    simp only [Option.some.injEq] at hb
    have e1 : fs.toList.map (·.offset) = pl.map (·.1) := by
      have := congrArg (List.map (·.1)) hb
      simpa [List.map_map, Function.comp_def] using this
    have e2 : fs.toList.map (fun f => (P.info? f.type).map (·.size)) = (pl.map (·.2)).map some := by
      have := congrArg (List.map (·.2)) hb
      simpa [List.map_map, Function.comp_def] using this
    have e3 : (fs.toList.map (·.offset)).zip (pl.map (·.2)) = pl := by
      rw [e1]; clear hq tb hb e1 e2
      induction pl with
      | nil => rfl
      | cons p pl ih => simp [ih]
    have hT := zba (P := P) (ρ := zE env.get) ho ⟨hu⟩ ti e2 hz.1 hz.2 (qs := qs) (by rw [e3]; exact zbY hq)
    exact yc hT hd hn hg H
  · simp at hb
end
end Go.AL
namespace Go.AL
open Go Go.RowKit
theorem zv {nt : Nat} {Q : Exit → Env → zG → Prop} {x : Exit} {env env' : EnvL} {st st' : StO} (g : Ghost nt env.get st.get env'.get st'.get) (h : gQ nt Q x env'.get st'.get) : gQ nt Q x env.get st.get := by
  obtain ⟨e2, s2, g2, h2⟩ := h
  exact ⟨e2, s2, g.trans g2, h2⟩
theorem zL {nt : Nat} {Q : Exit → Env → zG → Prop} {x : Exit} {env : EnvL} {st : StO} (h : Q x env.get st.get) : gQ nt Q x env.get st.get := ⟨_, _, Ghost.refl _ _, h⟩
section
variable {P : Program} {nt : Nat} {ops : Array Oper} {o : Oper} {rest : List Oper} {env : EnvL} {st : StO} {acc : List SD} {K : EnvL → StO → List SD → Prop} {d : Nat}
theorem zR {ty : TypeId} {p : Operand} {e e' : T} {dd : TypeDesc} {size bytes : Nat} {z : Value} (ho : o.op = .load ty p) (hp : zE env.get p = .tp e 0) (he : e = e') [tu : TyU P ty dd] (ha : xk dd = true) [ti : TyI P ty size bytes z] (hd : o.dst = some d) (hn : (decide (d < nt)) = true) (hg : zC ops o env = true) (hl : e'.cells.length = size) (hagg : e'.isAgg = true)
    (H : LexP P nt ops rest ((d, .t e') :: env) st (⟨true, [], .t e', [], [], []⟩ :: acc) K) : LexP P nt ops (o :: rest) env st acc K := by
  subst he
  exact yc (zaL ho hp tu ha ti hl hagg) hd hn hg H
end
theorem zfJ {h : Heap} {m : zQ} {x y : AV} (hxy : ∀ u, u.oneCell' = true → RepA h m u x → RepA h m u y) : ∀ {cs : List AV} {k : Nat} {g : Nat → Option Value} {o : Nat}, cs[k]? = some x → RepAL h m g o cs → RepAL h m g o (cs.set k y)
  | [], k, g, o, hk, H => by simp at hk
  | c :: cs, 0, g, o, hk, H => by
    simp only [List.getElem?_cons_zero, Option.some.injEq] at hk
    subst hk
    obtain ⟨⟨u, h1, h2, h3⟩, h4⟩ := H
    exact ⟨⟨u, h1, h2, hxy u h2 h3⟩, h4⟩
  | c :: cs, k + 1, g, o, hk, H => by
    simp only [List.getElem?_cons_succ] at hk
    exact ⟨H.1, zfJ hxy hk H.2⟩
theorem zd7 {nt : Nat} {env : Env} {st : zG} {r : Id} {ty : TypeId} {cs : List AV} (k : Nat) (id : Id) (e sz : Nat) (hr : st r = some (.var ty cs)) (hk : cs[k]? = some (.t .nilsl)) (hf : qG [id] env st) (hloc : id.isLoc = true) :
    Ghost nt env st env (fun x => if x = id then some (.slt e sz []) else if x = r then some (.var ty (cs.set k (.row id))) else st x) := fun h m a w c => by
  have hm : ∀ y, y ∉ [id] → zV m id (.slice none 0 0) y = m y := fun y => zU
  have cases_ : ∀ y row, (fun x => if x = id then some (Row.slt e sz []) else if x = r then some (.var ty (cs.set k (.row id))) else st x) y = some row → (y = id ∧ row = .slt e sz []) ∨ (y ≠ id ∧ ∃ row0, st y = some row0 ∧ ((y = r ∧ row = .var ty (cs.set k (.row id))) ∨ row = row0)) := fun y row hy => by
    simp only at hy
    split at hy
    · rename_i e; exact .inl ⟨e, (Option.some.inj hy).symm⟩
    · rename_i e
      split at hy
      · rename_i e2; subst e2; exact .inr ⟨e, _, hr, .inl ⟨rfl, (Option.some.inj hy).symm⟩⟩
      · exact .inr ⟨e, row, hy, .inr rfl⟩
  refine c.step (h' := h) (m' := zV m id (.slice none 0 0)) ⟨c.sim.imm, ?_, ?_, ?_⟩ (fun x => ?_) ⟨⟨rfl, rfl, rfl, Nat.le_refl _, fun _ _ _ => ⟨rfl, rfl⟩, fun _ _ hu => hu, ?_⟩, fun k => ?_⟩
  · intro y row hy
    rcases cases_ y row hy with ⟨rfl, rfl⟩ | ⟨hne, row0, hy0, h2⟩
    · exact ⟨[], by rw [zu]; exact ⟨by simp, .inl ⟨rfl, rfl⟩⟩, by simp [RepEs]⟩
    · have hs := SimRow.mono (N := [id]) (fun _ _ hu => hu) hm (by simpa using hne) (hf.2 y row0 hy0).2 (fun _ _ => rfl) (c.sim.rows y row0 hy0)
      rcases h2 with ⟨rfl, rfl⟩ | rfl
      · have e9 := Option.some.inj (hr.symm.trans hy0)
        rw [← e9] at hs
        obtain ⟨b, arr, h1, h2, h3, h4⟩ := hs
        refine ⟨b, arr, h1, h2, by simpa using h3, zfJ (fun u hu H => ?_) hk h4⟩
        simp only [RepA, RepT] at H ⊢
        subst H
        exact ⟨by rw [zu], rfl⟩
      · exact hs
  · intro y row b hy hb
    rcases cases_ y row hy with ⟨rfl, rfl⟩ | ⟨hne, row0, hy, h2⟩
    · rw [zu] at hb; simp [blk] at hb
    · rw [hm y (by simpa using hne)] at hb; exact c.sim.sep y row0 b hy hb
  · intro y y' r1 r2 b hy hy' hb hb'
    rcases cases_ y r1 hy with ⟨rfl, rfl⟩ | ⟨hne, row0, hy, h2⟩
    · rw [zu] at hb; simp [blk] at hb
    · rcases cases_ y' r2 hy' with ⟨rfl, rfl⟩ | ⟨hne', row0', hy', h2'⟩
      · rw [zu] at hb'; simp [blk] at hb'
      · rw [hm y (by simpa using hne)] at hb
        rw [hm y' (by simpa using hne')] at hb'
        exact c.sim.inj y y' row0 row0' b hy hy' hb hb'
  · exact RepA.mono (fun _ _ hu => hu) hm (hf.1 x) (c.env x)
  · intro y row b hy hb
    rcases cases_ y row hy with ⟨rfl, rfl⟩ | ⟨hne, row0, hy, h2⟩
    · rw [zu] at hb; simp [blk] at hb
    · rw [hm y (by simpa using hne)] at hb; exact .inr ⟨y, row0, hy, hb⟩
  · exact hm _ (by intro hk; simp at hk; rw [← hk] at hloc; simp [Id.isLoc] at hloc)
theorem zH {nt : Nat} {env : EnvL} {st : StO} {r : Id} {ty : TypeId} {cs cs' : List AV} (k : Nat) (id : Id) (e sz : Nat) (hr : StO.get st r = some (.var ty cs)) (hk : cs[k]? = some (.t .nilsl)) (hcs : cs.set k (.row id) = cs') (hf : xg [id] env st = true) (hloc : id.isLoc = true) :
    Ghost nt env.get st.get env.get (StO.get ((id, some (.slt e sz [])) :: (r, some (.var ty cs')) :: st)) := by
  subst hcs
  have := zd7 (nt := nt) (env := env.get) (st := st.get) k id e sz hr hk (yO hf) hloc
  have e2 : (fun x => if x = id then some (Row.slt e sz []) else if x = r then some (.var ty (cs.set k (.row id))) else st.get x) = StO.get ((id, some (.slt e sz [])) :: (r, some (.var ty (cs.set k (.row id)))) :: st) := by
    funext x
    simp only [StO.get]
    by_cases h : id = x
    · simp [h]
    · rw [if_neg h, if_neg (fun h' => h h'.symm)]
      by_cases h3 : r = x
      · simp [h3]
      · rw [if_neg h3, if_neg (fun h' => h3 h'.symm)]
  rw [e2] at this
  exact this
end Go.AL
namespace Go.AL
open Go Go.RowKit Go.ChangeShapes Go.WideShapes Go.ChangeMaps
mutual
def T.noU8 : T → Bool
  | .int .u8 _ => false
  | .agg cs => T.noU8L cs
  | .sl sz es => decide (0 < sz) && T.noU8L es
  | .slq _ _ => false
  | _ => true
def T.noU8L : List T → Bool
  | [] => true
  | x :: xs => x.noU8 && T.noU8L xs
end
def zou (w : World) : Prop := ∀ b, b = 0 ∨ b = 1 → ∀ o u, hcell (xA w) b o = some u → ∃ n, u = .int .u8 n
end Go.AL
namespace Go.AL
open Go Go.RowKit
section
variable {P : Program} {nt : Nat} {ops : Array Oper} {o : Oper} {rest : List Oper} {env : EnvL} {st : StO} {acc : List SD} {K : EnvL → StO → List SD → Prop} {d : Nat}
end
section
variable {P : Program} {nt : Nat} {ops : Array Oper} {o : Oper} {rest : List Oper} {env : EnvL} {st : StO} {acc : List SD} {K : EnvL → StO → List SD → Prop} {d : Nat}
end
theorem ziz {nt : Nat} {env : Env} {st : zG} (a b : Id) (hab : a ≠ b) (hb : vn b = false) (hf : qG [b] env st) :
    Ghost nt env st (fun t => (env t).ren (qH a b)) (fun j => if j = b then (st a).map (Row.ren (qH a b)) else if j = a then none else (st j).map (Row.ren (qH a b))) := fun h m x w c => by
  let m' := zV m b (m a)
  have hm : ∀ id, (decide (id ≠ b)) = true → m' (qH a b id) = m id := fun id hid => by
    simp at hid
    simp only [m', zV, qH]
    by_cases e : id = a
    · subst e; simp
    · simp [e, hid]
  have cases_ : ∀ y row, (fun j => if j = b then (st a).map (Row.ren (qH a b)) else if j = a then none else (st j).map (Row.ren (qH a b))) y = some row → ∃ k r0, st k = some r0 ∧ row = r0.ren (qH a b) ∧ qH a b k = y := fun y row hy => by
    simp only at hy
    split at hy
    · rename_i e
      obtain ⟨r0, k1, k2⟩ := Option.map_eq_some_iff.1 hy
      exact ⟨a, r0, k1, k2.symm, by simp [qH, e]⟩
    · split at hy
      · cases hy
      · rename_i e1 e2
        obtain ⟨r0, k1, k2⟩ := Option.map_eq_some_iff.1 hy
        exact ⟨y, r0, k1, k2.symm, by simp [qH, e2]⟩
  have hfr : ∀ k r0, st k = some r0 → (decide (k ≠ b)) = true := fun k r0 hk => by
    have := (hf.2 k r0 hk).1
    simpa using this
  refine c.step (h' := h) (m' := m') ⟨c.sim.imm, ?_, ?_, ?_⟩ (fun t => RepA.ren hm (xL _ (hf.1 t)) (c.env t)) ⟨⟨rfl, rfl, rfl, Nat.le_refl _, fun _ _ _ => ⟨rfl, rfl⟩, fun _ _ hu => hu, ?_⟩, fun k => ?_⟩
  · intro y row hy
    obtain ⟨k, r0, k1, rfl, rfl⟩ := cases_ y row hy
    have hk := hm k (hfr k r0 k1)
    have hcl := (hf.2 k r0 k1).2
    have := c.sim.rows k r0 k1
    cases r0 with
    | var ty cs =>
      obtain ⟨b', arr, e1, e2, e3, e4⟩ := this
      refine ⟨b', arr, by rw [hk]; exact e1, e2, by rw [yX]; exact e3, RepAL.ren hm ?_ e4⟩
      have := xL (id := b) (.agg cs) (by simpa [AV.clean, Row.clean] using hcl)
      simpa [AV.all] using this
    | slt e' sz' es' =>
      obtain ⟨us, q1, q2⟩ := this
      exact ⟨us, by rw [hk]; exact q1, q2⟩
    | arr ty sz' es' =>
      obtain ⟨b', arr, e1, e2, e3, e4⟩ := this
      exact ⟨b', arr, by rw [hk]; exact e1, e2, e3, e4⟩
    | dat kk =>
      obtain ⟨b', o, e1, e2, e3⟩ := this
      exact ⟨b', o, by rw [hk]; exact e1, e2, by rw [hk]; exact e3⟩
    | loop kk cs =>
      obtain ⟨l, arr, e1, e2, e3, e4⟩ := this
      refine ⟨l, arr, by rw [hk]; exact e1, e2, e3, fun x hx => ?_⟩
      obtain ⟨x0, hx0, rfl⟩ := List.mem_map.1 hx
      simp only [Row.clean, List.all_eq_true] at hcl
      exact RepA.ren hm (xL _ (hcl x0 hx0)) (e4 x0 hx0)
  · intro y row b' hy hb'
    obtain ⟨k, r0, k1, rfl, rfl⟩ := cases_ y row hy
    rw [hm k (hfr k r0 k1)] at hb'
    exact c.sim.sep k r0 b' k1 hb'
  · intro y y' r r' b' hy hy' h1 h2
    obtain ⟨k, r0, k1, rfl, rfl⟩ := cases_ y r hy
    obtain ⟨k', r0', k1', rfl, rfl⟩ := cases_ y' r' hy'
    rw [hm k (hfr k r0 k1)] at h1
    rw [hm k' (hfr k' r0' k1')] at h2
    rw [c.sim.inj k k' _ _ b' k1 k1' h1 h2]
  · intro y row b' hy hb'
    obtain ⟨k, r0, k1, rfl, rfl⟩ := cases_ y row hy
    rw [hm k (hfr k r0 k1)] at hb'
    exact .inr ⟨k, r0, k1, hb'⟩
  · show zV m b (m a) (.par k) = m (.par k)
    unfold zV
    rw [if_neg]
    intro e
    rw [← e] at hb
    simp [vn] at hb
theorem zbN {nt : Nat} {env env' : EnvL} {st st' : StO} (a b : Id) (hab : (decide (a ≠ b) && !vn b) = true) (hf : xg [b] env st = true) (he : zmB (qH a b) env = env') (hs : stR a b st = st') : Ghost nt env.get st.get env'.get st'.get := by
  subst he; subst hs
  simp only [Bool.and_eq_true, decide_eq_true_eq, Bool.not_eq_true'] at hab
  have := ziz (nt := nt) (env := env.get) (st := st.get) a b hab.1 hab.2 (yO hf)
  have e1 : (fun t => (env.get t).ren (qH a b)) = EnvL.get (zmB (qH a b) env) := by funext t; exact zeB.symm
  have hf2 : zaW [b] st = true := by unfold xg at hf; simp only [Bool.and_eq_true] at hf; exact hf.2
  have e2 : (fun j => if j = b then (st.get a).map (Row.ren (qH a b)) else if j = a then none else (st.get j).map (Row.ren (qH a b))) = StO.get (stR a b st) := by
    funext j
    exact (zgz hab.1 hf2).symm
  rw [e1, e2] at this
  exact this
theorem Spec.nilArg {P : Program} {f : FuncId} {rest : List AV} {S' : StL} {r : AV} {e sz : Nat} (H : Spec P f (.row (.par 0) :: rest) [(.par 0, .slt e sz [])] r S') (hc : AV.cleanL [.par 0] rest = true) (hS : (S'.all fun x => !decide (x.1 = .par 0) && x.2.clean [.par 0]) = true) (hr : r.clean [.par 0] = true) : Spec P f (.t .nilsl :: rest) [] r S' := by
  refine ⟨fun h m vs w hs hn hrep => ?_⟩
  have hm1 : ∀ y, y ∉ [Id.par 0] → zV m (.par 0) (.slice none 0 0) y = m y := fun y => zU
  have hm2 : ∀ y, y ∉ [Id.par 0] → m y = zV m (.par 0) (.slice none 0 0) y := fun y hy => (hm1 y hy).symm
  obtain ⟨⟨u, k1, k2⟩, k3⟩ := hrep
  simp only [RepA, RepT] at k2
  subst k2
  have hget : ∀ y row, StL.get [((Id.par 0), Row.slt e sz [])] y = some row → y = .par 0 ∧ row = .slt e sz [] := fun y row hy => by
    simp only [StL.get] at hy
    split at hy
    · rename_i e; exact ⟨e.symm, (Option.some.inj hy).symm⟩
    · cases hy
  have hs1 : Sim h (zV m (.par 0) (.slice none 0 0)) (StL.get [(.par 0, Row.slt e sz [])]) w := by
    refine ⟨hs.imm, fun y row hy => ?_, fun y row b hy hb => ?_, fun y y' r r' b hy hy' hb hb' => ?_⟩
    · obtain ⟨rfl, rfl⟩ := hget y row hy
      exact ⟨[], by rw [zu]; exact ⟨by simp, .inl ⟨rfl, rfl⟩⟩, by simp [RepEs]⟩
    · obtain ⟨rfl, rfl⟩ := hget y row hy
      rw [zu] at hb; simp [blk] at hb
    · rw [(hget y r hy).1, (hget y' r' hy').1]
  have hrep1 : RepAs h (zV m (.par 0) (.slice none 0 0)) (fun j => vs[j]?) 0 (.row (.par 0) :: rest) :=
    ⟨⟨_, k1, by simp only [RepA]; exact ⟨by rw [zu], rfl⟩⟩, RepAs.mono (fun _ _ hu => hu) hm1 (fun _ _ hu => hu) hc k3⟩
  refine (H.run h _ vs w hs1 hn hrep1).mono ?_
  rintro ee w' ⟨v, h', m', e1, e2, e3, e4⟩
  simp only [List.all_eq_true, Bool.and_eq_true, Bool.not_eq_true', decide_eq_false_iff_not] at hS
  let m2 := zV m' (.par 0) (m (.par 0))
  have hmm : ∀ y, y ∉ [Id.par 0] → m2 y = m' y := fun y => zU
  have hS2 : ∀ y row, StL.get S' y = some row → y ∉ [Id.par 0] ∧ row.clean [.par 0] = true := fun y row hy => by
    have := hS _ (StL.get_mem hy)
    exact ⟨by simpa using this.1, this.2⟩
  refine ⟨v, h', m2, e1, RepA.mono (fun _ _ hu => hu) hmm hr e2, ⟨e3.imm, fun y row hy => ?_, fun y row b hy hb => ?_, fun y y' r r' b hy hy' hb hb' => ?_⟩, ⟨⟨e4.foot.os, e4.foot.tape, e4.foot.output, e4.foot.size, fun b hlt hn2 => e4.foot.keep b hlt fun y row hy hbk => ?_, e4.foot.grow, fun y row b hy hbk => ?_⟩, fun k => ?_⟩⟩
  · exact SimRow.mono (N := [.par 0]) (fun _ _ hu => hu) hmm (hS2 y row hy).1 (hS2 y row hy).2 (fun _ _ => rfl) (e3.rows y row hy)
  · rw [hmm y (hS2 y row hy).1] at hb; exact e3.sep y row b hy hb
  · rw [hmm y (hS2 y r hy).1] at hb
    rw [hmm y' (hS2 y' r' hy').1] at hb'
    exact e3.inj y y' r r' b hy hy' hb hb'
  · obtain ⟨rfl, rfl⟩ := hget y row hy
    rw [zu] at hbk; simp [blk] at hbk
  · rw [hmm y (hS2 y row hy).1] at hbk
    rcases e4.foot.fresh y row b hy hbk with h1 | ⟨y', row', q1, q2⟩
    · exact .inl h1
    · obtain ⟨rfl, rfl⟩ := hget y' row' q1
      rw [zu] at q2; simp [blk] at q2
  · by_cases hk : Id.par k = .par 0
    · rw [hk]; simp only [m2]; rw [zu]
    · rw [hmm _ (by simpa using hk), e4.par k, hm1 _ (by simpa using hk)]
end Go.AL
set_option linter.unusedSimpArgs false
namespace Go.AL
open Go Go.RowKit
def zmI : List Nat → List AV → EnvL → EnvL
  | t :: ts, a :: as, e => zmI ts as ((t, a) :: e)
  | _, _, e => e
theorem zhC {h : Heap} {m : zQ} {nt : Nat} {vs : Array Value} : ∀ (ps : List Nat) (as : List AV) (k : Nat) (arr : Array Value) (e : EnvL), arr.size = nt → (∀ p ∈ ps, p < nt) → ps.length = as.length → RepAs h m (fun j => vs[j]?) k as → vs.size = k + as.length →
    (∀ t, RepA h m (arr.getD t undef) (e.get t)) → ∀ t, RepA h m (((ps.zip (vs.toList.drop k)).foldl (fun tmps (x : Nat × Value) => tmps.setIfInBounds x.1 x.2) arr).getD t undef) ((zmI ps as e).get t)
  | [], as, k, arr, e, hs, hp, hl, H, hn, he, t => by
    cases as with
    | nil => simpa [zmI] using he t
    | cons a as => simp at hl
  | p :: ps, as, k, arr, e, hs, hp, hl, H, hn, he, t => by
    cases as with
    | nil => simp at hl
    | cons a as =>
      simp only [RepAs] at H
      obtain ⟨⟨u, h1, h2⟩, h3⟩ := H
      have hk : k < vs.size := by simp at hn; omega
      have hd : vs.toList.drop k = u :: vs.toList.drop (k + 1) := by
        rw [List.drop_eq_getElem_cons (by simpa using hk)]
        congr 1
        rw [Array.getElem?_eq_getElem hk] at h1
        simpa using h1
      rw [hd]
      simp only [List.zip_cons_cons, List.foldl_cons, zmI]
      refine zhC ps as (k + 1) _ _ (by simpa using hs) (fun q hq => hp q (by simp [hq])) (by simpa using hl) h3 (by simp at hn; omega) (fun s => ?_) t
      simp only [EnvL.get]
      by_cases hps : p = s
      · subst hps
        rw [if_pos rfl]
        have : (arr.setIfInBounds p u).getD p undef = u := by
          have := hp p (by simp)
          simp [Array.getD_eq_getD_getElem?, Array.getElem?_setIfInBounds, hs, this]
        rw [this]; exact h2
      · rw [if_neg hps]
        have : (arr.setIfInBounds p u).getD s undef = arr.getD s undef := by
          simp [Array.getD_eq_getD_getElem?, Array.getElem?_setIfInBounds, hps]
        rw [this]; exact he s
theorem EnvL.get_mem : ∀ (L : EnvL) (s : Nat), L.get s = .junk ∨ (s, L.get s) ∈ L
  | [], s => .inl rfl
  | (t, v) :: L, s => by
    simp only [EnvL.get]
    by_cases e : t = s
    · subst e; rw [if_pos rfl]; exact .inr (by simp)
    · rw [if_neg e]
      rcases EnvL.get_mem L s with h | h
      · exact .inl h
      · exact .inr (by simp [h])
structure RoundT (P : Program) (k : LoopK) (cs : EnvL) (args : List AV) (S S' : StL) : Prop where
  n : args.length = k.params.size
  run : ∀ h m (l : Nat) (arr vs : Array Value) w, Sim h m (StL.get S) w → arr.size = k.nt → (∀ x ∈ cs, RepA h m (arr.getD x.1 undef) x.2) → vs.size = args.length → RepAs h m (fun j => vs[j]?) 0 args →
    w.heap[l]? = some (.loop (k.obj arr)) → h l = none → (∀ id row, StL.get S id = some row → blk (m id) ≠ some l) →
    RoundIn Fence.wide 0 P l k.fn ((k.params.zip vs).foldl (fun tmps (t, a) => tmps.setIfInBounds t a) arr) k.assign k.body w
      fun e w' => e = .returned (.bool true) ∧ ∃ h' m', Sim h' m' (StL.get S') w' ∧ Since h m (StL.get S) w h' m' (StL.get S') w'
def zhB (S' : StL) : Exit → Env → zG → Prop
  | .normal, env, st => ∀ id row, StL.get S' id = some row → st id = some row
  | _, _, _ => False
theorem Since.swap {h1 h3 : Heap} {m1 m3 : zQ} {st1 st3 : zG} {w1 w3 : World} {l : Nat} {o o1 : Obj} (s : Since h1 m1 st1 (w1.putObj l o) h3 m3 st3 w3) (hl : w1.heap[l]? = some o1) (hn : ∀ id row, st1 id = some row → blk (m1 id) ≠ some l) : Since h1 m1 st1 w1 h3 m3 st3 (w3.putObj l o1) := by
  have hlt : l < w1.heap.size := (Array.getElem?_eq_some_iff.1 hl).1
  have hsz : w1.heap.size ≤ w3.heap.size := by simpa using s.foot.size
  refine ⟨⟨s.foot.os, s.foot.tape, s.foot.output, by simpa using hsz, fun b hb hnb => ?_, s.foot.grow, fun id row b hr hb => by simpa using s.foot.fresh id row b hr hb⟩, s.par⟩
  obtain ⟨k1, k2⟩ := s.foot.keep b (by simpa using hb) hnb
  by_cases e : b = l
  · subst e
    exact ⟨by rw [World.putObj_heap_same (by omega), hl], k2⟩
  · rw [World.putObj_heap_other e] at k1 ⊢
    exact ⟨k1, k2⟩
theorem Since.sub {h h' : Heap} {m m' : zQ} {st st' st2 : zG} {w w' : World} (s : Since h m st w h' m' st' w') (hs : ∀ id row, st2 id = some row → st' id = some row) : Since h m st w h' m' st2 w' :=
  ⟨⟨s.foot.os, s.foot.tape, s.foot.output, s.foot.size, s.foot.keep, s.foot.grow, fun id row b hr => s.foot.fresh id row b (hs id row hr)⟩, s.par⟩
theorem Sim.sub {h : Heap} {m : zQ} {st st2 : zG} {w : World} (s : Sim h m st w) (hs : ∀ id row, st2 id = some row → st id = some row) : Sim h m st2 w :=
  ⟨s.imm, fun id row hr => s.rows id row (hs id row hr), fun id row b hr => s.sep id row b (hs id row hr), fun id id' r r' b k1 k2 => s.inj id id' r r' b (hs _ _ k1) (hs _ _ k2)⟩
theorem Foot.away {h h' : Heap} {m m' : zQ} {st st' : zG} {w w' : World} (f : Foot h m st w h' m' st' w') {l : Nat} (hl : l < w.heap.size) (hn : ∀ id row, st id = some row → blk (m id) ≠ some l) : ∀ id row, st' id = some row → blk (m' id) ≠ some l := fun id row hr hb => by
  rcases f.fresh id row l hr hb with h | ⟨i, r, hi, hb'⟩
  · omega
  · exact hn i r hi hb'
theorem zfI (ps : Array Tmp) (vs : Array Value) (arr : Array Value) : (ps.zip vs).foldl (fun tmps (t, a) => tmps.setIfInBounds t a) arr = (ps.toList.zip (vs.toList.drop 0)).foldl (fun tmps (x : Nat × Value) => tmps.setIfInBounds x.1 x.2) arr := by
  rw [← Array.foldl_toList, Array.toList_zip]
  rfl
theorem zcD {P : Program} {k : LoopK} {cs : EnvL} {args : List AV} {S S' : StL} (hps : (k.params.toList.all fun p => decide (p < k.nt)) = true) (hlen : args.length = k.params.size) (hrl : (Code.roundless k.assign && Code.roundless k.body) = true)
    (H : CodeT P k.nt k.assign (zmI k.params.toList args cs).get (StL.get S) (ziL P k.nt k.body (gQ k.nt (zhB S')))) : RoundT P k cs args S S' := by
  refine ⟨hlen, ?_⟩
  intro h m l arr vs w hs hsz hrep hvs hargs hl hhl hnl
  simp only [Bool.and_eq_true] at hrl
  simp only [List.all_eq_true, decide_eq_true_eq] at hps
  have hlt : l < w.heap.size := (Array.getElem?_eq_some_iff.1 hl).1
  refine roundIn_of_wpIn (F := Fence.wide) trivial ?_
  have c0 : Conc k.nt h m (zmI k.params.toList args cs).get (StL.get S) { tmps := (k.params.zip vs).foldl (fun tmps (t, a) => tmps.setIfInBounds t a) arr, defers := [] } w := by
    refine ⟨hs, ?_, Marks.nil h m _ w, fun t => ?_⟩
    · rw [zfI]
      have : ∀ (L : List (Nat × Value)) (arr : Array Value), (L.foldl (fun tmps (x : Nat × Value) => tmps.setIfInBounds x.1 x.2) arr).size = arr.size := by
        intro L
        induction L with
        | nil => intro arr; rfl
        | cons x L ih => intro arr; simp [ih]
      exact (this _ _).trans hsz
    · show RepA h m (((k.params.zip vs).foldl (fun tmps (t, a) => tmps.setIfInBounds t a) arr).getD t undef) _
      rw [zfI]
      exact zhC k.params.toList args 0 arr _ hsz hps (by simpa using hlen.symm) hargs (by simpa using hvs) (fun s => by
        rcases EnvL.get_mem cs s with e | e
        · rw [e]; simp [RepA]
        · exact hrep _ e) t
  have hro1 : (some l : Option Nat) = none ∨ Code.roundless k.assign = true := .inr hrl.1
  have hro2 : (some l : Option Nat) = none ∨ Code.roundless k.body = true := .inr hrl.2
  refine wpIn_mono (H.run (some l) hro1 h m _ w c0) ?_
  rintro e a1 w1 ⟨env1, st1, h1, m1, hq, c1, s1, _⟩
  cases e with
  | normal =>
    have hl1 : w1.heap[l]? = some (.loop (k.obj arr)) := (s1.foot.keep l hlt hnl).1.trans hl
    have hh1 : h1 l = none := (s1.foot.keep l hlt hnl).2.trans hhl
    have hn1 := s1.foot.away hlt hnl
    refine ⟨_, run_beginRound hl1 rfl, ?_⟩
    have c2 : Conc k.nt h1 m1 env1 st1 a1 (w1.putObj l (.loop { (k.obj arr) with state := .busy })) := by
      refine ⟨c1.sim.putObj _ hh1 hn1, c1.size, ⟨c1.defers.nodup, fun d hd => ?_⟩, c1.env⟩
      obtain ⟨B, e, k1, k2⟩ := c1.defers.all d hd
      refine ⟨B, e, ?_, k2⟩
      rw [World.putObj_heap_other]
      · exact k1
      · rintro rfl; rw [hl1] at k1; cases k1
    refine wpIn_mono ((show CodeT P k.nt k.body env1 st1 (gQ k.nt (zhB S')) from hq).run (some l) hro2 h1 m1 a1 _ c2) ?_
    rintro e a3 w3 ⟨zoG, st3, h3, m3, ⟨env4, st4, g, hq3⟩, c3, s3, _⟩
    cases e with
    | normal =>
      obtain ⟨h4, m4, c4, s4⟩ := g h3 m3 a3 w3 c3
      have s34 := s3.trans s4
      have hlt1 : l < w1.heap.size := (Array.getElem?_eq_some_iff.1 hl1).1
      have hl3 : w3.heap[l]? = some (.loop { (k.obj arr) with state := .busy }) := by
        have := (s34.foot.keep l (by simpa using hlt1) hn1).1
        rw [World.putObj_heap_same hlt1] at this
        exact this
      have hn4 := s34.foot.away (by simpa using hlt1) hn1
      have hh4 : h4 l = none := (s34.foot.keep l (by simpa using hlt1) hn1).2.trans hh1
      refine ⟨_, _, run_endRound none hl3, rfl, h4, m4, (c4.sim.sub hq3).putObj _ hh4 (fun id row hr => hn4 id row (hq3 id row hr)), ?_⟩
      exact (s1.trans (s34.swap hl1 hn1)).sub hq3
    | exit id => exact hq3.elim
    | goto t => exact hq3.elim
    | ret => exact hq3.elim
    | panic ch => exact hq3.elim
    | outgrown => exact hq3.elim
  | exit id => obtain ⟨_, _, _, hq⟩ := hq; exact hq.elim
  | goto t => obtain ⟨_, _, _, hq⟩ := hq; exact hq.elim
  | ret => obtain ⟨_, _, _, hq⟩ := hq; exact hq.elim
  | panic ch => obtain ⟨_, _, _, hq⟩ := hq; exact hq.elim
  | outgrown => obtain ⟨_, _, _, hq⟩ := hq; exact hq.elim
end Go.AL
set_option linter.unusedSimpArgs false
namespace Go.AL
open Go Go.RowKit
theorem StL.get_cons_ne {id j : Id} {r : Row} {L : StL} (h : id ≠ j) : StL.get ((id, r) :: L) j = StL.get L j := by simp [StL.get, h]
theorem StL.get_cons_of {id j : Id} {r row : Row} {L : StL} (hid : id ∉ L.ids) (h : StL.get L j = some row) : StL.get ((id, r) :: L) j = some row := by
  rw [StL.get_cons_ne]
  · exact h
  · rintro rfl; exact hid (StL.mem_ids h)
theorem StL.get_cons_cases {id j : Id} {r row : Row} {L : StL} (h : StL.get ((id, r) :: L) j = some row) : (id = j ∧ row = r) ∨ (id ≠ j ∧ StL.get L j = some row) := by
  by_cases e : id = j
  · subst e; simp [StL.get] at h; exact .inl ⟨rfl, h.symm⟩
  · rw [StL.get_cons_ne e] at h; exact .inr ⟨e, h⟩
section
variable {P : Program} {o : Oper} {ρ : Operand → AV}
theorem zjf {f : Operand} {as : Array Operand} {ts : Array TypeId} {id : Id} {k : LoopK} {cs0 cs : EnvL} {args : List AV} {S S' : StL} (σ : Id → Id) (ho : o.op = .call { callee := .value f, args := as, argTypes := ts }) (hf : ρ f = .row id) (H : RoundT P k cs0 args S S') (ok : CallOK S S' (.t (.bool true)) σ)
    (hcs : cs0.map (fun x => (x.1, x.2.ren σ)) = cs) (hid : id ∉ (S.ren σ).ids) (hid' : id ∉ (S'.ren σ).ids) (hidN : id ∉ (S'.ids.filter xd).map σ) (hcl : (cs.all fun x => x.2.clean ((S'.ids.filter xd).map σ)) = true) (hlen : as.size = args.length) (hargs : ArgsLE (as.toList.map ρ) (AV.renL σ args)) :
    OpT P o ρ (StL.get ((id, .loop k cs) :: S.ren σ)) (.t (.bool true)) (StL.get ((id, .loop k cs) :: S'.ren σ)) ((S'.ids.filter xd).map σ) := by
  intro h m a w hs hr K Q hK ro
  have r1 := hr f (by simp [ho, Op.operands, Call.operands])
  rw [hf] at r1
  simp only [RepA] at r1
  have hrow : SimRow h m w id (.loop k cs) := hs.rows id _ (by simp [StL.get])
  obtain ⟨l, arr, e1, e2, e3, e4⟩ := hrow
  have hs2 : Sim h m (StL.get (S.ren σ)) w := hs.sub fun j row hj => StL.get_cons_of hid hj
  obtain ⟨hs0, kf⟩ := zfe ok hs2
  have hbl : blk (m id) = some l := by rw [e1]; rfl
  obtain ⟨hl1, hl2⟩ := hs.sep id (.loop k cs) l (by simp [StL.get]) hbl
  have haway : ∀ j row, StL.get (S.ren σ) j = some row → blk (m j) ≠ some l := fun j row hj hb => by
    have := hs.inj j id row (.loop k cs) l (StL.get_cons_of hid hj) (by simp [StL.get]) hb hbl
    subst this
    exact hid (StL.mem_ids hj)
  have hrep : RepAs h m (fun j => (as.map a.eval)[j]?) 0 (as.toList.map ρ) :=
    zbl (f := a.eval) (fun j x hx => by
      have hj : j < as.size := by
        rcases Nat.lt_or_ge j as.size with h | h
        · exact h
        · simp [h] at hx
      simp at hx
      simp [hj]
      rw [Array.getElem?_eq_getElem hj] at hx
      cases hx
      rfl) fun x hx => hr x (by simp [ho, Op.operands, Call.operands]; right; simpa using hx)
  have hrun := H.run h (fun j => m (σ j)) l arr (as.map a.eval) w hs0 e3 (fun x hx => RepA.unren (e4 (x.1, x.2.ren σ) (by rw [← hcs]; exact List.mem_map_of_mem (f := fun x : Nat × AV => (x.1, x.2.ren σ)) hx))) (by simp [hlen]) (RepAs.unren (hargs h m _ 0 hrep)) e2 hl1 (fun j row hj hb => by
    have : StL.get (S.ren σ) (σ j) = some (row.ren σ) := StL.ren_get ok.inj (fun i hi => List.mem_append_left _ hi) hj
    exact haway _ _ this hb)
  have hy := run_yield (P := P) (args := as.map a.eval) e2 (by simp only [LoopK.obj]; rw [← H.n, Array.size_map, hlen])
  have hex : (execOp a.eval o).run P w = .ok (.round l k.fn ((k.params.zip (as.map a.eval)).foldl (fun tmps (t, a) => tmps.setIfInBounds t a) arr) k.assign k.body) w := by
    have hy' : (Instr.yield l (as.map a.eval)).run P w = .ok (.round l k.fn ((k.params.zip (as.map a.eval)).foldl (fun tmps (t, a) => tmps.setIfInBounds t a) arr) k.assign k.body) w := hy
    simp [execOp, ho, resolve, r1.1, e1, Deferred.ofValue, invoke, hy']
  refine ⟨fun _ _ => by cases ro <;> trivial, ?_⟩
  rw [Oper.semAt_eq _ _ _ (fun c hc => by rw [ho] at hc; cases hc), hex, Oper.uponIn_round]
  refine ⟨fun h => by simp [ROF, Fence.wide] at h, ?_⟩
  have goal : RoundIn Fence.wide 0 P l k.fn ((k.params.zip (as.map a.eval)).foldl (fun tmps (t, a) => tmps.setIfInBounds t a) arr) k.assign k.body w (fun
      | .returned v, w'' => K (a.put o.dst v) w''
      | .panicked chain, w'' => Q (.panic chain) a w''
      | .outgrown, _ => LetsOut Q) := by
    refine RoundIn.mono hrun ?_
    rintro e w' ⟨rfl, h', m', k1, k2⟩
    obtain ⟨m'', q1, q2, q3, q4⟩ := kf (v := .bool true) (by simp [RepA, RepT]) k1 k2
    have hmid : m'' id = m id := q4 id hidN
    obtain ⟨t1, t2⟩ := q3.keep l hl2 haway
    have haway' := q3.away hl2 haway
    refine hK (.bool true) h' m'' w' (by simp [RepA, RepT]) ⟨q2.imm, fun j row hj => ?_, fun j row b hj hb => ?_, fun j j' r r' b hj hj' hb hb' => ?_⟩ ⟨q3.os, q3.tape, q3.output, q3.size, fun b hb hn => q3.keep b hb fun j row hj => hn j row (StL.get_cons_of hid hj), q3.grow, fun j row b hj hb => ?_⟩ q4
    · rcases StL.get_cons_cases hj with ⟨rfl, rfl⟩ | ⟨hne, hj⟩
      · exact ⟨l, arr, by rw [hmid]; exact e1, by rw [t1]; exact e2, e3, fun x hx => RepA.mono q3.grow q4 (List.all_eq_true.1 hcl x hx) (e4 x hx)⟩
      · exact q2.rows j row hj
    · rcases StL.get_cons_cases hj with ⟨rfl, rfl⟩ | ⟨hne, hj⟩
      · rw [hmid, hbl] at hb
        cases hb
        exact ⟨by rw [t2]; exact hl1, Nat.lt_of_lt_of_le hl2 q3.size⟩
      · exact q2.sep j row b hj hb
    · rcases StL.get_cons_cases hj with ⟨rfl, rfl⟩ | ⟨hne, hj⟩
      · rcases StL.get_cons_cases hj' with ⟨rfl, rfl⟩ | ⟨hne', hj'⟩
        · rfl
        · rw [hmid, hbl] at hb
          cases hb
          exact absurd hb' (haway' j' r' hj')
      · rcases StL.get_cons_cases hj' with ⟨rfl, rfl⟩ | ⟨hne', hj'⟩
        · rw [hmid, hbl] at hb'
          cases hb'
          exact absurd hb (haway' j r hj)
        · exact q2.inj j j' r r' b hj hj' hb hb'
    · rcases StL.get_cons_cases hj with ⟨rfl, rfl⟩ | ⟨hne, hj⟩
      · exact .inr ⟨id, .loop k cs, by simp [StL.get], by rw [hmid] at hb; exact hb⟩
      · rcases q3.fresh j row b hj hb with h | ⟨i, r, hi, hb'⟩
        · exact .inl h
        · exact .inr ⟨i, r, StL.get_cons_of hid hi, hb'⟩
  cases ro with
  | none => exact goal
  | some l0 => exact goal
end
section
variable {P : Program} {nt : Nat} {ops : Array Oper} {o : Oper} {rest : List Oper} {env : EnvL} {st : StO} {acc : List SD} {K : EnvL → StO → List SD → Prop} {d : Nat}
theorem zhg {f : Operand} {as : Array Operand} {ts : Array TypeId} {id : Id} {k : LoopK} {cs0 cs : EnvL} {args : List AV} {S S' : StL} {st' : StO} {R1 R2 : StL} {N : List Id} (l : List (Id × Id)) (ho : o.op = .call { callee := .value f, args := as, argTypes := ts }) (hf : zE env.get f = .row id) (H0 : RoundT P k cs0 args S S') (hrow : StO.get st id = some (.loop k cs))
    (hargs : ArgsLE (as.toList.map (zE env.get)) (AV.renL (xq l) args)) (hcs : cs0.map (fun x => (x.1, x.2.ren (xq l))) = cs) (hR1 : S.ren (xq l) = R1) (hst : zf7 st R1) (hlen : (decide (as.size = args.length)) = true) (hok : zgM S S' (.t (.bool true)) l = true)
    (hR2 : S'.ren (xq l) = R2) (hN : (S'.ids.filter xd).map (xq l) = N) (hids : (!R1.ids.contains id && (!R2.ids.contains id && (!N.contains id && cs.all fun x => x.2.clean N))) = true) (hfr : xg N env st = true) (hs' : zgc R1 R2 N st = st')
    (hd : o.dst = some d) (hn : (decide (d < nt)) = true) (hg : zC ops o env = true)
    (H : LexP P nt ops rest ((d, .t (.bool true)) :: env) st' (⟨true, (id, .loop k cs) :: R1, .t (.bool true), (id, .loop k cs) :: R2, R1.ids, N⟩ :: acc) K) : LexP P nt ops (o :: rest) env st acc K := by
  obtain ⟨ok, hloc, hdom⟩ := kq hok
  simp only [Bool.and_eq_true, Bool.not_eq_true', List.contains_eq_mem, decide_eq_false_iff_not] at hids
  obtain ⟨i1, i2, i3, i4⟩ := hids
  have hT := zjf (P := P) (ρ := zE env.get) (id := id) (xq l) ho hf H0 ok hcs (by rw [hR1]; exact i1) (by rw [hR2]; exact i2) (by rw [hN]; exact i3) (by rw [hN]; exact i4) (of_decide_eq_true hlen) hargs
  rw [hR1, hR2, hN] at hT
  subst hs'
  have hfrs := yO hfr
  refine jO hT hd (of_decide_eq_true hn) (yT hg) (fun x hx => ?_) ?_ (fun j h1 h2 => ?_) ?_ hfr ?_ H
  · rcases List.mem_cons.1 hx with rfl | hx
    · exact hrow
    · exact zc hst x hx
  · intro j hj
    simp only [StL.ids, List.map_cons, List.mem_cons] at hj ⊢
    rcases hj with rfl | hj
    · exact .inl (.inl rfl)
    · subst hR1; subst hR2; subst hN
      simp only [StL.ids, StL.ren, List.map_map, List.mem_map, Function.comp] at hj ⊢
      obtain ⟨x, hx, rfl⟩ := hj
      have hk : x.1 ∈ S'.ids := List.mem_map_of_mem hx
      rcases hdom x.1 hk with h | h
      · obtain ⟨y, hy, e⟩ := List.mem_map.1 h
        exact .inl (.inr ⟨y, hy, by rw [e]⟩)
      · exact .inr ⟨x.1, by simpa using ⟨⟨x.2, hx⟩, h⟩, rfl⟩
  · simp only [StL.ids, List.map_cons, List.mem_cons] at h1
    rcases h1 with rfl | h1
    · simp [StL.get]
    · exact absurd h1 h2
  · intro j hj
    subst hN
    obtain ⟨k, hk, rfl⟩ := List.mem_map.1 hj
    rw [List.mem_filter] at hk
    exact hloc k hk.1 hk.2
  · rw [jI, jI]
    funext j
    simp only [xO]
    by_cases e : id = j
    · subst e
      have hn2 : StL.get R2 id = none := StL.get_none.2 i2
      have : StL.get ((id, Row.loop k cs) :: R2) id = some (.loop k cs) := by simp [StL.get]
      rw [hn2, this]
      simp only [i3, i1, or_self, if_false]
      exact hrow
    · rw [StL.get_cons_ne e]
      cases StL.get R2 j with
      | some r => rfl
      | none =>
        have : (j ∈ StL.ids ((id, Row.loop k cs) :: R1)) = (j ∈ R1.ids) := by simp [StL.ids, Ne.symm e]
        simp only [this]
end
end Go.AL
set_option linter.unusedSimpArgs false
namespace Go.AL
open Go Go.RowKit
theorem zf8 {st : zG} {R R' : StL} {N : List Id} {id : Id} {row : Row} (h : xO st R R' N id = some row) : StL.get R' id = some row ∨ (StL.get R' id = none ∧ id ∉ N ∧ id ∉ R.ids ∧ st id = some row) := by
  unfold xO at h
  cases e : StL.get R' id with
  | some r => rw [e] at h; exact .inl (by simpa using h)
  | none =>
    rw [e] at h
    simp only at h
    split at h
    · cases h
    · rename_i hn
      simp only [not_or] at hn
      exact .inr ⟨rfl, hn.1, hn.2, h⟩
theorem zbP {w : World} {o : Obj} {b : Nat} (h : b < w.heap.size) : (w.alloc o).heap[b]? = w.heap[b]? := by
  show (w.heap.push o)[b]? = _
  rw [Array.getElem?_push]
  simp [Nat.ne_of_lt h]
section
variable {P : Program} {nt : Nat}
theorem zce {g : Operand} {ps : Array Tmp} {assign body : Code} {f : FuncId} {caps caps0 : List AV} {cs0 : EnvL} {S S' : StL} {r : AV} {env : Env} {st : zG} {Q : Exit → Env → zG → Prop} (y Y : Id) (σ : Id → Id)
    (hf : xn (zE env g) = some (f, caps)) (hb : FnB P f)
    (H : ∀ fn B, Spec P f (.row y :: caps0) ((y, .loop ⟨nt, fn, ps, assign, body, B⟩ cs0) :: S) r ((y, .loop ⟨nt, fn, ps, assign, body, B⟩ cs0) :: S'))
    (ok : ∀ fn B, CallOK ((y, .loop ⟨nt, fn, ps, assign, body, B⟩ cs0) :: S) ((y, .loop ⟨nt, fn, ps, assign, body, B⟩ cs0) :: S') r σ)
    (hyr : xd y = false) (hyY : σ y = Y) (hYl : Y.isLoc = true) (hcl0 : caps.length = caps0.length) (hcaps : ArgsLE caps (AV.renL σ caps0)) (hcs : ∀ x ∈ cs0, AVLE (env x.1) (x.2.ren σ)) (hcY : ((cs0.map fun x => (x.1, x.2.ren σ)).all fun x => x.2.clean [Y]) = true)
    (hsub : ∀ id row, StL.get (S.ren σ) id = some row → st id = some row)
    (hdok : DomOK ⟨true, S.ren σ, r, S'.ren σ, (S.ren σ).ids, (S'.ids.filter xd).map σ⟩) (hfr : qG ((S'.ids.filter xd).map σ) env st) (hfY : qG [Y] env st)
    (hY1 : Y ∉ (S.ren σ).ids) (hY2 : Y ∉ (S'.ren σ).ids) (hYN : Y ∉ (S'.ids.filter xd).map σ) (hclY : ∀ id row, StL.get (S'.ren σ) id = some row → row.clean [Y] = true)
    (hq : Q .normal env (xO st (S.ren σ) (S'.ren σ) ((S'.ids.filter xd).map σ))) : CodeT P nt (.rangeFunc g ps assign body) env st Q := by
  refine ⟨fun ro hro h m a w c => ?_⟩
  have hro : ro = none := hro.resolve_right (by simp [Code.roundless])
  subst hro
  refine wpIn_rangeFunc fun fn _ => ?_
  let k : LoopK := ⟨nt, fn, ps, assign, body, w.heap.size⟩
  have hrun := run_enterLoop_outer (P := P) (w := w) fn a.tmps ps assign body
  obtain ⟨W, hW⟩ : ∃ W, W = (w.alloc (.deferred (some []))).alloc (.loop (k.obj a.tmps)) := ⟨_, rfl⟩
  have hWs : W.heap.size = w.heap.size + 2 := by rw [hW]; simp
  have hWo : ∀ b, b < w.heap.size → W.heap[b]? = w.heap[b]? := fun b hb => by
    rw [hW, zbP (by simp; omega), zbP hb]
  have hWB : W.heap[w.heap.size]? = some (.deferred (some [])) := by
    rw [hW, zbP (by simp)]; exact World.alloc_heap_new w _
  have hWl : W.heap[w.heap.size + 1]? = some (.loop (k.obj a.tmps)) := by
    rw [hW]
    have := World.alloc_heap_new (w.alloc (.deferred (some []))) (.loop (k.obj a.tmps))
    simpa using this
  have hrun' : (Instr.enterLoop fn a.tmps ps assign body (ROF none).round).run P w = .ok (w.heap.size + 1, [{ target := .collected w.heap.size, args := #[] }]) W := by
    rw [hW]; exact hrun
  have hold : ∀ b ob, h b = some ob → b < w.heap.size := fun b ob hb => (Array.getElem?_eq_some_iff.1 (c.sim.imm b ob hb)).1
  have hnone : ∀ b, w.heap.size ≤ b → h b = none := fun b hb => by
    cases e : h b with
    | none => rfl
    | some ob => have := hold b ob e; omega
  let m1 : zQ := zV m Y (.func (.yield (w.heap.size + 1)) #[] #[])
  have hm1 : ∀ id, id ∉ [Y] → m1 id = m id := fun _ => zU
  have hm1Y : m1 Y = .func (.yield (w.heap.size + 1)) #[] #[] := zu _ _ _
  have hr1 : RepA h m1 (a.eval g) (zE env g) := by
    refine RepA.mono (fun _ _ hu => hu) hm1 ?_ (c.eval g)
    cases g with
    | tmp t => exact hfY.1 t
    | const v => simp only [zE]; unfold ke; split <;> rfl
    | func f => rfl
    | global g => rfl
  have hcall : ∃ cv : Array Value, a.eval g = .func (.func f) #[] cv ∧ cv.size = caps.length ∧ RepAs h m1 (fun j => cv[j]?) 0 caps := by
    cases e : zE env g with
    | t y =>
      cases y with
      | fn g' =>
        rw [e] at hf hr1
        simp only [xn, Option.some.injEq, Prod.mk.injEq] at hf
        simp only [RepA, RepT] at hr1
        obtain ⟨rfl, rfl⟩ := hf
        exact ⟨#[], hr1, rfl, by simp [RepAs]⟩
      | _ => rw [e] at hf; simp [xn] at hf
    | fn g' cs =>
      rw [e] at hf hr1
      simp only [xn, Option.some.injEq, Prod.mk.injEq] at hf
      obtain ⟨rfl, rfl⟩ := hf
      exact hr1
    | _ => rw [e] at hf; simp [xn] at hf
  obtain ⟨cv, e1, e2, e3⟩ := hcall
  have hres : ∃ d, (resolve a.eval (rangeCall g (w.heap.size + 1)) 0).run P W = .ok d W ∧ (invoke d.target d.args).run P W = .ok (.enter f (#[.func (.yield (w.heap.size + 1)) #[] #[]] ++ cv)) W := by
    refine ⟨_, by simp [resolve, e1, Deferred.ofValue]; rfl, ?_⟩
    simp [invoke, zaB hb.h, Act.eval]
  obtain ⟨d, hres, hinv⟩ := hres
  refine ⟨w.heap.size + 1, [{ target := .collected w.heap.size, args := #[] }], W, d, W, f, _, W, hrun', hres, fun _ _ => trivial, hinv, fun h => by simp [ROF, Fence.wide] at h, ?_⟩
  have hren : StL.ren σ ((y, Row.loop k cs0) :: S) = (Y, Row.loop k (cs0.map fun x => (x.1, x.2.ren σ))) :: S.ren σ := by simp [StL.ren, Row.ren, hyY]
  have hren' : StL.ren σ ((y, Row.loop k cs0) :: S') = (Y, Row.loop k (cs0.map fun x => (x.1, x.2.ren σ))) :: S'.ren σ := by simp [StL.ren, Row.ren, hyY]
  have hlt : ∀ id row b, StL.get (S.ren σ) id = some row → blk (m id) = some b → b < w.heap.size := fun id row b hr hb => (c.sim.sep id row b (hsub id row hr) hb).2
  have hne : ∀ id row, StL.get (S.ren σ) id = some row → id ∉ [Y] := fun id row hr => by
    simp only [List.mem_singleton]; rintro rfl; exact hY1 (StL.mem_ids hr)
  have sim1 : Sim h m1 (StL.get (StL.ren σ ((y, Row.loop k cs0) :: S))) W := by
    rw [hren]
    refine ⟨fun b ob hb => by rw [hWo b (hold b ob hb)]; exact c.sim.imm b ob hb, fun id row hr => ?_, fun id row b hr hb => ?_, fun id id' r1 r2 b h1 h2 h3 h4 => ?_⟩
    · rcases StL.get_cons_cases hr with ⟨rfl, rfl⟩ | ⟨_, hr⟩
      · refine ⟨w.heap.size + 1, a.tmps, hm1Y, hWl, c.size, fun x hx => ?_⟩
        refine RepA.mono (N := [Y]) (fun _ _ hu => hu) hm1 (List.all_eq_true.1 hcY x hx) ?_
        obtain ⟨x0, hx0, rfl⟩ := List.mem_map.1 hx
        exact hcs x0 hx0 h m _ (c.env x0.1)
      · refine SimRow.mono (N := [Y]) (fun _ _ hu => hu) hm1 (hne id row hr) (hfY.2 id row (hsub id row hr)).2 (fun b hb => hWo b (hlt id row b hr hb)) (c.sim.rows id row (hsub id row hr))
    · rcases StL.get_cons_cases hr with ⟨rfl, rfl⟩ | ⟨_, hr⟩
      · rw [hm1Y] at hb
        simp only [blk, Option.some.injEq] at hb
        subst hb
        exact ⟨hnone _ (by omega), by omega⟩
      · rw [hm1 id (hne id row hr)] at hb
        obtain ⟨k1, k2⟩ := c.sim.sep id row b (hsub id row hr) hb
        exact ⟨k1, by omega⟩
    · rcases StL.get_cons_cases h1 with ⟨rfl, rfl⟩ | ⟨_, h1⟩
      · rcases StL.get_cons_cases h2 with ⟨rfl, rfl⟩ | ⟨_, h2⟩
        · rfl
        · rw [hm1Y] at h3
          simp only [blk, Option.some.injEq] at h3
          rw [hm1 id' (hne id' _ h2)] at h4
          have := hlt id' _ b h2 h4
          omega
      · rcases StL.get_cons_cases h2 with ⟨rfl, rfl⟩ | ⟨_, h2⟩
        · rw [hm1Y] at h4
          simp only [blk, Option.some.injEq] at h4
          rw [hm1 id (hne id _ h1)] at h3
          have := hlt id _ b h1 h3
          omega
        · rw [hm1 id (hne id _ h1)] at h3
          rw [hm1 id' (hne id' _ h2)] at h4
          exact c.sim.inj id id' _ _ b (hsub _ _ h1) (hsub _ _ h2) h3 h4
  have hargs : RepAs h m1 (fun j => (#[.func (.yield (w.heap.size + 1)) #[] #[]] ++ cv : Array Value)[j]?) 0 (AV.renL σ (.row y :: caps0)) := by
    show RepAs h m1 _ 0 (.row (σ y) :: AV.renL σ caps0)
    rw [hyY]
    simp only [RepAs]
    refine ⟨⟨.func (.yield (w.heap.size + 1)) #[] #[], (by show (#[Value.func (.yield (w.heap.size + 1)) #[] #[]] ++ cv : Array Value)[0]? = _; rw [Array.getElem?_append_left (Nat.lt_succ_self 0)]; rfl), ?_⟩, ?_⟩
    · simp only [RepA]; exact ⟨hm1Y.symm, rfl⟩
    · have := kT (g' := fun j => (#[.func (.yield (w.heap.size + 1)) #[] #[]] ++ cv : Array Value)[j]?) (d := 1) (fun j u hu => by
        show (#[Value.func (.yield (w.heap.size + 1)) #[] #[]] ++ cv : Array Value)[j + 1]? = some u
        rw [Array.getElem?_append_right (Nat.le_add_left 1 j)]
        simpa using hu) (hcaps h m1 _ 0 e3)
      simpa using this
  have hc := zdV (H fn w.heap.size) (ok fn w.heap.size) (vs := #[.func (.yield (w.heap.size + 1)) #[] #[]] ++ cv) sim1 (by simp [e2, hcl0]; omega) hargs
  have hNN : ((StL.ids ((y, Row.loop k cs0) :: S')).filter xd).map σ = (S'.ids.filter xd).map σ := by simp [StL.ids, hyr]
  have hNN' : ((StL.ids ((y, Row.loop ⟨nt, fn, ps, assign, body, w.heap.size⟩ cs0) :: S')).filter xd).map σ = (S'.ids.filter xd).map σ := hNN
  rw [hNN'] at hc
  refine zcf (ro := none) (Calls.mono hc ?_)
  rintro e w' ⟨v, h', m', rfl, k1, k2, k3, k4⟩
  rw [show (StL.ren σ ((y, Row.loop ⟨nt, fn, ps, assign, body, w.heap.size⟩ cs0) :: S')) = (Y, Row.loop k (cs0.map fun x => (x.1, x.2.ren σ))) :: S'.ren σ from hren'] at k2 k3
  rw [show (StL.ren σ ((y, Row.loop ⟨nt, fn, ps, assign, body, w.heap.size⟩ cs0) :: S)) = (Y, Row.loop k (cs0.map fun x => (x.1, x.2.ren σ))) :: S.ren σ from hren] at k3
  have hm'Y : m' Y = .func (.yield (w.heap.size + 1)) #[] #[] := (k4 Y hYN).trans hm1Y
  obtain ⟨l', arr, f1, f2, f3, f4⟩ : SimRow h' m' w' Y (.loop k (cs0.map fun x => (x.1, x.2.ren σ))) := k2.rows Y _ (by simp [StL.get])
  have hl' : l' = w.heap.size + 1 := by rw [hm'Y] at f1; simpa using f1.symm
  subst hl'
  have hblY : blk (m' Y) = some (w.heap.size + 1) := by rw [hm'Y]; rfl
  obtain ⟨g1, g2⟩ := k2.sep Y (.loop k (cs0.map fun x => (x.1, x.2.ren σ))) _ (by simp [StL.get]) hblY
  refine ⟨_, _, run_endLoop f2 (by simp [LoopK.obj]), ?_⟩
  show ziW nt h m st a w Q .normal _ _
  let m2 : zQ := zV m' Y (m Y)
  have hm2 : ∀ id, id ∉ [Y] → m2 id = m' id := fun _ => zU
  have hm2N : ∀ id, id ∉ (S'.ids.filter xd).map σ → m2 id = m id := fun id hid => by
    by_cases e : id = Y
    · subst e; exact zu _ _ _
    · rw [hm2 id (by simpa using e), k4 id hid, hm1 id (by simpa using e)]
  have hne' : ∀ id row, StL.get (S'.ren σ) id = some row → id ∉ [Y] := fun id row hr => by
    simp only [List.mem_singleton]; rintro rfl; exact hY2 (StL.mem_ids hr)
  have hnl : ∀ id row, StL.get (S'.ren σ) id = some row → blk (m' id) ≠ some (w.heap.size + 1) := fun id row hr hb => by
    have := k2.inj id Y row (.loop k (cs0.map fun x => (x.1, x.2.ren σ))) _ (StL.get_cons_of hY2 hr) (by simp [StL.get]) hb hblY
    exact hne' id row hr (by simp [this])
  have simF : Sim h' m2 (StL.get (S'.ren σ)) (w'.putObj (w.heap.size + 1) (.loop { (k.obj arr) with state := .exhausted })) := by
    have s1 : Sim h' m' (StL.get (S'.ren σ)) w' := k2.sub fun j row hj => StL.get_cons_of hY2 hj
    have s2 := s1.putObj (.loop { (k.obj arr) with state := .exhausted }) g1 hnl
    refine ⟨s2.imm, fun id row hr => SimRow.mono (N := [Y]) (fun _ _ hu => hu) hm2 (hne' id row hr) (hclY id row hr) (fun _ _ => rfl) (s2.rows id row hr), fun id row b hr hb => ?_, fun id id' r1 r2 b h1 h2 h3 h4 => ?_⟩
    · rw [hm2 id (hne' id row hr)] at hb; exact s2.sep id row b hr hb
    · rw [hm2 id (hne' id _ h1)] at h3; rw [hm2 id' (hne' id' _ h2)] at h4; exact s2.inj id id' _ _ b h1 h2 h3 h4
  have hkeep : ∀ b, b < w.heap.size → (∀ id row, StL.get (S.ren σ) id = some row → blk (m id) ≠ some b) → w'.heap[b]? = w.heap[b]? ∧ h' b = h b := fun b hb hn => by
    obtain ⟨q1, q2⟩ := k3.keep b (by omega) fun id row hr hbb => by
      rcases StL.get_cons_cases hr with ⟨rfl, rfl⟩ | ⟨_, hr⟩
      · rw [hm1Y] at hbb; simp only [blk, Option.some.injEq] at hbb; omega
      · rw [hm1 id (hne id row hr)] at hbb; exact hn id row hr hbb
    exact ⟨q1.trans (hWo b hb), q2⟩
  have footF : Foot h m (StL.get (S.ren σ)) w h' m2 (StL.get (S'.ren σ)) (w'.putObj (w.heap.size + 1) (.loop { (k.obj arr) with state := .exhausted })) := by
    have hos : W.os = w.os ∧ W.tape = w.tape ∧ W.output = w.output := by rw [hW]; exact ⟨rfl, rfl, rfl⟩
    have hsz := k3.size
    refine ⟨k3.os.trans hos.1, k3.tape.trans hos.2.1, k3.output.trans hos.2.2, by simp; omega, fun b hb hn => ?_, k3.grow, fun id row b hr hb => ?_⟩
    · rw [World.putObj_heap_other (by omega)]; exact hkeep b hb hn
    · rw [hm2 id (hne' id row hr)] at hb
      rcases k3.fresh id row b (StL.get_cons_of hY2 hr) hb with h | ⟨i, r, hi, hb'⟩
      · exact .inl (by omega)
      · rcases StL.get_cons_cases hi with ⟨rfl, rfl⟩ | ⟨_, hi⟩
        · rw [hm1Y] at hb'; simp only [blk, Option.some.injEq] at hb'; exact .inl (by omega)
        · rw [hm1 i (hne i _ hi)] at hb'; exact .inr ⟨i, r, hi, hb'⟩
  obtain ⟨simA, footA⟩ := zcj (d := ⟨true, S.ren σ, r, S'.ren σ, (S.ren σ).ids, (S'.ids.filter xd).map σ⟩) c.sim hfr hdok hsub simF footF hm2N
  have hBnot : ∀ id row, xO st (S.ren σ) (S'.ren σ) ((S'.ids.filter xd).map σ) id = some row → blk (m2 id) ≠ some w.heap.size := fun id row hr hb => by
    rcases zf8 hr with hr | ⟨_, h1, _, h2⟩
    · rw [hm2 id (hne' id row hr)] at hb
      rcases k3.fresh id row _ (StL.get_cons_of hY2 hr) hb with h | ⟨i, r, hi, hb'⟩
      · omega
      · rcases StL.get_cons_cases hi with ⟨rfl, rfl⟩ | ⟨_, hi⟩
        · rw [hm1Y] at hb'; simp only [blk, Option.some.injEq] at hb'; omega
        · rw [hm1 i (hne i _ hi)] at hb'; have := hlt i r _ hi hb'; omega
    · rw [hm2N id h1] at hb
      have := (c.sim.sep id row _ h2 hb).2
      omega
  have hBk : w'.heap[w.heap.size]? = some (.deferred (some [])) ∧ h' w.heap.size = none := by
    obtain ⟨q1, q2⟩ := k3.keep w.heap.size (by omega) fun id row hr hbb => by
      rcases StL.get_cons_cases hr with ⟨rfl, rfl⟩ | ⟨_, hr⟩
      · rw [hm1Y] at hbb; simp only [blk, Option.some.injEq] at hbb; omega
      · rw [hm1 id (hne id row hr)] at hbb; have := hlt id row _ hr hbb; omega
    exact ⟨q1.trans hWB, q2.trans (hnone _ (Nat.le_refl _))⟩
  have hmarks := c.defers.foot footA
  refine ⟨env, _, h', m2, hq, ⟨simA, c.size, ⟨?_, fun d hd => ?_⟩, fun t => RepA.mono footA.grow hm2N (hfr.1 t) (c.env t)⟩, ⟨footA, fun kk => hm2N _ fun hk => by have := hdok.loc _ hk; simp [Id.isLoc] at this⟩, fun d hd => ?_⟩
  · refine List.nodup_cons.2 ⟨fun hd => ?_, c.defers.nodup⟩
    obtain ⟨B, eB, hB, _⟩ := c.defers.all _ hd
    have : w.heap.size = B := by simpa using eB
    have := (Array.getElem?_eq_some_iff.1 hB).1
    omega
  · rcases List.mem_cons.1 hd with rfl | hd
    · refine ⟨w.heap.size, rfl, ?_, hBk.2, hBnot⟩
      rw [World.putObj_heap_other (by omega)]
      exact hBk.1
    · exact hmarks.all d hd
  · rcases List.mem_cons.1 hd with rfl | hd
    · exact .inr ⟨w.heap.size, rfl, Nat.le_refl _⟩
    · exact .inl hd
end
end Go.AL
set_option linter.unusedSimpArgs false
namespace Go.AL
open Go Go.RowKit
section
variable {P : Program}
theorem vq {nt B : Nat} {fn : FuncId} {ps : Array Tmp} {assign body : Code} {cs : EnvL} {args : List AV} {S S' : StL} {env0 : EnvL} {st0 : StO} (hps : (ps.toList.all fun p => decide (p < nt)) = true) (hlen : (decide (args.length = ps.size)) = true) (hrl : (Code.roundless assign && Code.roundless body) = true)
    (he : zmI ps.toList args cs = env0) (hs : S.map (fun x => (x.1, some x.2)) = st0)
    (H : CodeT P nt assign env0.get st0.get (ziL P nt body (gQ nt (zhB S')))) : RoundT P ⟨nt, fn, ps, assign, body, B⟩ cs args S S' := by
  subst he; subst hs
  rw [zdy] at H
  exact zcD hps (of_decide_eq_true hlen) hrl H
theorem zd2 {nt : Nat} {S' : StL} {env : EnvL} {st : StO} (h : zf7 st S') : gQ nt (zhB S') .normal env.get st.get := ⟨_, _, Ghost.refl _ _, fun id row hr => zc h _ (StL.get_mem hr)⟩
def zka (env : EnvL) (σ : Id → Id) : EnvL → Prop
  | [] => True
  | x :: l => AVLE (env.get x.1) (x.2.ren σ) ∧ zka env σ l
theorem zcb {env : EnvL} {σ : Id → Id} : ∀ {l : EnvL}, zka env σ l → ∀ x ∈ l, AVLE (env.get x.1) (x.2.ren σ)
  | [], _, x, h => by simp at h
  | y :: l, H, x, h => by
    rcases List.mem_cons.1 h with rfl | h
    · exact H.1
    · exact zcb H.2 x h
theorem xD {nt : Nat} {g : Operand} {ps : Array Tmp} {assign body : Code} {f : FuncId} {caps caps0 : List AV} {cs0 : EnvL} {S S' R1 R2 : StL} {r : AV} {env : EnvL} {st st' : StO} {N : List Id} {Q : Exit → Env → zG → Prop} (y Y : Id) (l : List (Id × Id))
    (hf : xn (zE env.get g) = some (f, caps)) [hb : FnB P f]
    (H : ∀ fn B, Spec P f (.row y :: caps0) ((y, .loop ⟨nt, fn, ps, assign, body, B⟩ cs0) :: S) r ((y, .loop ⟨nt, fn, ps, assign, body, B⟩ cs0) :: S'))
    (hok : ∀ fn B, zgM ((y, .loop ⟨nt, fn, ps, assign, body, B⟩ cs0) :: S) ((y, .loop ⟨nt, fn, ps, assign, body, B⟩ cs0) :: S') r l = true)
    (hyr : (vn y && Y.isLoc) = true) (hyY : xq l y = Y) (hcl0 : (decide (caps.length = caps0.length)) = true) (hcaps : ArgsLE caps (AV.renL (xq l) caps0)) (hcs : zka env (xq l) cs0) (hcY : ((cs0.map fun x => (x.1, x.2.ren (xq l))).all fun x => x.2.clean [Y]) = true)
    (hR1 : S.ren (xq l) = R1) (hst : zf7 st R1) (hR2 : S'.ren (xq l) = R2) (hN : (S'.ids.filter xd).map (xq l) = N) (hfr : xg N env st = true) (hfY : xg [Y] env st = true)
    (hids : (!R1.ids.contains Y && (!R2.ids.contains Y && (!N.contains Y && R2.all fun x => x.2.clean [Y]))) = true) (hs' : zgc R1 R2 N st = st')
    (hq : Q .normal env.get st'.get) : CodeT P nt (.rangeFunc g ps assign body) env.get st.get Q := by
  simp only [Bool.and_eq_true, Bool.not_eq_true', List.contains_eq_mem, decide_eq_false_iff_not, List.all_eq_true] at hids hyr
  obtain ⟨i1, i2, i3, i4⟩ := hids
  obtain ⟨h1, h2⟩ := hyr
  have hloc : ∀ k ∈ S'.ids, xd k = true → (xq l k).isLoc = true := fun k hk hr => (kq (hok 0 0)).2.1 k (by simp [StL.ids]; exact .inr (by simpa [StL.ids] using hk)) hr
  have hdom : ∀ k ∈ S'.ids, k ∈ S.ids ∨ xd k = true := fun k hk => by
    have hk' := hok 0 0
    unfold zgM at hk'
    simp only [Bool.and_eq_true, List.all_eq_true, Bool.or_eq_true, Bool.not_eq_true', decide_eq_false_iff_not, decide_eq_true_eq] at hk'
    rcases hk'.2.2.2.2 k (by simp [StL.ids]; exact .inr (by simpa [StL.ids] using hk)) with h | h
    · have hh : k ∈ StL.ids ((y, Row.loop ⟨nt, 0, ps, assign, body, 0⟩ cs0) :: S) := by simpa using h.2
      simp only [StL.ids, List.map_cons, List.mem_cons] at hh
      rcases hh with rfl | hh
      · exfalso
        have : Y ∈ R2.ids := by
          rw [← hR2, ← hyY]
          simp only [StL.ids, StL.ren, List.map_map, List.mem_map, Function.comp] at hk ⊢
          obtain ⟨x, hx, e⟩ := hk
          exact ⟨x, hx, by rw [e]⟩
        exact i2 this
      · exact .inl hh
    · exact .inr h
  subst hR1; subst hR2; subst hN; subst hs'
  refine zce y Y (xq l) hf hb H (fun fn B => (kq (hok fn B)).1) (by cases y <;> simp_all [vn, xd]) hyY h2 (of_decide_eq_true hcl0) hcaps (zcb hcs) hcY (fun id row hr => zc hst _ (StL.get_mem hr)) ⟨?_, fun id h1 h2 => absurd h1 h2, ?_⟩ (yO hfr) (yO hfY) i1 i2 i3 (fun id row hr => i4 _ (StL.get_mem hr)) ?_
  · intro id hid
    simp only [StL.ids, StL.ren, List.map_map, List.mem_map, Function.comp] at hid ⊢
    obtain ⟨x, hx, rfl⟩ := hid
    have hk : x.1 ∈ S'.ids := List.mem_map_of_mem hx
    rcases hdom x.1 hk with h | h
    · obtain ⟨y, hy, e⟩ := List.mem_map.1 h
      exact .inl ⟨y, hy, by rw [e]⟩
    · exact .inr ⟨x.1, by simpa using ⟨⟨x.2, hx⟩, h⟩, rfl⟩
  · intro id hid
    obtain ⟨k, hk, rfl⟩ := List.mem_map.1 hid
    rw [List.mem_filter] at hk
    exact hloc k hk.1 hk.2
  · rw [← jI]; exact hq
end
theorem zlG {nt : Nat} {env : Env} {st : zG} (t : Nat) (id : Id) {ty : TypeId} {ts : List T} {x' : AV} (hx : ∀ (h h' : Heap) (m : zQ) (b : Nat), m id = .pointer (some ⟨b, 0, none⟩) → h.le h' → RepL h' (Go.AL.hcell h' b) 0 ts → ∀ v, RepA h m v (env t) → RepA h' m v x') (hr : st id = some (.var ty (ts.map .t))) :
    Ghost nt env st (fun s => if s = t then x' else env s) (fun j => if j = id then none else st j) := fun h m a w c => by
  obtain ⟨b, arr, e1, e2, e3, e4⟩ : SimRow h m w id (.var ty (ts.map .t)) := c.sim.rows id _ hr
  obtain ⟨k1, k2⟩ := c.sim.sep id _ b hr (by rw [e1]; rfl)
  let h' : Heap := fun x => if x = b then w.heap[b]? else h x
  have hh : h.le h' := fun x o hx => by
    show (if x = b then w.heap[b]? else h x) = some o
    split
    · rename_i e; subst e; rw [k1] at hx; cases hx
    · exact hx
  have hb' : h' b = some (.cells arr ty (0, 0)) := by show (if b = b then w.heap[b]? else h b) = _; rw [if_pos rfl]; exact e2
  have hcell : ∀ j u, arr[j]? = some u → hcell h' b j = some u := fun j u hu => by
    simp [Go.AL.hcell, hb', hu]
  have clean0 : ∀ x : AV, x.clean [] = true := fun x => by have := (vR [x]).1; simpa [AV.cleanL] using this
  have hrow : ∀ y row, (fun j => if j = id then none else st j) y = some row → y ≠ id ∧ st y = some row := fun y row hy => by
    simp only at hy
    split at hy
    · cases hy
    · rename_i e; exact ⟨e, hy⟩
  refine c.step (h' := h') (m' := m) ⟨fun x o hx => ?_, fun y row hy => ?_, fun y row b' hy hb => ?_, fun y y' r r' b' hy hy' hb hb' => ?_⟩ (fun s => ?_) ⟨⟨rfl, rfl, rfl, Nat.le_refl _, fun x hx hn => ⟨rfl, ?_⟩, hh, fun y row b' hy hb => ?_⟩, fun _ => rfl⟩
  · by_cases e : x = b
    · subst e; rw [hb'] at hx; cases hx; exact e2
    · have : h x = some o := by simpa [h', e] using hx
      exact c.sim.imm x o this
  · obtain ⟨_, hy⟩ := hrow y row hy
    refine SimRow.mono (N := []) hh (fun _ _ => rfl) (by simp) ?_ (fun _ _ => rfl) (c.sim.rows y row hy)
    exact ((wG (fun _ => AV.junk) st).2 y row hy).2
  · obtain ⟨hne, hy⟩ := hrow y row hy
    obtain ⟨q1, q2⟩ := c.sim.sep y row b' hy hb
    refine ⟨?_, q2⟩
    show (if b' = b then w.heap[b]? else h b') = none
    rw [if_neg]
    · exact q1
    · rintro rfl
      exact hne (c.sim.inj y id row _ b' hy hr hb (by rw [e1]; rfl))
  · exact c.sim.inj y y' r r' b' (hrow y r hy).2 (hrow y' r' hy').2 hb hb'
  · by_cases e : s = t
    · subst e
      rw [if_pos rfl]
      refine hx h h' m b e1 hh ?_ _ (c.env s)
      have key : ∀ (ts : List T) (o : Nat), RepAL h m (fun j => arr[j]?) o (ts.map .t) → RepL h' (Go.AL.hcell h' b) o ts := by
        intro ts
        induction ts with
        | nil => intro o _; simp [RepL]
        | cons x ts ih =>
          intro o H
          simp only [List.map_cons, RepAL, RepA] at H
          simp only [RepL]
          obtain ⟨⟨u, q1, q2, q3⟩, q4⟩ := H
          exact ⟨⟨u, hcell o u q1, q2, q3.mono hh⟩, ih (o + 1) q4⟩
      exact key ts 0 e4
    · rw [if_neg e]
      exact RepA.mono (N := []) hh (fun _ _ => rfl) (clean0 _) (c.env s)
  · show (if x = b then w.heap[b]? else h x) = h x
    rw [if_neg]
    rintro rfl
    exact hn id _ hr (by rw [e1]; rfl)
  · obtain ⟨_, hy⟩ := hrow y row hy
    exact .inr ⟨y, row, hy, hb⟩
theorem zfV {nt : Nat} {env env' : EnvL} {st st' : StO} (t : Nat) (id : Id) {ty : TypeId} {cs : List AV} {ts : List T} {x x' : AV} (ht : EnvL.get env t = x) (hx : ∀ (h h' : Heap) (m : zQ) (b : Nat), m id = .pointer (some ⟨b, 0, none⟩) → h.le h' → RepL h' (Go.AL.hcell h' b) 0 ts → ∀ v, RepA h m v x → RepA h' m v x') (hr : StO.get st id = some (.var ty cs)) (hcs : cs = ts.map .t) (he : (t, x') :: env = env') (hs : (id, none) :: st = st') : Ghost nt env.get st.get env'.get st'.get := by
  subst he; subst hs; subst hcs; subst ht
  have g := zlG (nt := nt) (env := env.get) (st := st.get) t id hx hr
  have e1 : (fun s => if s = t then x' else env.get s) = EnvL.get ((t, x') :: env) := by
    funext s
    by_cases e : s = t
    · subst e; simp [EnvL.get]
    · simp [EnvL.get, e, Ne.symm e]
  have e2 : (fun j => if j = id then none else st.get j) = StO.get ((id, none) :: st) := by
    funext j
    by_cases e : j = id
    · subst e; simp [StO.get]
    · simp [StO.get, e, Ne.symm e]
  rw [e1, e2] at g
  exact g
theorem zmp {id : Id} {ts : List T} (h h' : Heap) (m : zQ) (b : Nat) (e : m id = .pointer (some ⟨b, 0, none⟩)) (hh : h.le h') (hl : RepL h' (Go.AL.hcell h' b) 0 ts) (v : Value) (H : RepA h m v (.ref id 0 0 0)) : RepA h' m v (.tp (.agg ts) 0) := by
  simp only [RepA] at H ⊢
  obtain ⟨b', e1, e2⟩ := H
  rw [e] at e1
  simp only [blk, Option.some.injEq] at e1
  subst e1
  exact ⟨b, 0, by rw [e2], hl⟩
theorem jC {nt : Nat} {env env' : EnvL} {st st' : StO} (t : Nat) (id : Id) {ty : TypeId} {cs : List AV} (ts : List T) (ht : EnvL.get env t = .ref id 0 0 0) (hr : StO.get st id = some (.var ty cs)) (hcs : cs = ts.map .t) (he : (t, .tp (.agg ts) 0) :: env = env') (hs : (id, none) :: st = st') : Ghost nt env.get st.get env'.get st'.get :=
  zfV t id ht zmp hr hcs he hs
theorem jH {nt : Nat} {env env' : EnvL} {st st' : StO} (t : Nat) (id : Id) {ty : TypeId} {cs : List AV} (ts : List T) {f : FuncId} (ht : EnvL.get env t = .fn f [.ref id 0 0 0]) (hr : StO.get st id = some (.var ty cs)) (hcs : cs = ts.map .t) (he : (t, .fn f [.tp (.agg ts) 0]) :: env = env') (hs : (id, none) :: st = st') : Ghost nt env.get st.get env'.get st'.get :=
  zfV t id ht (fun h h' m b e hh hl v H => by
    simp only [RepA, RepAs] at H
    obtain ⟨vs, e1, e2, ⟨u, e3, e4⟩, _⟩ := H
    have := zmp h h' m b e hh hl u (by simpa only [RepA] using e4)
    simp only [RepA, RepAs]
    exact ⟨vs, e1, e2, ⟨u, e3, by simpa only [RepA] using this⟩, trivial⟩) hr hcs he hs
section
variable {P : Program} {nt : Nat}
def zoS (nt : Nat) (env1 : Env) (st1 : zG) : Exit → Env → zG → Prop := fun e env st => e = .normal ∧ Ghost nt env st env1 st1
theorem ze6 {x y : Code} {env env1 : EnvL} {st st1 : StO} {Q : Exit → Env → zG → Prop} (H1 : CodeT P nt x env.get st.get (zoS nt env1.get st1.get)) (H2 : CodeT P nt y env1.get st1.get Q) : CodeT P nt (.seq x y) env.get st.get Q := by
  refine jy (ziG H1 ?_)
  rintro e env' st' ⟨rfl, g⟩
  exact zl g H2
theorem zoG {a b : Nat × AV} {t : Nat} {v v' : Bool} (e : v = v') : [a, b, (t, AV.t (.bool v))] = [a, b, (t, AV.t (.bool v'))] := by rw [e]
end
theorem ziT {P : Program} {fn : Func} {env : EnvL} {st : StO} {t u s : Nat} {x y z : AV} (hr : fn.results = #[.tmp t, .tmp u, .tmp s]) (hx : AVLE (env.get t) x) (hy : AVLE (env.get u) y) (hz : AVLE (env.get s) z) : zgU P fn env.get st.get (.tup [x, y, z]) := fun nt h m a w c =>
  ⟨.tuple #[a.tmps.getD t undef, a.tmps.getD u undef, a.tmps.getD s undef], by simp [results, hr], #[a.tmps.getD t undef, a.tmps.getD u undef, a.tmps.getD s undef], rfl, rfl, by
    simp only [RepAs, and_true]
    exact ⟨⟨_, rfl, hx h m _ (c.env t)⟩, ⟨_, rfl, hy h m _ (c.env u)⟩, ⟨_, rfl, hz h m _ (c.env s)⟩⟩⟩
theorem xI {P : Program} {fn : Func} {env : EnvL} {st : StO} {t u s : Nat} {x y z x' y' z' : T} (hr : fn.results = #[.tmp t, .tmp u, .tmp s]) (hx : env.get t = .t x) (hy : env.get u = .t y) (hz : env.get s = .t z) (e : x = x') (e2 : y = y') (e3 : z = z') : zgU P fn env.get st.get (.tup [.t x', .t y', .t z']) :=
  ziT hr (AVLE.of_eq (by rw [hx, e])) (AVLE.of_eq (by rw [hy, e2])) (AVLE.of_eq (by rw [hz, e3]))
theorem qj {P : Program} {nt : Nat} {ops : Array Oper} {o : Oper} {rest : List Oper} {env : EnvL} {st : StO} {acc : List SD} {K : EnvL → StO → List SD → Prop} {d : Nat} {t : TypeId} {x : Operand} {s : ByteArray} {z : Int} (hz : (s.size : Int) = z) (ho : o.op = .call { callee := .builtin .len, args := #[x], argTypes := #[t] }) (hx : zE env.get x = .t (.str s)) [tu : TyU P t .string] (hd : o.dst = some d) (hn : (decide (d < nt)) = true) (hg : zC ops o env = true)
    (H : LexP P nt ops rest ((d, .t (.int .i64 z)) :: env) st (⟨true, [], .t (.int .i64 z), [], [], []⟩ :: acc) K) : LexP P nt ops (o :: rest) env st acc K := by
  subst hz; exact zdi ho hx hd hn hg H
theorem zhe {h : Heap} {m : zQ} {g : Nat → Option Value} : ∀ {es : List T} {o : Nat}, (∀ e ∈ es, e.isAgg = false) → (RepAL h m g o (es.map AV.t) ↔ RepEs h g o 1 es)
  | [], o, _ => by simp [RepAL, RepEs]
  | e :: es, o, hc => by
    have ih := zhe (h := h) (m := m) (g := g) (es := es) (o := o + 1) (fun x hx => hc x (by simp [hx]))
    have h1 := hc e (by simp)
    cases e <;> simp [T.isAgg] at h1 <;> simp [RepAL, RepEs, RepA, ih, List.map_cons]
theorem RowLE.arr {ty : TypeId} {cs : List AV} {es : List T} (e : cs = es.map AV.t) (hc : ∀ x ∈ es, x.isAgg = false) : RowLE (.var ty cs) (.arr ty 1 es) := fun h m w id H => by
  subst e
  obtain ⟨b, arr, h1, h2, h3, h4⟩ := H
  exact ⟨b, arr, h1, h2, by simpa using h3, (zhe hc).1 h4⟩
section
variable {P : Program} {nt : Nat} {ops : Array Oper} {o : Oper} {rest : List Oper} {env : EnvL} {st : StO} {acc : List SD} {K : EnvL → StO → List SD → Prop} {d : Tmp}
end
theorem PartsOK.mono {place place' : Nat → Option (Nat × Nat)} (hm : ∀ i p, place i = some p → place' i = some p) {ρ : Operand → AV} {n : Nat} : ∀ {ps : List (Nat × Operand)} {qs : List (Nat × AV)}, PartsOK place ρ n ps qs → PartsOK place' ρ n ps qs
  | [], [], H => H
  | (i, x) :: ps, (off, y) :: qs, H => ⟨⟨H.1.1, H.1.2.1, hm _ _ H.1.2.2.1, H.1.2.2.2⟩, PartsOK.mono hm H.2⟩
  | [], _ :: _, H => H.elim
  | _ :: _, [], H => H.elim
section
variable {P : Program} {nt : Nat} {ops : Array Oper} {o : Oper} {rest : List Oper} {env : EnvL} {st : StO} {acc : List SD} {K : EnvL → StO → List SD → Prop} {d : Nat}
end
section
variable {P : Program} {nt : Nat} {ops : Array Oper} {o : Oper} {rest : List Oper} {env : EnvL} {st : StO} {acc : List SD} {K : EnvL → StO → List SD → Prop} {d : Nat}
end
end Go.AL
set_option linter.unusedSimpArgs false
namespace Go.AL
open Go Go.RowKit
class Lies (P : Program) (e : TypeId) (n : Nat) (u : TypeId) : Prop where
  h : liesAt P P.depth e (n / P.cellsOf e) 0 u 1 = true
class CellsOf (P : Program) (e : TypeId) (n : Nat) : Prop where
  h : P.cellsOf e = n
class NoEsc (P : Program) (f : FuncId) : Prop where
  h : ∀ (x : Value) (w : World), (callFunc f #[x]).run P w = .ok (.value x) w
theorem NoEsc.of {P : Program} {f : FuncId} {fn : Func} (hf : P.funcs[f]? = some fn) (hname : (fn.name == "runtime.NumGoroutine") = false)
    (hb : fn.body.isNone = true) (hn : Extern.findNext fn = none) (he : Extern.find fn = some Extern.AbiNoEscape.same) : NoEsc P f :=
  ⟨fun x w => by rw [run_callFunc_extern hf hname hb hn he]; rfl⟩
section
variable {P : Program} {o : Oper} {ρ : Operand → AV}
end
section
variable {P : Program} {nt : Nat} {ops : Array Oper} {o : Oper} {rest : List Oper} {env : EnvL} {st : StO} {acc : List SD} {K : EnvL → StO → List SD → Prop} {d : Nat}
end
end Go.AL
set_option linter.unusedSimpArgs false
namespace Go.AL
open Go Go.RowKit
section
variable {P : Program} {o : Oper} {ρ : Operand → AV}
end
section
variable {P : Program} {nt : Nat} {ops : Array Oper} {o : Oper} {rest : List Oper} {env : EnvL} {st : StO} {acc : List SD} {K : EnvL → StO → List SD → Prop} {d : Nat}
end
theorem wC {G G' : Prop} (k : G') (h : G' → G := by intro h; (first | (with_reducible refine jy ?_) | (with_reducible refine zg0 ?_) | (with_reducible refine zi5 ?_) | (with_reducible refine zkS ?_) | (with_reducible refine zh6 ?_) | (with_reducible refine jN ?_) | ((with_reducible refine jJ ?_ ?_); · rfl) | (with_reducible refine zl9 ?_) | (with_reducible refine zmk ?_) | (with_reducible refine zf0 ?_) | (with_reducible refine zig ?_) | (with_reducible refine zny ?_) | (with_reducible refine zgy ?_) | ((with_reducible refine zfm ?_ ?_); · rfl) | ((with_reducible refine zel ?_ ?_); · rfl) | (with_reducible refine zgd ?_) | (with_reducible refine zh4 ?_) | ((with_reducible refine zee ?_ ?_); · rfl) | refine zmL rfl ?_ | refine zmT rfl ?_); exact h) : G := h k
theorem wK {G G' : Prop} (k : G') (h : G' → G := by intro h; (first | ((with_reducible refine zmw ?_); first | refine zna rfl rfl rfl ?_) | ((with_reducible refine zoi ?_); first | refine zbt (r := (.t _)) rfl rfl rfl rfl rfl ?_ | refine zbt (r := (.ref _ _ _ _)) rfl rfl rfl rfl rfl ?_ | refine zbt (r := (.row _)) rfl rfl rfl rfl rfl ?_ | refine zbt (r := (.tup _)) rfl rfl rfl rfl rfl ?_ | refine zbt (r := (.fn _ _)) rfl rfl rfl rfl rfl ?_) | ((with_reducible refine zaY ?_); first | refine zg7 rfl rfl rfl rfl rfl rfl rfl rfl ?_ | refine zaQ (r := (.t (.agg _))) rfl rfl rfl rfl rfl rfl rfl rfl rfl ?_ | refine zaQ (r := (.agg _)) rfl rfl rfl rfl rfl rfl rfl rfl rfl ?_ | refine ziV rfl rfl rfl rfl rfl rfl rfl ?_) | ((with_reducible refine zgl ?_); first | refine zfq rfl rfl rfl rfl rfl rfl rfl ?_ | refine zbE rfl rfl rfl rfl rfl rfl rfl ?_) | ((with_reducible refine zM ?_); first | refine zlk rfl rfl rfl rfl rfl rfl rfl ?_ | refine zkN rfl rfl rfl rfl rfl rfl ?_ | refine zkZ rfl rfl rfl rfl rfl rfl ?_ | refine zh9 rfl rfl rfl rfl rfl rfl ?_ | refine ziv rfl rfl rfl rfl rfl rfl ?_ | refine zgC rfl rfl rfl rfl rfl rfl rfl ?_ | refine znW rfl rfl rfl rfl rfl rfl (by decide) ?_ | refine zmr rfl rfl rfl rfl rfl rfl (by decide) ?_ | refine xi rfl rfl rfl rfl rfl rfl (by decide) ?_ | refine je rfl rfl rfl rfl rfl rfl (by decide) ?_) | ((with_reducible refine zlU ?_); first | refine qN (r := (.t _)) rfl rfl rfl rfl rfl ?_ | refine qN (r := (.ref _ _ _ _)) rfl rfl rfl rfl rfl ?_ | refine qN (r := (.row _)) rfl rfl rfl rfl rfl ?_ | refine qN (r := (.fn _ _)) rfl rfl rfl rfl rfl ?_ | refine qN (r := .junk) rfl rfl rfl rfl rfl ?_) | ((with_reducible refine znM ?_); first | refine zll (r := (.t _)) rfl rfl rfl rfl rfl rfl ?_ | refine zlf (r := (.t _)) rfl rfl rfl rfl rfl rfl ?_) | ((with_reducible refine zor ?_); first | refine zjU (r := (.t (.agg _))) (cs := (List.map .t _)) rfl rfl rfl rfl rfl rfl rfl rfl rfl ?_ | refine zjU (r := (.t _)) (cs := [.t _]) rfl rfl rfl rfl rfl rfl rfl rfl rfl ?_ | refine zjU (r := (.row _)) (cs := [.row _]) rfl rfl rfl rfl rfl rfl rfl rfl rfl ?_) | ((with_reducible refine zmD ?_); first | refine zlu rfl rfl rfl rfl rfl rfl rfl ?_) | ((with_reducible refine zmC ?_); first | refine vv (r := (.t (.agg _))) rfl rfl rfl rfl rfl rfl rfl rfl rfl rfl ?_ | refine vv (r := (.t _)) rfl rfl rfl rfl rfl rfl rfl rfl rfl rfl ?_ | refine vv (r := (.agg _)) rfl rfl rfl rfl rfl rfl rfl rfl rfl rfl ?_ | refine vv (r := (.row _)) rfl rfl rfl rfl rfl rfl rfl rfl rfl rfl ?_) | ((with_reducible refine ziQ ?_); first | refine zgV (r := (.ref _ _ _ _)) rfl rfl rfl rfl rfl rfl ?_) | ((with_reducible refine zn6 ?_); first | refine zoc rfl rfl rfl rfl rfl ?_ | refine zok rfl rfl rfl rfl rfl ?_ | refine znX rfl rfl rfl rfl rfl ?_) | ((with_reducible refine yJ ?_); first | refine zf3 rfl rfl rfl rfl rfl ?_) | ((with_reducible refine zj4 ?_); first | refine ziO rfl rfl rfl rfl rfl rfl ?_) | ((with_reducible refine ziM ?_); first | refine zgN rfl rfl rfl rfl rfl ?_) | ((with_reducible refine zfw ?_); first | refine zem rfl rfl rfl rfl rfl rfl rfl ?_) | ((with_reducible refine znq ?_); first | refine zlZ (r := (.t (.agg _))) rfl rfl rfl rfl rfl rfl rfl ?_) | ((with_reducible refine zoB ?_); first | refine ziK rfl rfl rfl rfl rfl ?_ | refine zdi rfl rfl rfl rfl rfl ?_ | refine zet rfl rfl rfl rfl rfl rfl ?_ | refine zdC rfl rfl rfl rfl rfl rfl ?_) | ((with_reducible refine zj2 ?_); first | refine zh8 rfl rfl rfl rfl rfl ?_) | ((with_reducible refine zoo ?_); first | refine znK rfl rfl rfl rfl rfl rfl ?_)); exact h) : G := h k
theorem wT {G : Prop} (h : G := by repeat first | exact TLe.refl _ | exact TLe.slq _ _ | exact TLe.nil _ | exact TLe.esl _ | refine TLe.agg ?_ | refine TLs.cons ?_ ?_ | exact TLs.nil) : G := h
theorem wA {G : Prop} (h : G := by repeat first | exact ArgsLE.nil | refine ArgsLE.cons (AVLE.refl _) ?_ | refine ArgsLE.t wT ?_) : G := h
variable {P : Program} {nt : Nat} {ops : Array Oper} {o : Oper} {rest : List Oper} {env : EnvL} {st : StO} {acc : List SD} {K : EnvL → StO → List SD → Prop} {d : Nat}
theorem zlN {f : Operand} {as : Array Operand} {ts : Array TypeId} {g : FuncId} {caps args : List AV} {S S' : StL} {r r' : AV} {st' : StO} {R1 R2 : StL} {N : List Id} {l : List (Id × Id)} (e : r' = r') (e2 : l = l) (ho : o.op = .call { callee := .value f, args := as, argTypes := ts }) (hf : xn (zE env.get f) = some (g, caps)) [hb : FnB P g] (H0 : Spec P g args S r S')
    (hargs : ArgsLE (as.toList.map (zE env.get) ++ caps) (AV.renL (xq l) args)) (hR1 : S.ren (xq l) = R1) (hst : zf7 st R1) (hlen : (decide (as.size + caps.length = args.length)) = true) (hok : zgM S S' r l = true) (hrr : r.ren (xq l) = r')
    (hR2 : S'.ren (xq l) = R2) (hN : (S'.ids.filter xd).map (xq l) = N) (hfr : xg N env st = true) (hs' : zgc R1 R2 N st = st')
    (hd : o.dst = some d) (hn : (decide (d < nt)) = true) (hg : zC ops o env = true)
    (H : LexP P nt ops rest ((d, r') :: env) st' (⟨true, R1, r', R2, R1.ids, N⟩ :: acc) K) : LexP P nt ops (o :: rest) env st acc K := ja l ho hf H0 hargs hR1 hst hlen hok hrr hR2 hN hfr hs' hd hn hg H
theorem wN {G G' H : Prop} (r : AV) (l : List (Id × Id)) (c : H) (k : G') (p : r = r → l = l → H → G' → G := by intro e e2 c k; exact zlN e e2 rfl rfl c (ArgsLE.refl _) rfl (by first | exact trivial | exact ⟨rfl, trivial⟩ | exact ⟨rfl, rfl, trivial⟩ | exact ⟨rfl, rfl, rfl, trivial⟩ | exact ⟨rfl, rfl, rfl, rfl, trivial⟩ | exact ⟨rfl, rfl, rfl, rfl, rfl, trivial⟩ | exact ⟨rfl, rfl, rfl, rfl, rfl, rfl, trivial⟩ | exact ⟨rfl, rfl, rfl, rfl, rfl, rfl, rfl, trivial⟩) rfl rfl rfl rfl rfl rfl rfl rfl rfl rfl k) : G := p rfl rfl c k
theorem wL {G G' H : Prop} (c : H) (k : G') (p : H → G' → G := by intro c k; exact zlm rfl rfl c rfl rfl (ArgsLE.refl _) rfl rfl rfl rfl rfl k) : G := p c k
theorem wE {G : Prop} (p : G := by refine zp ?_ (zc (by first | exact trivial | exact ⟨rfl, trivial⟩ | exact ⟨rfl, rfl, trivial⟩ | exact ⟨rfl, rfl, rfl, trivial⟩ | exact ⟨rfl, rfl, rfl, rfl, trivial⟩ | exact ⟨rfl, rfl, rfl, rfl, rfl, trivial⟩ | exact ⟨rfl, rfl, rfl, rfl, rfl, rfl, trivial⟩ | exact ⟨rfl, rfl, rfl, rfl, rfl, rfl, rfl, trivial⟩)); refine zF rfl rfl rfl inferInstance rfl inferInstance rfl ?_ ?_; exact TLe.av wT; exact AVLE.refl _) : G := p
theorem wD {G : Prop} (p : G := by refine zp ?_ (zc (by first | exact trivial | exact ⟨rfl, trivial⟩ | exact ⟨rfl, rfl, trivial⟩ | exact ⟨rfl, rfl, rfl, trivial⟩ | exact ⟨rfl, rfl, rfl, rfl, trivial⟩ | exact ⟨rfl, rfl, rfl, rfl, rfl, trivial⟩ | exact ⟨rfl, rfl, rfl, rfl, rfl, rfl, trivial⟩ | exact ⟨rfl, rfl, rfl, rfl, rfl, rfl, rfl, trivial⟩)); refine zfx rfl rfl rfl inferInstance rfl inferInstance rfl ?_; exact TLe.av wT) : G := p
theorem wB {G : Prop} (p : G := by refine zL (zp ?_ (zc (by first | exact trivial | exact ⟨rfl, trivial⟩ | exact ⟨rfl, rfl, trivial⟩ | exact ⟨rfl, rfl, rfl, trivial⟩ | exact ⟨rfl, rfl, rfl, rfl, trivial⟩ | exact ⟨rfl, rfl, rfl, rfl, rfl, trivial⟩ | exact ⟨rfl, rfl, rfl, rfl, rfl, rfl, trivial⟩ | exact ⟨rfl, rfl, rfl, rfl, rfl, rfl, rfl, trivial⟩))); refine zfx rfl rfl rfl inferInstance rfl inferInstance rfl ?_; exact TLe.av wT) : G := p
theorem wI {G G' H : Prop} (c : H) (k : G') (p : H → G' → G := by intro c k; first | exact yq (env0 := [(0, _)]) (st0 := []) c rfl rfl rfl rfl k | exact yq (env0 := [(0, _), (1, _)]) (st0 := []) c rfl rfl rfl rfl k | exact yq (env0 := [(0, _), (1, _), (2, _)]) (st0 := []) c rfl rfl rfl rfl k | exact yq (env0 := [(0, _)]) (st0 := [(_, some _)]) c rfl rfl rfl rfl k | exact yq (env0 := [(0, _), (1, _)]) (st0 := [(_, some _)]) c rfl rfl rfl rfl k | exact yq (env0 := []) (st0 := [(_, some _), (_, some _)]) c rfl rfl rfl rfl k | exact yq (env0 := [(0, _)]) (st0 := [(_, some _), (_, some _)]) c rfl rfl rfl rfl k | exact yq (env0 := [(0, _), (1, _)]) (st0 := [(_, some _), (_, some _)]) c rfl rfl rfl rfl k | exact yq (env0 := [(0, _), (1, _), (2, _)]) (st0 := [(_, some _), (_, some _)]) c rfl rfl rfl rfl k | exact yq (env0 := [(0, _)]) (st0 := [(_, some _), (_, some _), (_, some _)]) c rfl rfl rfl rfl k | exact yq (env0 := [(0, _), (1, _)]) (st0 := [(_, some _), (_, some _), (_, some _)]) c rfl rfl rfl rfl k | exact yq (env0 := [(0, _), (1, _), (2, _), (3, _)]) (st0 := [(_, some _), (_, some _), (_, some _)]) c rfl rfl rfl rfl k | exact yq (env0 := [(0, _), (1, _), (2, _), (3, _)]) (st0 := [(_, some _), (_, some _), (_, some _), (_, some _)]) c rfl rfl rfl rfl k | exact yq (env0 := [(0, _)]) (st0 := [(_, some _), (_, some _), (_, some _), (_, some _), (_, some _)]) c rfl rfl rfl rfl k | exact yq (env0 := [(0, _), (1, _)]) (st0 := [(_, some _), (_, some _), (_, some _), (_, some _), (_, some _)]) c rfl rfl rfl rfl k | exact yq (env0 := [(0, _), (1, _), (2, _)]) (st0 := [(_, some _), (_, some _), (_, some _), (_, some _), (_, some _)]) c rfl rfl rfl rfl k) : G := p c k
theorem wIG {G G' H : Prop} (c : H) (k : G') (p : H → G' → G := by intro c k; first | exact yw (env0 := []) (st0 := []) c rfl rfl rfl rfl k | exact yw (env0 := [(0, _)]) (st0 := []) c rfl rfl rfl rfl k | exact yw (env0 := [(0, _), (1, _)]) (st0 := []) c rfl rfl rfl rfl k | exact yw (env0 := [(0, _), (1, _), (2, _)]) (st0 := []) c rfl rfl rfl rfl k | exact yw (env0 := [(0, _), (1, _), (2, _), (3, _), (4, _)]) (st0 := []) c rfl rfl rfl rfl k | exact yw (env0 := [(0, _)]) (st0 := [(_, some _)]) c rfl rfl rfl rfl k | exact yw (env0 := [(0, _), (1, _)]) (st0 := [(_, some _)]) c rfl rfl rfl rfl k | exact yw (env0 := [(0, _), (1, _), (2, _)]) (st0 := [(_, some _)]) c rfl rfl rfl rfl k | exact yw (env0 := [(0, _), (1, _), (2, _), (3, _)]) (st0 := [(_, some _)]) c rfl rfl rfl rfl k | exact yw (env0 := [(0, _), (1, _)]) (st0 := [(_, some _), (_, some _)]) c rfl rfl rfl rfl k | exact yw (env0 := [(0, _), (1, _), (2, _)]) (st0 := [(_, some _), (_, some _)]) c rfl rfl rfl rfl k | exact yw (env0 := [(0, _)]) (st0 := [(_, some _), (_, some _), (_, some _)]) c rfl rfl rfl rfl k | exact yw (env0 := [(0, _), (1, _)]) (st0 := [(_, some _), (_, some _), (_, some _)]) c rfl rfl rfl rfl k | exact yw (env0 := [(0, _), (1, _), (2, _), (3, _)]) (st0 := [(_, some _), (_, some _), (_, some _)]) c rfl rfl rfl rfl k) : G := p c k
end Go.AL
