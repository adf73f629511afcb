/- The layer of abstract values, third part: the steps of a walk, and what a law needs of its arguments; each under the conditions that its own theorem names. -/
import Derived.Test.YtohgkmphkgaabaaGreatAl2
import Derived.SizedLaws
import Derived.OpenShut
import Derived.Carry
import Derived.SliceStrings
import Derived.MapKept
import Derived.Laws.Cover3
import Derived.Lib.Builder
import Derived.Lib.UnsafeStr
import Derived.Laws.Externs
set_option linter.unusedVariables false
set_option linter.unusedSimpArgs false
namespace Go.AL
open Go Go.RowKit
abbrev StO := List (Id × Option Row)
def StO.get : StO → zt
  | [], _ => none
  | (i, r) :: l, id => if i = id then r else StO.get l id
def zgP (N : List Id) : Option Row → Bool
  | none => true
  | some r => r.clean N
def zdE (N : List Id) : EnvL → Bool
  | [] => true
  | (_, x) :: l => x.clean N && zdE N l
def jC (N : List Id) : StO → Bool
  | [] => true
  | (i, r) :: l => !N.contains i && zgP N r && jC N l
theorem jt {N : List Id} : ∀ {l : EnvL}, zdE N l = true → ∀ t, (EnvL.get l t).clean N = true
  | [], _, t => rfl
  | (i, x) :: l, h, t => by
    simp only [zdE, Bool.and_eq_true] at h
    simp only [EnvL.get]
    split
    · exact h.1
    · exact jt h.2 t
theorem kW {N : List Id} : ∀ {l : StO}, jC N l = true → ∀ id row, StO.get l id = some row → id ∉ N ∧ row.clean N = true
  | [], _, id, row, h => by simp [StO.get] at h
  | (i, r) :: l, h, id, row, hr => by
    simp only [jC, Bool.and_eq_true, Bool.not_eq_true'] at h
    simp only [StO.get] at hr
    split at hr
    · rename_i e
      subst e
      rw [hr] at h
      exact ⟨by simpa using h.1.1, h.1.2⟩
    · exact kW h.2 id row hr
def yv (N : List Id) (env : EnvL) (st : StO) : Bool := zdE N env && jC N st
theorem yE {N : List Id} {env : EnvL} {st : StO} (h : yv N env st = true) : qh N env.get st.get := by
  simp only [yv, Bool.and_eq_true] at h
  exact ⟨jt h.1, kW h.2⟩
theorem vj (env : Env) (st : zt) : qh [] env st := by
  refine ⟨fun t => ?_, fun id row h => ⟨by simp, ?_⟩⟩
  · have := (x8 [env t]).1
    simpa [AV.cleanL] using this
  · cases row with
    | var ty cs => exact (x8 cs).1
    | slt => rfl
    | arr => rfl
    | dat => rfl
    | loop k cs =>
      simp only [Row.clean, List.all_eq_true]
      intro x _
      have := (x8 [x.2]).1
      simpa [AV.cleanL] using this
section
variable {P : Program} {nt : Nat} {ops : Array Oper}
inductive LexP (P : Program) (nt : Nat) (ops : Array Oper) : List Oper → EnvL → StO → List SD → (EnvL → StO → List SD → Prop) → Prop
  | nil {env : EnvL} {st : StO} {acc : List SD} {K : EnvL → StO → List SD → Prop} (h : K env st acc) : LexP P nt ops [] env st acc K
  | cons {o : Oper} {rest : List Oper} {env env' : EnvL} {st st' : StO} {acc : List SD} {K : EnvL → StO → List SD → Prop} {d : SD} (h1 : StepOK P nt ops o d env.get st.get) (h2 : env'.get = ye o d env.get) (h3 : st'.get = yw d st.get) (h4 : LexP P nt ops rest env' st' (d :: acc) K) : LexP P nt ops (o :: rest) env st acc K
theorem LexP.ex {o : Oper} {rest : List Oper} {env : EnvL} {st : StO} {acc : List SD} {K : EnvL → StO → List SD → Prop} (h : ∃ d env' st', StepOK P nt ops o d env.get st.get ∧ env'.get = ye o d env.get ∧ st'.get = yw d st.get ∧ LexP P nt ops rest env' st' (d :: acc) K) : LexP P nt ops (o :: rest) env st acc K :=
  let ⟨_, _, _, h1, h2, h3, h4⟩ := h
  .cons h1 h2 h3 h4
theorem zc8 : ∀ {l : List Oper} {env : EnvL} {st : StO} {acc : List SD} {K : EnvL → StO → List SD → Prop} {k : Nat}, (∀ j, l[j]? = ops[k + j]?) → acc.length = k → LexP P nt ops l env st acc K →
    ∃ env' st' accF, K env' st' accF ∧ (∃ more, accF = more ++ acc) ∧ accF.length = k + l.length ∧ Run P nt ops (fun i => accF.reverse.getD i default) (List.range' k l.length) env.get st.get env'.get st'.get
  | [], env, st, acc, K, k, hl, ha, .nil H => ⟨env, st, acc, H, ⟨[], rfl⟩, by simp [ha], by simpa using Run.nil _ _⟩
  | o :: l, env, st, acc, K, k, hl, ha, .cons (env' := env1) (st' := st1) (d := d) h1 h2 h3 h4 => by
    obtain ⟨env', st', accF, k1, ⟨more, k2⟩, k3, k4⟩ := zc8 (k := k + 1) (fun j => by have := hl (j + 1); simpa [Nat.add_assoc, Nat.add_comm 1 j] using this) (by simp [ha]) h4
    refine ⟨env', st', accF, k1, ⟨more ++ [d], by simp [k2]⟩, by simp [k3]; omega, ?_⟩
    have hd : accF.reverse.getD k default = d := by
      rw [k2]
      simp [List.getD_eq_getElem?_getD, ha]
    rw [List.length_cons, List.range'_succ]
    have ho : ops[k]? = some o := by simpa using (hl 0).symm
    refine Run.cons ho (by rw [hd]; exact h1) ?_
    rw [hd, ← h2, ← h3]
    exact k4
theorem zax {id : Nat} {l : List Oper} {env : EnvL} {st : StO} {Q : Exit → Env → zt → Prop} (H : LexP P nt l.toArray l env st [] (fun env' st' _ => Q .normal env'.get st'.get)) : CodeT P nt (.region id l.toArray false) env.get st.get Q := by
  obtain ⟨env', st', accF, k1, _, _, k4⟩ := zc8 (ops := l.toArray) (k := 0) (by simp) rfl H
  refine zbA (D := fun i => accF.reverse.getD i default) (env' := env'.get) (st' := st'.get) ?_ k1
  rw [← List.range_eq_range'] at k4
  simpa using k4
def zd2 (ms : List Nat) (o : Oper) : Nat := o.after.toList.foldl (fun s e => if Region.binds .any e then s ||| 2 ^ e.on ||| ms.getD e.on 0 else s) 0
def zgT : List Oper → List Nat → List Nat
  | [], ms => ms
  | o :: l, ms => zgT l (ms ++ [zd2 ms o])
theorem zc9 {ms : List Nat} {o : Oper} {i k : Nat} (ho : ops[i]? = some o) (hms : ∀ j k, (ms.getD j 0).testBit k = true → Anc ops k j) (h : (zd2 ms o).testBit k = true) : Anc ops k i := by
  unfold zd2 at h
  have key : ∀ (l : List Edge) (s : Nat), (∀ e ∈ l, e ∈ o.after) → (s.testBit k = true → Anc ops k i) → (l.foldl (fun s e => if Region.binds .any e then s ||| 2 ^ e.on ||| ms.getD e.on 0 else s) s).testBit k = true → Anc ops k i := by
    intro l
    induction l with
    | nil => intro s _ hs h; exact hs h
    | cons e l ih =>
      intro s hl hs h
      refine ih _ (fun e' he' => hl e' (by simp [he'])) ?_ h
      intro hb
      simp only at hb
      split at hb
      · rename_i hbind
        simp only [Nat.testBit_or, Bool.or_eq_true] at hb
        rcases hb with (hb | hb) | hb
        · exact hs hb
        · have : e.on = k := by
            rw [Nat.testBit_two_pow] at hb
            simpa using hb
          exact .edge ho (hl e (by simp)) hbind this
        · exact .step ho (hl e (by simp)) hbind (hms e.on k hb)
      · exact hs hb
  exact key o.after.toList 0 (fun e he => by simpa using he) (by simp) h
theorem jU : ∀ {l : List Oper} {ms : List Nat}, (∀ j, l[j]? = ops[ms.length + j]?) → (∀ j k, (ms.getD j 0).testBit k = true → Anc ops k j) → ∀ j k, ((zgT l ms).getD j 0).testBit k = true → Anc ops k j
  | [], ms, _, h => h
  | o :: l, ms, hl, h => by
    refine jU (l := l) (ms := ms ++ [zd2 ms o]) (fun j => ?_) fun j k hb => ?_
    · have := hl (j + 1)
      simpa [Nat.add_assoc, Nat.add_comm 1 j] using this
    · rw [List.getD_eq_getElem?_getD, List.getElem?_append] at hb
      split at hb
      · exact h j k (by rw [List.getD_eq_getElem?_getD]; exact hb)
      · rename_i hj
        rcases Nat.lt_or_ge (j - ms.length) 1 with h1 | h1
        · have e : j = ms.length := by omega
          subst e
          simp at hb
          exact zc9 (by simpa using (hl 0).symm) h hb
        · rw [List.getElem?_eq_none (by simpa using h1)] at hb
          simp at hb
def ziy (d : SD) (N : List Id) : Bool := d.r.clean N && d.R'.all fun x => !N.contains x.1 && x.2.clean N
def zim (a b : List Id) : Bool := a.all fun x => !b.contains x
def zdd (ops : Array Oper) (ok oi : Oper) (dk di : SD) : Bool := ok.apart ops oi && zim dk.W di.R.ids && zim di.W dk.R.ids && zim dk.N di.R.ids && zim dk.N di.N
theorem zbH {d : SD} {N : List Id} (h : ziy d N = true) : wv d N := by
  simp only [ziy, Bool.and_eq_true, List.all_eq_true, Bool.not_eq_true'] at h
  refine ⟨h.1, fun id row hr => ?_⟩
  have := h.2 _ (StL.get_mem hr)
  exact ⟨by simpa using this.1, this.2⟩
theorem vY {a b : List Id} (h : zim a b = true) : ∀ id, id ∈ a → id ∉ b := by
  simp only [zim, List.all_eq_true, Bool.not_eq_true'] at h
  exact fun id hid => by simpa using h id hid
theorem zbd {ok oi : Oper} {dk di : SD} (h : zdd ops ok oi dk di = true) : Compat ops ok oi dk di := by
  simp only [zdd, Bool.and_eq_true] at h
  exact ⟨h.1.1.1.1, vY h.1.1.1.2, vY h.1.1.2, vY h.1.2, vY h.2⟩
def zie (ops : Array Oper) (ms : List Nat) (xs : List (Nat × Oper × SD)) : Bool :=
  xs.all fun (i, oi, di) => xs.all fun (k, ok, dk) =>
    if k < i then (ms.getD i 0).testBit k || (zdd ops ok oi dk di && ziy di dk.N && ziy dk di.N)
    else true
def zhK (xs : List (Nat × Oper × SD)) : Bool :=
  xs.all fun (i, oi, di) => xs.all fun (k, ok, dk) => if k < i then ziy dk di.N else true
def zhC (xs : List (Nat × Oper × SD)) : Bool := xs.all fun (i, oi, di) => oi.after.toList.all fun e => !Region.binds .any e || decide (e.on < i)
def zik : Nat → List Oper → List SD → List (Nat × Oper × SD)
  | k, o :: l, d :: ds => (k, o, d) :: zik (k + 1) l ds
  | _, _, _ => []
theorem zdW : ∀ {l : List Oper} {ds : List SD} {k j : Nat} {o : Oper}, l.length = ds.length → l[j]? = some o → (k + j, o, ds.getD j default) ∈ zik k l ds
  | [], _, _, _, _, _, h => by simp at h
  | o :: l, [], _, _, _, hl, _ => by simp at hl
  | o :: l, d :: ds, k, 0, o', hl, h => by simp at h; subst h; simp [zik]
  | o :: l, d :: ds, k, j + 1, o', hl, h => by
    have := zdW (l := l) (ds := ds) (k := k + 1) (j := j) (by simpa using hl) (by simpa using h)
    simp only [zik, List.mem_cons]
    right
    rw [show k + (j + 1) = k + 1 + j from by omega]
    simpa [List.getD_eq_getElem?_getD] using this
def zan (l : List Oper) (ds : List SD) (env : EnvL) (st : StO) : Bool :=
  let xs := zik 0 l ds
  zhC xs && zhK xs && zie l.toArray (zgT l []) xs && ds.all fun d => yv d.N env st
theorem qe {id : Nat} {l : List Oper} {env : EnvL} {st : StO} {Q : Exit → Env → zt → Prop} (hm : P.follows .mixedOrders = true) (H : LexP P nt l.toArray l env st [] (fun env' st' acc => zan l acc.reverse env st = true ∧ Q .normal env'.get st'.get)) : CodeT P nt (.region id l.toArray true) env.get st.get Q := by
  obtain ⟨env', st', accF, ⟨c, k1⟩, _, k3, k4⟩ := zc8 (ops := l.toArray) (k := 0) (by simp) rfl H
  have hlen : l.length = accF.reverse.length := by simp [k3]
  have get : ∀ i o, l.toArray[i]? = some o → (i, o, accF.reverse.getD i default) ∈ zik 0 l accF.reverse := fun i o ho => by
    have := zdW (k := 0) (j := i) hlen (by simpa using ho)
    simpa using this
  simp only [zan, Bool.and_eq_true] at c
  obtain ⟨⟨⟨c1, c2⟩, c3⟩, c4⟩ := c
  have hmask : ∀ j k, ((zgT l []).getD j 0).testBit k = true → Anc l.toArray k j := jU (ops := l.toArray) (l := l) (ms := []) (by simp) (by simp)
  have pair : ∀ k i ok oi, l.toArray[k]? = some ok → l.toArray[i]? = some oi → k < i → Anc l.toArray k i ∨ (Compat l.toArray ok oi (accF.reverse.getD k default) (accF.reverse.getD i default) ∧ wv (accF.reverse.getD i default) (accF.reverse.getD k default).N) := fun k i ok oi hk hi hlt => by
    have := List.all_eq_true.1 (List.all_eq_true.1 c3 _ (get i oi hi)) _ (get k ok hk)
    simp only [hlt, if_true, Bool.or_eq_true, Bool.and_eq_true] at this
    rcases this with h | ⟨⟨h1, h2⟩, h3⟩
    · exact .inl (hmask i k h)
    · exact .inr ⟨zbd h1, zbH h2⟩
  refine qv (D := fun i => accF.reverse.getD i default) (env' := env'.get) (st' := st'.get) hm ⟨?_, ?_, ?_⟩ ?_ ?_ k1
  · intro i o ho e he hb
    have := List.all_eq_true.1 (List.all_eq_true.1 c1 _ (get i o ho)) e (by simpa using he)
    simpa [hb] using this
  · intro i j oi oj hi hj hne
    rcases Nat.lt_or_ge j i with h | h
    · rcases pair j i oj oi hj hi h with h1 | ⟨_, h2⟩
      · exact .inl h1
      · exact .inr h2
    · have hlt : i < j := by omega
      have := List.all_eq_true.1 (List.all_eq_true.1 c2 _ (get j oj hj)) _ (get i oi hi)
      simp only [hlt, if_true] at this
      exact .inr (zbH this)
  · intro k i ok oi hk hi hlt
    rcases pair k i ok oi hk hi hlt with h1 | ⟨h2, _⟩
    · exact .inl h1
    · exact .inr h2
  · intro j hj
    have hj' : j < l.length := by simpa using hj
    have := List.all_eq_true.1 c4 (accF.reverse.getD j default) (by
      rw [List.getD_eq_getElem?_getD, List.getElem?_eq_getElem (by omega)]
      exact List.getElem_mem _)
    exact yE this
  · rw [← List.range_eq_range'] at k4
    simpa using k4
theorem xG (d : Nat) (r : AV) (env : EnvL) : EnvL.get ((d, r) :: env) = vL env.get (some d) r := by
  funext t
  simp only [EnvL.get, vL, Option.some.injEq]
def zcK (R R' : StL) (N : List Id) (st : StO) : StO := R'.map (fun x => (x.1, some x.2)) ++ R.map (fun x => (x.1, none)) ++ N.map (fun i => (i, none)) ++ st
theorem StO.get_nones : ∀ {l : List Id} {b : StO} {id : Id}, StO.get (l.map (fun i => (i, (none : Option Row))) ++ b) id = if id ∈ l then none else StO.get b id
  | [], b, id => by simp
  | i :: l, b, id => by
    simp only [List.map_cons, List.cons_append, StO.get, List.mem_cons]
    by_cases e : i = id
    · simp [e]
    · rw [if_neg e, StO.get_nones]
      have : ¬ id = i := fun h => e h.symm
      simp [this]
theorem StO.get_somes : ∀ {l : StL} {b : StO} {id : Id}, StO.get (l.map (fun x => (x.1, some x.2)) ++ b) id = match StL.get l id with | some r => some r | none => StO.get b id
  | [], b, id => by simp [StL.get]
  | (i, r) :: l, b, id => by
    simp only [List.map_cons, List.cons_append, StO.get, StL.get]
    by_cases e : i = id
    · simp [e]
    · rw [if_neg e, if_neg e, StO.get_somes]
theorem kU (R R' : StL) (N : List Id) (st : StO) : StO.get (zcK R R' N st) = xD st.get R R' N := by
  funext id
  unfold zcK xD
  rw [List.append_assoc, List.append_assoc, StO.get_somes]
  cases StL.get R' id with
  | some r => rfl
  | none =>
    simp only
    have e : R.map (fun x => (x.1, (none : Option Row))) = R.ids.map (fun i => (i, none)) := by simp [StL.ids]
    rw [e, StO.get_nones, StO.get_nones]
    by_cases h1 : id ∈ R.ids <;> by_cases h2 : id ∈ N <;> simp [h1, h2]
variable {o : Oper} {rest : List Oper} {env : EnvL} {st : StO} {acc : List SD} {K : EnvL → StO → List SD → Prop}
theorem zhN {R R' : StL} {N W : List Id} {r : AV} {d : Nat} (hT : OpT P o (zm env.get) (StL.get R) r (StL.get R') N) (hd : o.dst = some d) (hn : d < nt) (hw : wS ops o env.get) (hsub : ∀ x ∈ R, StO.get st x.1 = some x.2) (hdom : ∀ id ∈ R'.ids, id ∈ R.ids ∨ id ∈ N) (hsame : ∀ id ∈ R.ids, id ∉ W → StL.get R' id = StL.get R id) (hloc : ∀ id ∈ N, id.isLoc = true) (hfr : yv N env st = true)
    (H : LexP P nt ops rest ((d, r) :: env) (zcK R R' N st) (⟨true, R, r, R', W, N⟩ :: acc) K) : LexP P nt ops (o :: rest) env st acc K :=
  LexP.ex ⟨⟨true, R, r, R', W, N⟩, _, _, ⟨(fun t ht => by rw [hd] at ht; cases ht; exact hn), fun _ => ⟨hw, hT⟩, (fun h => by cases h), fun id row hr => hsub _ (StL.get_mem hr), ⟨hdom, hsame, hloc⟩, yE hfr⟩, (by rw [xG]; unfold ye; rw [hd]), (by rw [kU]; rfl), H⟩
theorem zg6 {r : AV} {d : Nat} (hT : OpT P o (zm env.get) (StL.get []) r (StL.get []) []) (hd : o.dst = some d) (hn : d < nt) (hw : wS ops o env.get)
    (H : LexP P nt ops rest ((d, r) :: env) st (⟨true, [], r, [], [], []⟩ :: acc) K) : LexP P nt ops (o :: rest) env st acc K :=
  LexP.ex ⟨⟨true, [], r, [], [], []⟩, _, _, ⟨(fun t ht => by rw [hd] at ht; cases ht; exact hn), fun _ => ⟨hw, hT⟩, (fun h => by cases h), (fun id row hr => by simp [StL.get] at hr), ⟨(fun id h => by simp [StL.ids] at h), (fun id h => by simp [StL.ids] at h), (fun id h => by simp at h)⟩, vj _ _⟩, (by rw [xG]; unfold ye; rw [hd]), (by unfold yw; exact (jr _).symm), H⟩
theorem zeG {st : zt} {id : Id} {row : Row} (h : st id = some row) : xD st [(id, row)] [(id, row)] [] = st := by
  funext x
  simp only [xD, StL.get]
  by_cases e : id = x
  · subst e; simp [h]
  · have : ¬ x = id := fun h => e h.symm
    simp [e, StL.ids, this]
theorem zg9 {id : Id} {row : Row} {r : AV} {d : Nat} (hst : StO.get st id = some row) (hT : OpT P o (zm env.get) (StL.get [(id, row)]) r (StL.get [(id, row)]) []) (hd : o.dst = some d) (hn : d < nt) (hw : wS ops o env.get)
    (H : LexP P nt ops rest ((d, r) :: env) st (⟨true, [(id, row)], r, [(id, row)], [], []⟩ :: acc) K) : LexP P nt ops (o :: rest) env st acc K :=
  LexP.ex ⟨⟨true, [(id, row)], r, [(id, row)], [], []⟩, _, _, ⟨(fun t ht => by rw [hd] at ht; cases ht; exact hn), fun _ => ⟨hw, hT⟩, (fun h => by cases h), (fun x row' hr => by
      simp only [StL.get] at hr
      split at hr
      · rename_i e; cases hr; rw [← e]; exact hst
      · cases hr), ⟨fun id h => .inl h, fun id _ _ => rfl, fun id h => by simp at h⟩, vj _ _⟩, (by rw [xG]; unfold ye; rw [hd]), (by unfold yw; exact (zeG hst).symm), H⟩
theorem zh7 {id : Id} {row : Row} {r : AV} {d : Nat} (hT : OpT P o (zm env.get) (StL.get []) r (StL.get [(id, row)]) [id]) (hd : o.dst = some d) (hn : d < nt) (hw : wS ops o env.get) (hloc : id.isLoc = true) (hfr : yv [id] env st = true)
    (H : LexP P nt ops rest ((d, r) :: env) ((id, some row) :: st) (⟨true, [], r, [(id, row)], [], [id]⟩ :: acc) K) : LexP P nt ops (o :: rest) env st acc K :=
  LexP.ex ⟨⟨true, [], r, [(id, row)], [], [id]⟩, _, _, ⟨(fun t ht => by rw [hd] at ht; cases ht; exact hn), fun _ => ⟨hw, hT⟩, (fun h => by cases h), (fun x row' hr => by simp [StL.get] at hr), ⟨(fun x h => by simp [StL.ids] at h; exact .inr (by simp [h])), (fun x h => by simp [StL.ids] at h), (fun x h => by simp at h; rw [h]; exact hloc)⟩, yE hfr⟩, (by rw [xG]; unfold ye; rw [hd]), (by
      unfold yw
      funext x
      simp only [StO.get, xD, StL.get]
      by_cases e : id = x
      · simp [e]
      · have : ¬ x = id := fun h => e h.symm
        simp [e, this, StL.ids]), H⟩
theorem zgo {id : Id} {row row' : Row} {r : AV} (hst : StO.get st id = some row) (hT : OpT P o (zm env.get) (StL.get [(id, row)]) r (StL.get [(id, row')]) []) (hd : o.dst = none) (hw : wS ops o env.get)
    (H : LexP P nt ops rest env ((id, some row') :: st) (⟨true, [(id, row)], r, [(id, row')], [id], []⟩ :: acc) K) : LexP P nt ops (o :: rest) env st acc K :=
  LexP.ex ⟨⟨true, [(id, row)], r, [(id, row')], [id], []⟩, _, _, ⟨(fun t ht => by rw [hd] at ht; cases ht), fun _ => ⟨hw, hT⟩, (fun h => by cases h), (fun x row1 hr => by
      simp only [StL.get] at hr
      split at hr
      · rename_i e; cases hr; rw [← e]; exact hst
      · cases hr), ⟨(fun id h => .inl (by simpa [StL.ids] using h)), (fun x h h' => by simp [StL.ids] at h; subst h; simp at h'), (fun id h => by simp at h)⟩, vj _ _⟩, (by unfold ye vL; rw [hd]; funext t; simp), (by
      unfold yw
      funext x
      simp only [StO.get, xD, StL.get]
      by_cases e : id = x
      · simp [e]
      · have : ¬ x = id := fun h => e h.symm
        simp [e, this, StL.ids]), H⟩
end
section
variable {P : Program} {fn : Func} {env : EnvL} {st : StO}
theorem yl {t : Nat} {x : AV} (hr : fn.results = #[.tmp t]) (hx : AVLE (env.get t) x) : zdw P fn env.get st.get x := fun nt h m a w c =>
  ⟨a.tmps.getD t undef, by simp [results, hr], hx h m _ (c.env t)⟩
theorem jp (hr : fn.results = #[]) : zdw P fn env.get st.get (.tup []) := fun nt h m a w c =>
  ⟨.tuple #[], by simp [results, hr], #[], rfl, rfl, by simp [RepAs]⟩
theorem kF {t u : Nat} {x y : AV} (hr : fn.results = #[.tmp t, .tmp u]) (hx : AVLE (env.get t) x) (hy : AVLE (env.get u) y) : zdw P fn env.get st.get (.tup [x, y]) := fun nt h m a w c =>
  ⟨.tuple #[a.tmps.getD t undef, a.tmps.getD u undef], by simp [results, hr], #[a.tmps.getD t undef, a.tmps.getD u undef], rfl, rfl, by
    simp only [RepAs, and_true]
    exact ⟨⟨_, rfl, hx h m _ (c.env t)⟩, ⟨_, rfl, hy h m _ (c.env u)⟩⟩⟩
theorem kA {t : Nat} {ty : TypeId} {id : Id} {vty : TypeId} {cs : List AV} {d : TypeDesc} {size bytes : Nat} {z : Value} {nt : Nat} {h : Heap} {m : zI} {a : Act} {w : World} (c : Conc nt h m env.get st.get a w) (ht : env.get t = .ref id 0 0 0) (hst : StO.get st id = some (.var vty cs)) (tu : TyU P ty d) (hd : yz d = true) (ti : TyI P ty size bytes z) (hl : cs.length = size) :
    ∃ v ad, a.tmps[t]?.getD undef = .pointer (some ad) ∧ (loadVar ty ad).run P w = .ok v w ∧ RepA h m v (qp cs) := by
  have h1 := c.env t
  rw [ht] at h1
  obtain ⟨b, hb, e⟩ := h1
  obtain ⟨b', arr, e1, e2, e3, e4⟩ := c.sim.rows id _ hst
  rw [e1] at hb
  simp [blk] at hb
  subst hb
  obtain ⟨vs, k1, k2, k3⟩ := wG e4
  refine ⟨.agg vs.toArray, ⟨b', 0, none⟩, by simpa using e, ?_, ve (by simpa using k1) (by simpa using k3)⟩
  exact xb (P := P) tu hd ti (a := ⟨b', 0, none⟩) (w := w) (by rw [k1, hl]) (fun j v hv => by rw [yS, yn e2]; simpa using k2 j v hv)
theorem xL {t : Nat} {ty : TypeId} {id : Id} {vty : TypeId} {cs : List AV} {d : TypeDesc} {size bytes : Nat} {z : Value} {x : AV} (hr : fn.results = #[.cell t ty]) (ht : env.get t = .ref id 0 0 0) (hst : StO.get st id = some (.var vty cs)) (tu : TyU P ty d) (hd : yz d = true) (ti : TyI P ty size bytes z) (hl : cs.length = size) (hx : AVLE (qp cs) x) : zdw P fn env.get st.get x := fun nt h m a w c => by
  obtain ⟨v, ad, k0, k1, k2⟩ := kA (P := P) c ht hst tu hd ti hl
  exact ⟨v, by simp [results, hr, k0, asAddr, k1], hx h m v k2⟩
theorem zL {t u : Nat} {ty : TypeId} {id : Id} {vty : TypeId} {cs : List AV} {d : TypeDesc} {size bytes : Nat} {z : Value} {x y : AV} (hr : fn.results = #[.cell t ty, .tmp u]) (ht : env.get t = .ref id 0 0 0) (hst : StO.get st id = some (.var vty cs)) (tu : TyU P ty d) (hd : yz d = true) (ti : TyI P ty size bytes z) (hl : cs.length = size) (hx : AVLE (qp cs) x) (hy : AVLE (env.get u) y) : zdw P fn env.get st.get (.tup [x, y]) := fun nt h m a w c => by
  obtain ⟨v, ad, k0, k1, k2⟩ := kA (P := P) c ht hst tu hd ti hl
  refine ⟨.tuple #[v, a.tmps.getD u undef], by simp [results, hr, k0, asAddr, k1], #[v, a.tmps.getD u undef], rfl, rfl, ?_⟩
  simp only [RepAs, and_true]
  exact ⟨⟨_, rfl, hx h m v k2⟩, ⟨_, rfl, hy h m _ (c.env u)⟩⟩
end
end Go.AL
set_option linter.unusedSimpArgs false
namespace Go.AL
open Go Go.RowKit
def zl (ops : Array Oper) (o : Oper) (env : EnvL) : Bool :=
  match o.guard with
  | none => true
  | some (j, want) => match xf ops j with
    | some t => match env.get t with
      | .t (.bool b) => b == want
      | _ => false
    | none => false
theorem yc {ops : Array Oper} {o : Oper} {env : EnvL} (h : zl ops o env = true) : wS ops o env.get := by
  unfold zl at h
  unfold wS
  cases hg : o.guard with
  | none => trivial
  | some x =>
    obtain ⟨j, want⟩ := x
    rw [hg] at h
    simp only at h ⊢
    split at h
    · rename_i t ht
      split at h
      · rename_i b he
        exact ⟨t, ht, by rw [he]; simp at h; rw [h]⟩
      · cases h
    · cases h
def zcV (ops : Array Oper) (o : Oper) (env : EnvL) : Bool :=
  match o.guard with
  | none => false
  | some (j, want) => match xf ops j with
    | some t => match env.get t with
      | .t (.bool b) => b == !want
      | .tup [] => true
      | _ => false
    | none => false
theorem zbG {ops : Array Oper} {o : Oper} {env : EnvL} (h : zcV ops o env = true) : zau ops o env.get := by
  unfold zcV at h
  unfold zau
  cases hg : o.guard with
  | none => rw [hg] at h; cases h
  | some x =>
    obtain ⟨j, want⟩ := x
    rw [hg] at h
    simp only at h
    split at h
    · rename_i t ht
      split at h
      · rename_i b he
        exact ⟨j, want, t, rfl, ht, .inl (by rw [he]; simp at h; rw [h])⟩
      · rename_i he
        exact ⟨j, want, t, rfl, ht, .inr he⟩
      · cases h
    · cases h
def fieldAt : List Field → Nat → Option (TypeId × Nat)
  | [], _ => none
  | { type := t, offset := o, .. } :: _, 0 => some (t, o)
  | _ :: l, k + 1 => fieldAt l k
theorem q9 {ft : TypeId} {foff : Nat} : ∀ {l : List Field} {k : Nat}, fieldAt l k = some (ft, foff) → ∃ fd, l[k]? = some fd ∧ fd.type = ft ∧ fd.offset = foff
  | [], _, h => by simp [fieldAt] at h
  | f :: _, 0, h => by
    simp only [fieldAt, Option.some.injEq, Prod.mk.injEq] at h
    exact ⟨f, rfl, h.1, h.2⟩
  | _ :: l, k + 1, h => by
    obtain ⟨fd, h1, h2⟩ := q9 (l := l) (k := k) h
    exact ⟨fd, by simpa using h1, h2⟩
section
variable {P : Program} {nt : Nat} {ops : Array Oper} {o : Oper} {rest : List Oper} {env : EnvL} {st : StO} {acc : List SD} {K : EnvL → StO → List SD → Prop} {d : Nat}
theorem zho (hg : zcV ops o env = true) (hd : o.dst = some d) (hn : (decide (d < nt)) = true) (H : LexP P nt ops rest ((d, .tup []) :: env) st (⟨false, [], .tup [], [], [], []⟩ :: acc) K) : LexP P nt ops (o :: rest) env st acc K :=
  LexP.ex ⟨⟨false, [], .tup [], [], [], []⟩, _, _, ⟨(fun t' ht' => by rw [hd] at ht'; cases ht'; exact of_decide_eq_true hn), (fun h => by cases h), fun _ => ⟨zbG hg, rfl, rfl, rfl, rfl⟩, (fun id row hr => by simp [StL.get] at hr), ⟨(fun id h => by simp [StL.ids] at h), (fun id h => by simp [StL.ids] at h), (fun id h => by simp at h)⟩, vj _ _⟩, (by rw [xG]; unfold ye; rw [hd]), (by unfold yw; exact (jr _).symm), H⟩
theorem x9 {t : Nat} {b c : Bool} (he : env.get t = .t (.bool b)) (e : b = c) : EnvL.get ((t, .t (.bool c)) :: env) = env.get := by
  funext x
  simp only [EnvL.get]
  split
  · rename_i h; subst h; rw [he, e]
  · rfl
theorem qw {l : List Oper} {env1 env2 : EnvL} (e : env1.get = env2.get) (H : LexP P nt ops l env1 st acc K) (hl : l ≠ []) : LexP P nt ops l env2 st acc K := by
  cases l with
  | nil => exact absurd rfl hl
  | cons o l =>
    cases H with
    | cons h1 h2 h3 h4 => exact .cons (by rw [← e]; exact h1) (by rw [← e]; exact h2) h3 h4
def vi (ops : Array Oper) (o : Oper) (env : EnvL) : Option (Nat × Bool) :=
  match o.guard with
  | none => none
  | some (j, _) => match xf ops j with
    | some t => match env.get t with
      | .t (.bool b) => some (t, b)
      | _ => none
    | none => none
theorem yH {t : Nat} {b : Bool} (h : vi ops o env = some (t, b)) : env.get t = .t (.bool b) := by
  unfold vi at h
  split at h
  · cases h
  · split at h
    · split at h
      · rename_i he; cases h; exact he
      · cases h
    · cases h
theorem yi {t : Nat} {p : Prop} [Decidable p] (hg : vi ops o env = some (t, decide p)) (H1 : p → LexP P nt ops (o :: rest) ((t, .t (.bool true)) :: env) st acc K) (H2 : ¬ p → LexP P nt ops (o :: rest) ((t, .t (.bool false)) :: env) st acc K) : LexP P nt ops (o :: rest) env st acc K := by
  by_cases hp : p
  · exact qw (x9 (yH hg) (by simp [hp])) (H1 hp) (by simp)
  · exact qw (x9 (yH hg) (by simp [hp])) (H2 hp) (by simp)
theorem kR {t : Nat} {p : Prop} [Decidable p] (hg : vi ops o env = some (t, !decide p)) (H1 : p → LexP P nt ops (o :: rest) ((t, .t (.bool false)) :: env) st acc K) (H2 : ¬ p → LexP P nt ops (o :: rest) ((t, .t (.bool true)) :: env) st acc K) : LexP P nt ops (o :: rest) env st acc K := by
  by_cases hp : p
  · exact qw (x9 (yH hg) (by simp [hp])) (H1 hp) (by simp)
  · exact qw (x9 (yH hg) (by simp [hp])) (H2 hp) (by simp)
theorem vZ {t : Nat} {b : Bool} (hg : vi ops o env = some (t, b)) (H1 : b = true → LexP P nt ops (o :: rest) ((t, .t (.bool true)) :: env) st acc K) (H2 : b = false → LexP P nt ops (o :: rest) ((t, .t (.bool false)) :: env) st acc K) : LexP P nt ops (o :: rest) env st acc K := by
  cases hb : b with
  | true => exact qw (x9 (yH hg) hb) (H1 hb) (by simp)
  | false => exact qw (x9 (yH hg) hb) (H2 hb) (by simp)
theorem zH {r : AV} (hT : OpT P o (zm env.get) (StL.get []) r (StL.get []) []) (hd : o.dst = some d) (hn : (decide (d < nt)) = true) (hg : zl ops o env = true) (H : LexP P nt ops rest ((d, r) :: env) st (⟨true, [], r, [], [], []⟩ :: acc) K) : LexP P nt ops (o :: rest) env st acc K :=
  zg6 hT hd (of_decide_eq_true hn) (yc hg) H
theorem xA {id : Id} {row : Row} {r : AV} (hst : StO.get st id = some row) (hT : OpT P o (zm env.get) (StL.get [(id, row)]) r (StL.get [(id, row)]) []) (hd : o.dst = some d) (hn : (decide (d < nt)) = true) (hg : zl ops o env = true)
    (H : LexP P nt ops rest ((d, r) :: env) st (⟨true, [(id, row)], r, [(id, row)], [], []⟩ :: acc) K) : LexP P nt ops (o :: rest) env st acc K :=
  zg9 hst hT hd (of_decide_eq_true hn) (yc hg) H
theorem qP {id : Id} {row : Row} {r : AV} (hT : OpT P o (zm env.get) (StL.get []) r (StL.get [(id, row)]) [id]) (hd : o.dst = some d) (hn : (decide (d < nt)) = true) (hg : zl ops o env = true) (hloc : id.isLoc = true) (hfr : yv [id] env st = true)
    (H : LexP P nt ops rest ((d, r) :: env) ((id, some row) :: st) (⟨true, [], r, [(id, row)], [], [id]⟩ :: acc) K) : LexP P nt ops (o :: rest) env st acc K :=
  zh7 hT hd (of_decide_eq_true hn) (yc hg) hloc hfr H
theorem kC {id : Id} {row row' : Row} {r : AV} (hst : StO.get st id = some row) (hT : OpT P o (zm env.get) (StL.get [(id, row)]) r (StL.get [(id, row')]) []) (hd : o.dst = none) (hg : zl ops o env = true)
    (H : LexP P nt ops rest env ((id, some row') :: st) (⟨true, [(id, row)], r, [(id, row')], [id], []⟩ :: acc) K) : LexP P nt ops (o :: rest) env st acc K :=
  zgo hst hT hd (yc hg) H
theorem zaj {x : Operand} {r : AV} (ho : o.op = .move x) (hr : zm env.get x = r) (hd : o.dst = some d) (hn : (decide (d < nt)) = true) (hg : zl ops o env = true) (H : LexP P nt ops rest ((d, r) :: env) st (⟨true, [], r, [], [], []⟩ :: acc) K) : LexP P nt ops (o :: rest) env st acc K :=
  zH (by rw [← hr]; exact zha ho) hd hn hg H
theorem qm {x : Operand} {r : AV} (ho : o.op = .assign x) (hr : zm env.get x = r) (hd : o.dst = some d) (hn : (decide (d < nt)) = true) (hg : zl ops o env = true) (H : LexP P nt ops rest ((d, r) :: env) st (⟨true, [], r, [], [], []⟩ :: acc) K) : LexP P nt ops (o :: rest) env st acc K :=
  zH (by rw [← hr]; exact ze3 ho) hd hn hg H
theorem zgW {c x y : Operand} {r : AV} (ho : o.op = .pick c x y) (hc : zm env.get c = .t (.bool true)) (hr : zm env.get x = r) (hd : o.dst = some d) (hn : (decide (d < nt)) = true) (hg : zl ops o env = true) (H : LexP P nt ops rest ((d, r) :: env) st (⟨true, [], r, [], [], []⟩ :: acc) K) : LexP P nt ops (o :: rest) env st acc K :=
  zH (by rw [← hr]; exact zdG (b := true) ho hc) hd hn hg H
theorem zg1 {c x y : Operand} {r : AV} (ho : o.op = .pick c x y) (hc : zm env.get c = .t (.bool false)) (hr : zm env.get y = r) (hd : o.dst = some d) (hn : (decide (d < nt)) = true) (hg : zl ops o env = true) (H : LexP P nt ops rest ((d, r) :: env) st (⟨true, [], r, [], [], []⟩ :: acc) K) : LexP P nt ops (o :: rest) env st acc K :=
  zH (by rw [← hr]; exact zdG (b := false) ho hc) hd hn hg H
theorem ziI {ty : TypeId} {x : Operand} {r : AV} {cs : List AV} (ho : o.op = .box ty x) (hr : zm env.get x = r) (hb : r.boxable = true) (hcs : r.cells = cs) (hd : o.dst = some d) (hn : (decide (d < nt)) = true) (hg : zl ops o env = true) (hc : AV.cleanL [.loc d] cs = true) (hfr : yv [.loc d] env st = true)
    (H : LexP P nt ops rest ((d, .ref (.loc d) 0 0 0) :: env) ((.loc d, some (.var ty cs)) :: st) (⟨true, [], .ref (.loc d) 0 0 0, [(.loc d, .var ty cs)], [], [.loc d]⟩ :: acc) K) : LexP P nt ops (o :: rest) env st acc K := by
  subst hr; subst hcs
  exact qP (zhP (.loc d) ho hb hc) hd hn hg rfl hfr H
theorem zgB {ty : TypeId} {size bytes : Nat} {z : Value} {cs : List AV} (ho : o.op = .alloc ty) [ti : TyI P ty size bytes z] (h1 : z.cells.toList.all Value.oneCell' = true) (hcs : z.cells.toList.map xB = cs) (hd : o.dst = some d) (hn : (decide (d < nt)) = true) (hg : zl ops o env = true) (hfr : yv [.loc d] env st = true)
    (H : LexP P nt ops rest ((d, .ref (.loc d) 0 0 0) :: env) ((.loc d, some (.var ty cs)) :: st) (⟨true, [], .ref (.loc d) 0 0 0, [(.loc d, .var ty cs)], [], [.loc d]⟩ :: acc) K) : LexP P nt ops (o :: rest) env st acc K := by
  subst hcs
  exact qP (zgl (.loc d) ho ti (List.all_eq_true.1 h1)) hd hn hg rfl hfr H
theorem zc4 {ty : TypeId} {p : Operand} {id : Id} {i sz off : Nat} {vty : TypeId} {cs : List AV} {dd : TypeDesc} {x : AV} (ho : o.op = .load ty p) (hp : zm env.get p = .ref id i sz off) [tu : TyU P ty dd] (ha : yz dd = false) (hst : StO.get st id = some (.var vty cs)) (hx : cs[i * sz + off]? = some x) (hd : o.dst = some d) (hn : (decide (d < nt)) = true) (hg : zl ops o env = true)
    (H : LexP P nt ops rest ((d, x) :: env) st (⟨true, [(id, .var vty cs)], x, [(id, .var vty cs)], [], []⟩ :: acc) K) : LexP P nt ops (o :: rest) env st acc K :=
  xA hst (zbf ho hp tu ha hx) hd hn hg H
theorem qO {ty : TypeId} {p : Operand} {id : Id} {i sz off : Nat} {vty : TypeId} {cs : List AV} {dd : TypeDesc} {size bytes : Nat} {z : Value} {r : AV} (ho : o.op = .load ty p) (hp : zm env.get p = .ref id i sz off) [tu : TyU P ty dd] (ha : yz dd = true) [ti : TyI P ty size bytes z] (hst : StO.get st id = some (.var vty cs)) (hl : (decide (i * sz + off + size ≤ cs.length)) = true) (hr : qp ((cs.drop (i * sz + off)).take size) = r) (hd : o.dst = some d) (hn : (decide (d < nt)) = true) (hg : zl ops o env = true)
    (H : LexP P nt ops rest ((d, r) :: env) st (⟨true, [(id, .var vty cs)], r, [(id, .var vty cs)], [], []⟩ :: acc) K) : LexP P nt ops (o :: rest) env st acc K := by
  subst hr
  exact xA hst (zaE ho hp tu ha ti (of_decide_eq_true hl)) hd hn hg H
theorem zeK {ty : TypeId} {p : Operand} {e x : T} {off : Nat} {dd : TypeDesc} (ho : o.op = .load ty p) (hp : zm env.get p = .tp e off) [tu : TyU P ty dd] (ha : yz dd = false) (hx : e.cells[off]? = some x) (hd : o.dst = some d) (hn : (decide (d < nt)) = true) (hg : zl ops o env = true)
    (H : LexP P nt ops rest ((d, .t x) :: env) st (⟨true, [], .t x, [], [], []⟩ :: acc) K) : LexP P nt ops (o :: rest) env st acc K :=
  zH (zdn ho hp tu ha hx) hd hn hg H
theorem zc0 {ty : TypeId} {p : Operand} {e : T} {dd : TypeDesc} {size bytes : Nat} {z : Value} (ho : o.op = .load ty p) (hp : zm env.get p = .tp e 0) [tu : TyU P ty dd] (ha : yz dd = true) [ti : TyI P ty size bytes z] (hd : o.dst = some d) (hn : (decide (d < nt)) = true) (hg : zl ops o env = true) (hl : e.cells.length = size) (hagg : e.isAgg = true)
    (H : LexP P nt ops rest ((d, .t e) :: env) st (⟨true, [], .t e, [], [], []⟩ :: acc) K) : LexP P nt ops (o :: rest) env st acc K :=
  zH (zb9 ho hp tu ha ti hl hagg) hd hn hg H
theorem zc6 {ty : TypeId} {p : Operand} {id : Id} {i sz off : Nat} {e : TypeId} {es : List T} {dd : TypeDesc} {x y : T} (ho : o.op = .load ty p) (hp : zm env.get p = .ref id i sz off) [tu : TyU P ty dd] (ha : yz dd = false) (hst : StO.get st id = some (.slt e sz es)) (hd : o.dst = some d) (hn : (decide (d < nt)) = true) (hg : zl ops o env = true) (hx : es[i]? = some x) (hy : x.cells[off]? = some y)
    (H : LexP P nt ops rest ((d, .t y) :: env) st (⟨true, [(id, .slt e sz es)], .t y, [(id, .slt e sz es)], [], []⟩ :: acc) K) : LexP P nt ops (o :: rest) env st acc K :=
  xA hst (q8 ho hp (.inl ⟨e, rfl⟩) tu ha hx hy) hd hn hg H
theorem zdt {ty : TypeId} {p : Operand} {id : Id} {i sz off : Nat} {aty : TypeId} {es : List T} {dd : TypeDesc} {x y : T} (ho : o.op = .load ty p) (hp : zm env.get p = .ref id i sz off) [tu : TyU P ty dd] (ha : yz dd = false) (hst : StO.get st id = some (.arr aty sz es)) (hd : o.dst = some d) (hn : (decide (d < nt)) = true) (hg : zl ops o env = true) (hx : es[i]? = some x) (hy : x.cells[off]? = some y)
    (H : LexP P nt ops rest ((d, .t y) :: env) st (⟨true, [(id, .arr aty sz es)], .t y, [(id, .arr aty sz es)], [], []⟩ :: acc) K) : LexP P nt ops (o :: rest) env st acc K :=
  xA hst (q8 ho hp (.inr ⟨aty, rfl⟩) tu ha hx hy) hd hn hg H
theorem xt {ty : TypeId} {p x : Operand} {id : Id} {i sz off : Nat} {vty : TypeId} {cs cs' : List AV} {r : AV} {size bytes : Nat} {z : Value} (ho : o.op = .store ty p x) (hp : zm env.get p = .ref id i sz off) [ti : TyI P ty size bytes z] (hr : zm env.get x = r) (hb : r.boxable = true) (hx : (decide (r.cells.length = size)) = true) (hst : StO.get st id = some (.var vty cs)) (hl : (decide (i * sz + off + size ≤ cs.length)) = true) (hcs : yb cs (i * sz + off) r.cells = cs') (hd : o.dst = none) (hg : zl ops o env = true)
    (H : LexP P nt ops rest env ((id, some (.var vty cs')) :: st) (⟨true, [(id, .var vty cs)], .junk, [(id, .var vty cs')], [id], []⟩ :: acc) K) : LexP P nt ops (o :: rest) env st acc K := by
  subst hr; subst hcs
  exact kC hst (zaY ho hp ti hb (of_decide_eq_true hx) (of_decide_eq_true hl)) hd hg H
theorem yP {ty : TypeId} {p x : Operand} {id : Id} {i sz : Nat} {e : TypeId} {es : List T} {y : T} {bytes : Nat} {z : Value} (ho : o.op = .store ty p x) (hp : zm env.get p = .ref id i sz 0) (hx : zm env.get x = .t y) [ti : TyI P ty sz bytes z] (hst : StO.get st id = some (.slt e sz es)) (hd : o.dst = none) (hg : zl ops o env = true) (hy : y.cells.length = sz) (hi : i < es.length)
    (H : LexP P nt ops rest env ((id, some (.slt e sz (es.set i y))) :: st) (⟨true, [(id, .slt e sz es)], .junk, [(id, .slt e sz (es.set i y))], [id], []⟩ :: acc) K) : LexP P nt ops (o :: rest) env st acc K :=
  kC hst (qj (Row.slt e sz) (.inl ⟨e, rfl⟩) ho hp hx ti hy hi) hd hg H
theorem zbw {ty : TypeId} {p x : Operand} {id : Id} {i sz : Nat} {aty : TypeId} {es : List T} {y : T} {bytes : Nat} {z : Value} (ho : o.op = .store ty p x) (hp : zm env.get p = .ref id i sz 0) (hx : zm env.get x = .t y) [ti : TyI P ty sz bytes z] (hst : StO.get st id = some (.arr aty sz es)) (hd : o.dst = none) (hg : zl ops o env = true) (hy : y.cells.length = sz) (hi : i < es.length)
    (H : LexP P nt ops rest env ((id, some (.arr aty sz (es.set i y))) :: st) (⟨true, [(id, .arr aty sz es)], .junk, [(id, .arr aty sz (es.set i y))], [id], []⟩ :: acc) K) : LexP P nt ops (o :: rest) env st acc K :=
  kC hst (qj (Row.arr aty sz) (.inr ⟨aty, rfl⟩) ho hp hx ti hy hi) hd hg H
theorem zcx {x : Operand} {r : AV} (ho : o.op = .nilCheck x) (hr : zm env.get x = r) (hx : r.nonNil = true) (hd : o.dst = some d) (hn : (decide (d < nt)) = true) (hg : zl ops o env = true) (H : LexP P nt ops rest ((d, r) :: env) st (⟨true, [], r, [], [], []⟩ :: acc) K) : LexP P nt ops (o :: rest) env st acc K := by
  subst hr
  exact zH (zb0 ho hx) hd hn hg H
theorem ke {fields : Array Field} {k : Nat} {ft : TypeId} {foff : Nat} (h : fieldAt fields.toList k = some (ft, foff)) : ∃ fd, fields[k]? = some fd ∧ fd.type = ft ∧ fd.offset = foff := by
  obtain ⟨fd, h1, h2⟩ := q9 h
  exact ⟨fd, by simpa using h1, h2⟩
theorem zb4 {s : TypeId} {x : Operand} {k : Nat} {id : Id} {i sz off : Nat} {fields : Array Field} {ft : TypeId} {foff size bytes : Nat} {z : Value} (ho : o.op = .fieldAddr s x k) (hx : zm env.get x = .ref id i sz off) [tu : TyU P s (.struct fields)] (hf : fieldAt fields.toList k = some (ft, foff)) [ti : TyI P ft size bytes z] (hs : (decide (size ≠ 0)) = true) (hd : o.dst = some d) (hn : (decide (d < nt)) = true) (hg : zl ops o env = true)
    (H : LexP P nt ops rest ((d, .ref id i sz (off + foff)) :: env) st (⟨true, [], .ref id i sz (off + foff), [], [], []⟩ :: acc) K) : LexP P nt ops (o :: rest) env st acc K := by
  obtain ⟨fd, hf1, rfl, rfl⟩ := ke hf
  exact zH (qL ho hx tu hf1 ti (of_decide_eq_true hs)) hd hn hg H
theorem kP {s : TypeId} {x : Operand} {k : Nat} {e : T} {off : Nat} {fields : Array Field} {ft : TypeId} {foff size bytes : Nat} {z : Value} (ho : o.op = .fieldAddr s x k) (hx : zm env.get x = .tp e off) [tu : TyU P s (.struct fields)] (hf : fieldAt fields.toList k = some (ft, foff)) [ti : TyI P ft size bytes z] (hs : (decide (size ≠ 0)) = true) (hd : o.dst = some d) (hn : (decide (d < nt)) = true) (hg : zl ops o env = true)
    (H : LexP P nt ops rest ((d, .tp e (off + foff)) :: env) st (⟨true, [], .tp e (off + foff), [], [], []⟩ :: acc) K) : LexP P nt ops (o :: rest) env st acc K := by
  obtain ⟨fd, hf1, rfl, rfl⟩ := ke hf
  exact zH (kh ho hx tu hf1 ti (of_decide_eq_true hs)) hd hn hg H
theorem yj {t elem : TypeId} {x ix : Operand} {sz : Nat} {es : List T} {k : IntKind} {i : Int} {bytes : Nat} {z : Value} (ho : o.op = .indexAddr t x ix) (hx : zm env.get x = .t (.sl sz es)) (hi : zm env.get ix = .t (.int k i)) [tu : TyU P t (.slice elem)] [ti : TyI P elem sz bytes z] (hd : o.dst = some d) (hn : (decide (d < nt)) = true) (hg : zl ops o env = true) (h0 : 0 ≤ i) (h1 : i < (es.length : Int))
    (H : LexP P nt ops rest ((d, .tp (es.getD i.toNat .nilp) 0) :: env) st (⟨true, [], .tp (es.getD i.toNat .nilp) 0, [], [], []⟩ :: acc) K) : LexP P nt ops (o :: rest) env st acc K :=
  zH (ko ho hx hi tu ti h0 h1) hd hn hg H
theorem zO {t elem : TypeId} {x ix : Operand} {id : Id} {e : TypeId} {sz : Nat} {es : List T} {k : IntKind} {i : Int} {bytes : Nat} {z : Value} (ho : o.op = .indexAddr t x ix) (hx : zm env.get x = .row id) (hi : zm env.get ix = .t (.int k i)) [tu : TyU P t (.slice elem)] (hst : StO.get st id = some (.slt e sz es)) [ti : TyI P elem sz bytes z] (hd : o.dst = some d) (hn : (decide (d < nt)) = true) (hg : zl ops o env = true) (h0 : 0 ≤ i) (h1 : i < (es.length : Int))
    (H : LexP P nt ops rest ((d, .ref id i.toNat sz 0) :: env) st (⟨true, [(id, .slt e sz es)], .ref id i.toNat sz 0, [(id, .slt e sz es)], [], []⟩ :: acc) K) : LexP P nt ops (o :: rest) env st acc K :=
  xA hst (qr ho hx hi tu ti h0 h1) hd hn hg H
theorem zq {t elem : TypeId} {len : Nat} {x ix : Operand} {id : Id} {s0 sz : Nat} {k : IntKind} {i : Int} {bytes : Nat} {z : Value} (ho : o.op = .indexAddr t x ix) (hx : zm env.get x = .ref id 0 s0 0) (hi : zm env.get ix = .t (.int k i)) [tu : TyU P t (.array len elem)] [ti : TyI P elem sz bytes z] (hd : o.dst = some d) (hn : (decide (d < nt)) = true) (hg : zl ops o env = true) (h0 : 0 ≤ i) (h1 : i < (len : Int))
    (H : LexP P nt ops rest ((d, .ref id i.toNat sz 0) :: env) st (⟨true, [], .ref id i.toNat sz 0, [], [], []⟩ :: acc) K) : LexP P nt ops (o :: rest) env st acc K :=
  zH (qN ho hx hi tu ti h0 h1) hd hn hg H
theorem zK {t : TypeId} {x ix : Operand} {s : ByteArray} {k : IntKind} {i : Int} (ho : o.op = .index t x ix) (hx : zm env.get x = .t (.str s)) (hi : zm env.get ix = .t (.int k i)) [tu : TyU P t .string] (hd : o.dst = some d) (hn : (decide (d < nt)) = true) (hg : zl ops o env = true) (h0 : 0 ≤ i) (h1 : i < (s.size : Int))
    (H : LexP P nt ops rest ((d, .t (.int .u8 (bAt s i))) :: env) st (⟨true, [], .t (.int .u8 (bAt s i)), [], [], []⟩ :: acc) K) : LexP P nt ops (o :: rest) env st acc K :=
  zH (zaZ ho hx hi tu h0 h1) hd hn hg H
theorem zgy {op : BinOp} {ty yt : TypeId} {x y : Operand} {k : IntKind} {a b : Int} {r : T} (ho : o.op = .binOp op ty x y yt) (hx : zm env.get x = .t (.int k a)) (hy : zm env.get y = .t (.int k b)) (hr : zhR op k a b = some r) (hd : o.dst = some d) (hn : (decide (d < nt)) = true) (hg : zl ops o env = true)
    (H : LexP P nt ops rest ((d, .t r) :: env) st (⟨true, [], .t r, [], [], []⟩ :: acc) K) : LexP P nt ops (o :: rest) env st acc K :=
  zH (zfu ho hx hy hr) hd hn hg H
theorem ziJ {ty yt : TypeId} {x y : Operand} {k : IntKind} {a b : Int} (ho : o.op = .binOp .quo ty x y yt) (hx : zm env.get x = .t (.int k a)) (hy : zm env.get y = .t (.int k b)) (hd : o.dst = some d) (hn : (decide (d < nt)) = true) (hg : zl ops o env = true) (hb : b ≠ 0)
    (H : LexP P nt ops rest ((d, .t (.int k (k.wrap (a.tdiv b)))) :: env) st (⟨true, [], .t (.int k (k.wrap (a.tdiv b))), [], [], []⟩ :: acc) K) : LexP P nt ops (o :: rest) env st acc K :=
  zH (zhw ho hx hy hb) hd hn hg H
theorem zhl {ty yt : TypeId} {x y : Operand} {k : IntKind} {a b : Int} (ho : o.op = .binOp .rem ty x y yt) (hx : zm env.get x = .t (.int k a)) (hy : zm env.get y = .t (.int k b)) (hd : o.dst = some d) (hn : (decide (d < nt)) = true) (hg : zl ops o env = true) (hb : b ≠ 0)
    (H : LexP P nt ops rest ((d, .t (.int k (a.tmod b))) :: env) st (⟨true, [], .t (.int k (a.tmod b)), [], [], []⟩ :: acc) K) : LexP P nt ops (o :: rest) env st acc K :=
  zH (zig ho hx hy hb) hd hn hg H
theorem zfp {ty yt : TypeId} {x y : Operand} {k yk : IntKind} {a b : Int} (ho : o.op = .binOp .shl ty x y yt) (hx : zm env.get x = .t (.int k a)) (hy : zm env.get y = .t (.int yk b)) (hd : o.dst = some d) (hn : (decide (d < nt)) = true) (hg : zl ops o env = true) (hb : 0 ≤ b)
    (H : LexP P nt ops rest ((d, .t (.int k (k.wrap (a * 2 ^ min b.toNat k.bits)))) :: env) st (⟨true, [], .t (.int k (k.wrap (a * 2 ^ min b.toNat k.bits))), [], [], []⟩ :: acc) K) : LexP P nt ops (o :: rest) env st acc K :=
  zH (zhD ho hx hy hb) hd hn hg H
theorem qY {ty yt : TypeId} {x y : Operand} {k yk : IntKind} {a b : Int} (ho : o.op = .binOp .shr ty x y yt) (hx : zm env.get x = .t (.int k a)) (hy : zm env.get y = .t (.int yk b)) (hd : o.dst = some d) (hn : (decide (d < nt)) = true) (hg : zl ops o env = true) (hb : 0 ≤ b)
    (H : LexP P nt ops rest ((d, .t (.int k (a / 2 ^ min b.toNat k.bits))) :: env) st (⟨true, [], .t (.int k (a / 2 ^ min b.toNat k.bits)), [], [], []⟩ :: acc) K) : LexP P nt ops (o :: rest) env st acc K :=
  zH (zhB ho hx hy hb) hd hn hg H
theorem ziA {ty : TypeId} {x : Operand} {b : Bool} (ho : o.op = .unOp .not ty x) (hx : zm env.get x = .t (.bool b)) (hd : o.dst = some d) (hn : (decide (d < nt)) = true) (hg : zl ops o env = true)
    (H : LexP P nt ops rest ((d, .t (.bool (!b))) :: env) st (⟨true, [], .t (.bool (!b)), [], [], []⟩ :: acc) K) : LexP P nt ops (o :: rest) env st acc K :=
  zH (zhG ho hx) hd hn hg H
theorem ziO {ty : TypeId} {x : Operand} {k : IntKind} {n : Int} (ho : o.op = .unOp .neg ty x) (hx : zm env.get x = .t (.int k n)) (hd : o.dst = some d) (hn : (decide (d < nt)) = true) (hg : zl ops o env = true)
    (H : LexP P nt ops rest ((d, .t (.int k (k.wrap (0 - n)))) :: env) st (⟨true, [], .t (.int k (k.wrap (0 - n))), [], [], []⟩ :: acc) K) : LexP P nt ops (o :: rest) env st acc K :=
  zH (zh6 ho hx) hd hn hg H
theorem zit {ty : TypeId} {x : Operand} {k : IntKind} {n : Int} (ho : o.op = .unOp .xor ty x) (hx : zm env.get x = .t (.int k n)) (hd : o.dst = some d) (hn : (decide (d < nt)) = true) (hg : zl ops o env = true)
    (H : LexP P nt ops rest ((d, .t (.int k (k.wrap (BitVec.ofInt k.bits (if k.signed then -1 else k.max) ^^^ BitVec.ofInt k.bits n).toNat))) :: env) st (⟨true, [], .t (.int k (k.wrap (BitVec.ofInt k.bits (if k.signed then -1 else k.max) ^^^ BitVec.ofInt k.bits n).toNat)), [], [], []⟩ :: acc) K) : LexP P nt ops (o :: rest) env st acc K :=
  zH (zif ho hx) hd hn hg H
theorem zcl {src dst : TypeId} {x : Operand} {dd : TypeDesc} {k k' : IntKind} {n : Int} (ho : o.op = .convert src dst x) (hx : zm env.get x = .t (.int k n)) [ts : TyU P src dd] [td : TyU P dst (.int k')] (hd : o.dst = some d) (hn : (decide (d < nt)) = true) (hg : zl ops o env = true)
    (H : LexP P nt ops rest ((d, .t (.int k' (k'.wrap n))) :: env) st (⟨true, [], .t (.int k' (k'.wrap n)), [], [], []⟩ :: acc) K) : LexP P nt ops (o :: rest) env st acc K :=
  zH (zcg ho hx ts td) hd hn hg H
theorem zz {ty yt : TypeId} {x y : Operand} {s t : ByteArray} (ho : o.op = .binOp .add ty x y yt) (hx : zm env.get x = .t (.str s)) (hy : zm env.get y = .t (.str t)) (hd : o.dst = some d) (hn : (decide (d < nt)) = true) (hg : zl ops o env = true) (hl : s.size + t.size ≤ 9223372036854775807)
    (H : LexP P nt ops rest ((d, .t (.str (s ++ t))) :: env) st (⟨true, [], .t (.str (s ++ t)), [], [], []⟩ :: acc) K) : LexP P nt ops (o :: rest) env st acc K :=
  zH (zeH ho hx hy hl) hd hn hg H
theorem zfd {ty yt : TypeId} {x y : Operand} {s t : ByteArray} (ho : o.op = .binOp .eql ty x y yt) (hx : zm env.get x = .t (.str s)) (hy : zm env.get y = .t (.str t)) (hd : o.dst = some d) (hn : (decide (d < nt)) = true) (hg : zl ops o env = true)
    (H : LexP P nt ops rest ((d, .t (.bool (decide (s = t)))) :: env) st (⟨true, [], .t (.bool (decide (s = t))), [], [], []⟩ :: acc) K) : LexP P nt ops (o :: rest) env st acc K :=
  zH (zeB ho hx hy) hd hn hg H
theorem zgg {ty yt : TypeId} {x y : Operand} {s t : ByteArray} (ho : o.op = .binOp .neq ty x y yt) (hx : zm env.get x = .t (.str s)) (hy : zm env.get y = .t (.str t)) (hd : o.dst = some d) (hn : (decide (d < nt)) = true) (hg : zl ops o env = true)
    (H : LexP P nt ops rest ((d, .t (.bool (!decide (s = t)))) :: env) st (⟨true, [], .t (.bool (!decide (s = t))), [], [], []⟩ :: acc) K) : LexP P nt ops (o :: rest) env st acc K :=
  zH (zeQ ho hx hy) hd hn hg H
theorem zeD {ty yt : TypeId} {x y : Operand} {a b : Bool} (ho : o.op = .binOp .neq ty x y yt) (hx : zm env.get x = .t (.bool a)) (hy : zm env.get y = .t (.bool b)) [tu : TyU P ty .bool] (hd : o.dst = some d) (hn : (decide (d < nt)) = true) (hg : zl ops o env = true)
    (H : LexP P nt ops rest ((d, .t (.bool (!(a == b)))) :: env) st (⟨true, [], .t (.bool (!(a == b))), [], [], []⟩ :: acc) K) : LexP P nt ops (o :: rest) env st acc K :=
  zH (zdf ho hx hy tu) hd hn hg H
theorem zer {x : Operand} {i : Nat} {vs : List AV} {y : AV} (ho : o.op = .extract x i) (hx : zm env.get x = .tup vs) (hy : vs[i]? = some y) (hd : o.dst = some d) (hn : (decide (d < nt)) = true) (hg : zl ops o env = true)
    (H : LexP P nt ops rest ((d, y) :: env) st (⟨true, [], y, [], [], []⟩ :: acc) K) : LexP P nt ops (o :: rest) env st acc K :=
  zH (zcY ho hx hy) hd hn hg H
theorem zbL {t : TypeId} {x : Operand} {sz : Nat} {es : List T} {e : TypeId} (ho : o.op = .call { callee := .builtin .len, args := #[x], argTypes := #[t] }) (hx : zm env.get x = .t (.sl sz es)) [tu : TyU P t (.slice e)] (hd : o.dst = some d) (hn : (decide (d < nt)) = true) (hg : zl ops o env = true)
    (H : LexP P nt ops rest ((d, .t (.int .i64 (es.length : Int))) :: env) st (⟨true, [], .t (.int .i64 (es.length : Int)), [], [], []⟩ :: acc) K) : LexP P nt ops (o :: rest) env st acc K :=
  zH (zeo (rt := 0) ho hx tu) hd hn hg H
theorem zey {t : TypeId} {x : Operand} {e : TypeId} (ho : o.op = .call { callee := .builtin .len, args := #[x], argTypes := #[t] }) (hx : zm env.get x = .t .nilsl) [tu : TyU P t (.slice e)] (hd : o.dst = some d) (hn : (decide (d < nt)) = true) (hg : zl ops o env = true)
    (H : LexP P nt ops rest ((d, .t (.int .i64 0)) :: env) st (⟨true, [], .t (.int .i64 0), [], [], []⟩ :: acc) K) : LexP P nt ops (o :: rest) env st acc K :=
  zH (zdo ho hx tu) hd hn hg H
theorem zeF {t : TypeId} {x : Operand} {s : ByteArray} (ho : o.op = .call { callee := .builtin .len, args := #[x], argTypes := #[t] }) (hx : zm env.get x = .t (.str s)) [tu : TyU P t .string] (hd : o.dst = some d) (hn : (decide (d < nt)) = true) (hg : zl ops o env = true)
    (H : LexP P nt ops rest ((d, .t (.int .i64 (s.size : Int))) :: env) st (⟨true, [], .t (.int .i64 (s.size : Int)), [], [], []⟩ :: acc) K) : LexP P nt ops (o :: rest) env st acc K :=
  zH (zcm ho hx tu) hd hn hg H
theorem j4 {t : TypeId} {x : Operand} {id : Id} {e e' : TypeId} {sz : Nat} {es : List T} (ho : o.op = .call { callee := .builtin .len, args := #[x], argTypes := #[t] }) (hx : zm env.get x = .row id) (hst : StO.get st id = some (.slt e' sz es)) [tu : TyU P t (.slice e)] (hd : o.dst = some d) (hn : (decide (d < nt)) = true) (hg : zl ops o env = true)
    (H : LexP P nt ops rest ((d, .t (.int .i64 (es.length : Int))) :: env) st (⟨true, [(id, .slt e' sz es)], .t (.int .i64 (es.length : Int)), [(id, .slt e' sz es)], [], []⟩ :: acc) K) : LexP P nt ops (o :: rest) env st acc K :=
  xA hst (zcF ho hx tu) hd hn hg H
theorem zy {t : TypeId} {x : Operand} {lo hi : Option Operand} {s : ByteArray} {l hh : Int} (ho : o.op = .slice t x lo hi none) (hx : zm env.get x = .t (.str s)) [tu : TyU P t .string] (hlo : wu (zm env.get) lo 0 l) (hhi : wu (zm env.get) hi (s.size : Int) hh) (hd : o.dst = some d) (hn : (decide (d < nt)) = true) (hg : zl ops o env = true) (h0 : 0 ≤ l) (h1 : l ≤ hh) (h2 : hh ≤ (s.size : Int))
    (H : LexP P nt ops rest ((d, .t (.str (s.extract l.toNat hh.toNat))) :: env) st (⟨true, [], .t (.str (s.extract l.toNat hh.toNat)), [], [], []⟩ :: acc) K) : LexP P nt ops (o :: rest) env st acc K :=
  zH (zaI ho hx tu hlo hhi h0 h1 h2) hd hn hg H
theorem ziz {ts : Array TypeId} {x y : Operand} {k k' : IntKind} {a b : Int} (ho : o.op = .call { callee := .builtin .min, args := #[x, y], argTypes := ts }) (hx : zm env.get x = .t (.int k a)) (hy : zm env.get y = .t (.int k' b)) (hd : o.dst = some d) (hn : (decide (d < nt)) = true) (hg : zl ops o env = true)
    (H : LexP P nt ops rest ((d, .t (.int k (if b < a then b else a))) :: env) st (⟨true, [], .t (.int k (if b < a then b else a)), [], [], []⟩ :: acc) K) : LexP P nt ops (o :: rest) env st acc K :=
  zH (zhu (t := 0) ho hx hy) hd hn hg H
theorem ziG {ts : Array TypeId} {x y : Operand} {k k' : IntKind} {a b : Int} (ho : o.op = .call { callee := .builtin .max, args := #[x, y], argTypes := ts }) (hx : zm env.get x = .t (.int k a)) (hy : zm env.get y = .t (.int k' b)) (hd : o.dst = some d) (hn : (decide (d < nt)) = true) (hg : zl ops o env = true)
    (H : LexP P nt ops rest ((d, .t (.int k (if b > a then b else a))) :: env) st (⟨true, [], .t (.int k (if b > a then b else a)), [], [], []⟩ :: acc) K) : LexP P nt ops (o :: rest) env st acc K :=
  zH (zib (t := 0) ho hx hy) hd hn hg H
theorem zgJ {f : Operand} {as : Array Operand} {ts : Array TypeId} {g : FuncId} {caps args : List AV} {r : AV} (ho : o.op = .call { callee := .value f, args := as, argTypes := ts }) (hf : yD (zm env.get f) = some (g, caps)) [hb : FnB P g] (H0 : Spec P g args [] r []) (hr : r.all (fun _ => false) = true) (hlen : (decide (as.size + caps.length = args.length)) = true) (hargs : ArgsLE (as.toList.map (zm env.get) ++ caps) args) (hren : AV.renL id args = args) (hrr : r.ren id = r) (hd : o.dst = some d) (hn : (decide (d < nt)) = true) (hg : zl ops o env = true)
    (H : LexP P nt ops rest ((d, r) :: env) st (⟨true, [], r, [], [], []⟩ :: acc) K) : LexP P nt ops (o :: rest) env st acc K := by
  refine zH (r := r) ?_ hd hn hg H
  have all_mono : ∀ x : AV, x.all (fun _ => false) = true → x.all (fun id => wY id || (xN id && (StL.ids []).contains id)) = true := by
    intro x
    induction x using AV.rec (motive_2 := fun xs => AV.allL (fun _ => false) xs = true → AV.allL (fun id => wY id || (xN id && (StL.ids []).contains id)) xs = true) with
    | t x => intro _; rfl
    | tp e off => intro _; rfl
    | ref j i sz off => intro hx; simp [AV.all] at hx
    | view j n c => intro hx; simp [AV.all] at hx
    | row j => intro hx; simp [AV.all] at hx
    | agg cs ih => intro hx; simp only [AV.all] at hx ⊢; exact ih hx
    | tup cs ih => intro hx; simp only [AV.all] at hx ⊢; exact ih hx
    | fn f cs ih => intro hx; simp only [AV.all] at hx ⊢; exact ih hx
    | junk => intro _; rfl
    | nil => rfl
    | cons x xs h1 h2 =>
      rename_i hx
      simp only [AV.allL, Bool.and_eq_true] at hx ⊢
      exact ⟨h1 hx.1, h2 hx.2⟩
  have ok : CallOK [] [] r id := ⟨fun i hi => by simp [StL.ids] at hi, fun k hk => by simp [StL.ids] at hk, all_mono r hr, fun x hx => by simp at hx, fun k hk => by simp [StL.ids] at hk⟩
  have := zaL (P := P) (ρ := zm env.get) id ho hf hb H0 ok (of_decide_eq_true hlen) (by rw [hren]; exact hargs)
  rw [hrr] at this
  simpa [StL.ren, StL.ids] using this
end
end Go.AL
set_option linter.unusedSimpArgs false
namespace Go.AL
open Go Go.RowKit
section
variable {P : Program} {nt : Nat} {ops : Array Oper} {env : EnvL} {st : StO} {acc : List SD} {K : EnvL → StO → List SD → Prop} {Q : Exit → Env → zt → Prop}
theorem ziB (H : K env st acc) : LexP P nt ops [] env st acc K := .nil H
theorem ziw {y : Code} (H : CodeT P nt y env.get st.get Q) : zgQ P nt y Q .normal env.get st.get := H
theorem zdc {y : Code} {i : Nat} (H : Q (.exit i) env.get st.get) : zgQ P nt y Q (.exit i) env.get st.get := H
theorem zei {y : Code} (H : Q .ret env.get st.get) : zgQ P nt y Q .ret env.get st.get := H
theorem zhs {i : Nat} (H : Q .normal env.get st.get) : vy i Q .normal env.get st.get := H
theorem zdi {i : Nat} (H : Q .ret env.get st.get) : vy i Q .ret env.get st.get := H
theorem zbl {i j : Nat} (hij : (i == j) = true) (H : Q .normal env.get st.get) : vy i Q (.exit j) env.get st.get := by
  have : i = j := by simpa using hij
  subst this
  simpa [vy] using H
theorem zcM {I : Nat → Env → zt → Prop} {n i : Nat} (H : Q (.exit i) env.get st.get) : zgv nt I n Q (.exit i) env.get st.get := H
theorem zec {I : Nat → Env → zt → Prop} {n : Nat} (H : Q .ret env.get st.get) : zgv nt I n Q .ret env.get st.get := H
theorem zr {I : Nat → Env → zt → Prop} {n n' : Nat} {env1 : EnvL} {st1 : StO} (hn : n' < n) (g : Ghost nt env.get st.get env1.get st1.get) (H : I n' env1.get st1.get) : zgv nt I n Q .normal env.get st.get := ⟨n', hn, env1.get, st1.get, g, H⟩
theorem za8 {l : List Oper} {ds : List SD} {env0 : EnvL} {st0 : StO} (hc : zan l ds env0 st0 = true) (H : Q .normal env.get st.get) : zan l ds env0 st0 = true ∧ Q .normal env.get st.get := ⟨hc, H⟩
theorem zhV {x : Operand} {y z : Code} (hb : zm env.get x = .t (.bool true)) (H : CodeT P nt y env.get st.get Q) : CodeT P nt (.cond x y z) env.get st.get Q := qD hb H
theorem zhU {x : Operand} {y z : Code} (hb : zm env.get x = .t (.bool false)) (H : CodeT P nt z env.get st.get Q) : CodeT P nt (.cond x y z) env.get st.get Q := qD hb H
theorem zi {x : Operand} {y z : Code} {p : Prop} [Decidable p] (hb : zm env.get x = .t (.bool (decide p))) (H1 : p → CodeT P nt y env.get st.get Q) (H2 : ¬ p → CodeT P nt z env.get st.get Q) : CodeT P nt (.cond x y z) env.get st.get Q :=
  kX hb (fun h => H1 (of_decide_eq_true h)) (fun h => H2 (of_decide_eq_false h))
theorem zR {x : Operand} {y z : Code} {p : Prop} [Decidable p] (hb : zm env.get x = .t (.bool (!decide p))) (H1 : p → CodeT P nt z env.get st.get Q) (H2 : ¬ p → CodeT P nt y env.get st.get Q) : CodeT P nt (.cond x y z) env.get st.get Q :=
  kX hb (fun h => H2 (by simpa using h)) (fun h => H1 (by simpa using h))
end
section
variable {P : Program} {nt : Nat} {ops : Array Oper} {o : Oper} {rest : List Oper} {env : EnvL} {st : StO} {acc : List SD} {K : EnvL → StO → List SD → Prop} {d : Nat}
theorem zgx {α : Type} {f : α → T} {l : List α} {i : Nat} (a : α) (h : i < l.length) : (l.map f).getD i .nilp = f (l.getD i a) := by
  simp [List.getD_eq_getElem?_getD, h]
theorem zc {α : Type} [Inhabited α] {f : α → T} {l : List α} {t elem : TypeId} {x ix : Operand} {sz : Nat} {k : IntKind} {i : Int} {bytes : Nat} {z : Value} (ho : o.op = .indexAddr t x ix) (hx : zm env.get x = .t (.sl sz (l.map f))) (hi : zm env.get ix = .t (.int k i)) [tu : TyU P t (.slice elem)] [ti : TyI P elem sz bytes z] (hd : o.dst = some d) (hn : (decide (d < nt)) = true) (hg : zl ops o env = true) (h0 : 0 ≤ i) (h1 : i < (l.length : Int))
    (H : LexP P nt ops rest ((d, .tp (f (l.getD i.toNat default)) 0) :: env) st (⟨true, [], .tp (f (l.getD i.toNat default)) 0, [], [], []⟩ :: acc) K) : LexP P nt ops (o :: rest) env st acc K := by
  have h1' : i < ((l.map f).length : Int) := by simpa using h1
  have e := zgx (f := f) (l := l) (i := i.toNat) default (toNat_lt h0 h1)
  refine yj ho hx hi hd hn hg h0 h1' ?_
  rw [e]; exact H
theorem zel {α : Type} {f : α → T} {l : List α} {t : TypeId} {x : Operand} {sz : Nat} {e : TypeId} (ho : o.op = .call { callee := .builtin .len, args := #[x], argTypes := #[t] }) (hx : zm env.get x = .t (.sl sz (l.map f))) [tu : TyU P t (.slice e)] (hd : o.dst = some d) (hn : (decide (d < nt)) = true) (hg : zl ops o env = true)
    (H : LexP P nt ops rest ((d, .t (.int .i64 (l.length : Int))) :: env) st (⟨true, [], .t (.int .i64 (l.length : Int)), [], [], []⟩ :: acc) K) : LexP P nt ops (o :: rest) env st acc K := by
  refine zbL ho hx hd hn hg ?_
  rw [List.length_map]; exact H
theorem zay {α : Type} {f : α → T} {l : List α} {t : TypeId} {x : Operand} {id : Id} {e e' : TypeId} {sz : Nat} (ho : o.op = .call { callee := .builtin .len, args := #[x], argTypes := #[t] }) (hx : zm env.get x = .row id) (hst : StO.get st id = some (.slt e' sz (l.map f))) [tu : TyU P t (.slice e)] (hd : o.dst = some d) (hn : (decide (d < nt)) = true) (hg : zl ops o env = true)
    (H : LexP P nt ops rest ((d, .t (.int .i64 (l.length : Int))) :: env) st (⟨true, [(id, .slt e' sz (l.map f))], .t (.int .i64 (l.length : Int)), [(id, .slt e' sz (l.map f))], [], []⟩ :: acc) K) : LexP P nt ops (o :: rest) env st acc K := by
  refine j4 ho hx hst hd hn hg ?_
  rw [List.length_map]; exact H
theorem yN {α : Type} [Inhabited α] {f : α → T} {l : List α} {ty : TypeId} {p : Operand} {id : Id} {i sz off : Nat} {e : TypeId} {dd : TypeDesc} {y : T} (ho : o.op = .load ty p) (hp : zm env.get p = .ref id i sz off) [tu : TyU P ty dd] (ha : yz dd = false) (hst : StO.get st id = some (.slt e sz (l.map f))) (hy : (f (l.getD i default)).cells[off]? = some y) (hd : o.dst = some d) (hn : (decide (d < nt)) = true) (hg : zl ops o env = true) (hx : i < l.length)
    (H : LexP P nt ops rest ((d, .t y) :: env) st (⟨true, [(id, .slt e sz (l.map f))], .t y, [(id, .slt e sz (l.map f))], [], []⟩ :: acc) K) : LexP P nt ops (o :: rest) env st acc K :=
  zc6 ho hp ha hst hd hn hg (x := f (l.getD i default)) (by rw [List.getElem?_map]; simp [List.getD_eq_getElem?_getD, hx]) hy H
end
theorem zj {n : Int} (h0 : -9223372036854775808 ≤ n) (h1 : n ≤ 9223372036854775807) : IntKind.i64.wrap n = n := by
  simp only [IntKind.wrap, IntKind.signed, IntKind.bits]
  simp
  split <;> omega
section
variable {P : Program} {env : EnvL} {st : StO}
theorem zd5 (S : StL) : StO.get (S.map fun x => (x.1, some x.2)) = StL.get S := by
  funext id
  induction S with
  | nil => rfl
  | cons x S ih =>
    obtain ⟨i, r⟩ := x
    simp only [List.map_cons, StO.get, StL.get]
    split
    · rfl
    · exact ih
theorem yI {f : FuncId} {fn : Func} {c : Code} {args : List AV} {S S' : StL} {r : AV} {env0 : EnvL} {st0 : StO} (hf : P.funcs[f]? = some fn) (hb : fn.body = some c) (hn : (decide (args.length ≤ fn.ntmps)) = true) (he : y6 0 args = env0) (hs : S.map (fun x => (x.1, some x.2)) = st0)
    (H : CodeT P fn.ntmps c env0.get st0.get (zhA P fn r S')) : Spec P f args S r S' := by
  subst he; subst hs
  rw [zd5] at H
  exact zbK hf hb (of_decide_eq_true hn) H
theorem zo {fn : Func} {r : AV} {S' : StL} (h1 : zdw P fn env.get st.get r) (h2 : ∀ x ∈ S', StO.get st x.1 = some x.2) : zhA P fn r S' .ret env.get st.get := ⟨h1, fun id row h => h2 _ (StL.get_mem h)⟩
theorem zid {fn : Func} {r : AV} {S' : StL} (h1 : zdw P fn env.get st.get r) (h2 : ∀ x ∈ S', StO.get st x.1 = some x.2) : zhA P fn r S' .normal env.get st.get := ⟨h1, fun id row h => h2 _ (StL.get_mem h)⟩
theorem AVLE.of_eq {x y : AV} (e : x = y) : AVLE x y := e ▸ AVLE.refl x
theorem zf {fn : Func} {t : Nat} {y x : T} (hr : fn.results = #[.tmp t]) (hx : env.get t = .t y) (e : y = x) : zdw P fn env.get st.get (.t x) := yl hr (AVLE.of_eq (by rw [hx, e]))
theorem yd {fn : Func} {t u : Nat} {y x y' x' : T} (hr : fn.results = #[.tmp t, .tmp u]) (hx : env.get t = .t y) (hx' : env.get u = .t y') (e : y = x) (e' : y' = x') : zdw P fn env.get st.get (.tup [.t x, .t x']) := kF hr (AVLE.of_eq (by rw [hx, e])) (AVLE.of_eq (by rw [hx', e']))
def zeZ : List Nat → EnvL → EnvL
  | [], _ => []
  | t :: ts, env => (t, env.get t) :: zeZ ts env
theorem zbi : ∀ (ts : List Nat) (env : EnvL) (t : Nat), EnvL.get (zeZ ts env) t = env.get t ∨ EnvL.get (zeZ ts env) t = .junk
  | [], env, t => .inr rfl
  | u :: ts, env, t => by
    simp only [zeZ, EnvL.get]
    split
    · rename_i e; subst e; exact .inl rfl
    · exact zbi ts env t
theorem zd3 {nt : Nat} (ts : List Nat) (env' : EnvL) (st' : StO) (he : zeZ ts env = env') (hs : ∀ x ∈ st', x.2 = none ∨ StO.get st x.1 = x.2) : Ghost nt env.get st.get env'.get st'.get := by
  subst he
  refine jY (fun t => ?_) fun id row h => ?_
  · rcases zbi ts env t with h | h
    · rw [h]; exact AVLE.refl _
    · rw [h]; exact AVLE.junk _
  · have mem : ∀ {l : StO}, StO.get l id = some row → (id, some row) ∈ l := by
      intro l
      induction l with
      | nil => intro h; simp [StO.get] at h
      | cons x l ih =>
        obtain ⟨i, r⟩ := x
        intro hq
        simp only [StO.get] at hq
        split at hq
        · rename_i e; subst e; rw [hq]; simp
        · exact List.mem_cons_of_mem _ (ih hq)
    rcases hs _ (mem h) with h1 | h1
    · cases h1
    · exact h1
end
section
variable {P : Program} {nt : Nat} {ops : Array Oper} {rest : List Oper} {env : EnvL} {st : StO} {acc : List SD} {K : EnvL → StO → List SD → Prop} {d : Option Tmp} {ty : TypeId} {pos : String} {after : Array Edge} {g : Option (Nat × Bool)}
theorem ziv {x : Operand} (H : LexP P nt ops ({ dst := d, op := .move x, type := ty, pos := pos, after := after, guard := g } :: rest) env st acc K) : LexP P nt ops ({ dst := d, op := .move x, type := ty, pos := pos, after := after, guard := g } :: rest) env st acc K := H
theorem zgK {x : Operand} (H : LexP P nt ops ({ dst := d, op := .assign x, type := ty, pos := pos, after := after, guard := g } :: rest) env st acc K) : LexP P nt ops ({ dst := d, op := .assign x, type := ty, pos := pos, after := after, guard := g } :: rest) env st acc K := H
theorem ziu {c x y : Operand} (H : LexP P nt ops ({ dst := d, op := .pick c x y, type := ty, pos := pos, after := after, guard := g } :: rest) env st acc K) : LexP P nt ops ({ dst := d, op := .pick c x y, type := ty, pos := pos, after := after, guard := g } :: rest) env st acc K := H
theorem zi8 {t : TypeId} {x : Operand} (H : LexP P nt ops ({ dst := d, op := .box t x, type := ty, pos := pos, after := after, guard := g } :: rest) env st acc K) : LexP P nt ops ({ dst := d, op := .box t x, type := ty, pos := pos, after := after, guard := g } :: rest) env st acc K := H
theorem zhJ {t : TypeId} (H : LexP P nt ops ({ dst := d, op := .alloc t, type := ty, pos := pos, after := after, guard := g } :: rest) env st acc K) : LexP P nt ops ({ dst := d, op := .alloc t, type := ty, pos := pos, after := after, guard := g } :: rest) env st acc K := H
theorem xu {t : TypeId} {x : Operand} (H : LexP P nt ops ({ dst := d, op := .load t x, type := ty, pos := pos, after := after, guard := g } :: rest) env st acc K) : LexP P nt ops ({ dst := d, op := .load t x, type := ty, pos := pos, after := after, guard := g } :: rest) env st acc K := H
theorem yY {t : TypeId} {x y : Operand} (H : LexP P nt ops ({ dst := d, op := .store t x y, type := ty, pos := pos, after := after, guard := g } :: rest) env st acc K) : LexP P nt ops ({ dst := d, op := .store t x y, type := ty, pos := pos, after := after, guard := g } :: rest) env st acc K := H
theorem zeh {x : Operand} (H : LexP P nt ops ({ dst := d, op := .nilCheck x, type := ty, pos := pos, after := after, guard := g } :: rest) env st acc K) : LexP P nt ops ({ dst := d, op := .nilCheck x, type := ty, pos := pos, after := after, guard := g } :: rest) env st acc K := H
theorem zcz {t : TypeId} {x : Operand} {k : Nat} (H : LexP P nt ops ({ dst := d, op := .fieldAddr t x k, type := ty, pos := pos, after := after, guard := g } :: rest) env st acc K) : LexP P nt ops ({ dst := d, op := .fieldAddr t x k, type := ty, pos := pos, after := after, guard := g } :: rest) env st acc K := H
theorem zd {t : TypeId} {x y : Operand} (H : LexP P nt ops ({ dst := d, op := .indexAddr t x y, type := ty, pos := pos, after := after, guard := g } :: rest) env st acc K) : LexP P nt ops ({ dst := d, op := .indexAddr t x y, type := ty, pos := pos, after := after, guard := g } :: rest) env st acc K := H
theorem yx {t : TypeId} {x y : Operand} (H : LexP P nt ops ({ dst := d, op := .index t x y, type := ty, pos := pos, after := after, guard := g } :: rest) env st acc K) : LexP P nt ops ({ dst := d, op := .index t x y, type := ty, pos := pos, after := after, guard := g } :: rest) env st acc K := H
theorem zF {b : BinOp} {t u : TypeId} {x y : Operand} (H : LexP P nt ops ({ dst := d, op := .binOp b t x y u, type := ty, pos := pos, after := after, guard := g } :: rest) env st acc K) : LexP P nt ops ({ dst := d, op := .binOp b t x y u, type := ty, pos := pos, after := after, guard := g } :: rest) env st acc K := H
theorem ziC {b : UnOp} {t : TypeId} {x : Operand} (H : LexP P nt ops ({ dst := d, op := .unOp b t x, type := ty, pos := pos, after := after, guard := g } :: rest) env st acc K) : LexP P nt ops ({ dst := d, op := .unOp b t x, type := ty, pos := pos, after := after, guard := g } :: rest) env st acc K := H
theorem zN {t u : TypeId} {x : Operand} (H : LexP P nt ops ({ dst := d, op := .convert t u x, type := ty, pos := pos, after := after, guard := g } :: rest) env st acc K) : LexP P nt ops ({ dst := d, op := .convert t u x, type := ty, pos := pos, after := after, guard := g } :: rest) env st acc K := H
theorem zf6 {x : Operand} {k : Nat} (H : LexP P nt ops ({ dst := d, op := .extract x k, type := ty, pos := pos, after := after, guard := g } :: rest) env st acc K) : LexP P nt ops ({ dst := d, op := .extract x k, type := ty, pos := pos, after := after, guard := g } :: rest) env st acc K := H
theorem yF {t : TypeId} {x : Operand} {l h m : Option Operand} (H : LexP P nt ops ({ dst := d, op := .slice t x l h m, type := ty, pos := pos, after := after, guard := g } :: rest) env st acc K) : LexP P nt ops ({ dst := d, op := .slice t x l h m, type := ty, pos := pos, after := after, guard := g } :: rest) env st acc K := H
theorem zbh {t : TypeId} {n : Nat} {ps : Array (Nat × Operand)} (H : LexP P nt ops ({ dst := d, op := .buildSlice t n ps, type := ty, pos := pos, after := after, guard := g } :: rest) env st acc K) : LexP P nt ops ({ dst := d, op := .buildSlice t n ps, type := ty, pos := pos, after := after, guard := g } :: rest) env st acc K := H
theorem vc {t : TypeId} {ps : Array (Nat × Operand)} (H : LexP P nt ops ({ dst := d, op := .build t ps, type := ty, pos := pos, after := after, guard := g } :: rest) env st acc K) : LexP P nt ops ({ dst := d, op := .build t ps, type := ty, pos := pos, after := after, guard := g } :: rest) env st acc K := H
theorem yG {t : TypeId} {x y : Operand} (H : LexP P nt ops ({ dst := d, op := .makeSlice t x y, type := ty, pos := pos, after := after, guard := g } :: rest) env st acc K) : LexP P nt ops ({ dst := d, op := .makeSlice t x y, type := ty, pos := pos, after := after, guard := g } :: rest) env st acc K := H
theorem zi0 {xs : Array Operand} {ts : Array TypeId} (H : LexP P nt ops ({ dst := d, op := .call { callee := .builtin .len, args := xs, argTypes := ts }, type := ty, pos := pos, after := after, guard := g } :: rest) env st acc K) : LexP P nt ops ({ dst := d, op := .call { callee := .builtin .len, args := xs, argTypes := ts }, type := ty, pos := pos, after := after, guard := g } :: rest) env st acc K := H
theorem zD {xs : Array Operand} {ts : Array TypeId} (H : LexP P nt ops ({ dst := d, op := .call { callee := .builtin .append, args := xs, argTypes := ts }, type := ty, pos := pos, after := after, guard := g } :: rest) env st acc K) : LexP P nt ops ({ dst := d, op := .call { callee := .builtin .append, args := xs, argTypes := ts }, type := ty, pos := pos, after := after, guard := g } :: rest) env st acc K := H
theorem ziW {xs : Array Operand} {ts : Array TypeId} (H : LexP P nt ops ({ dst := d, op := .call { callee := .builtin .min, args := xs, argTypes := ts }, type := ty, pos := pos, after := after, guard := g } :: rest) env st acc K) : LexP P nt ops ({ dst := d, op := .call { callee := .builtin .min, args := xs, argTypes := ts }, type := ty, pos := pos, after := after, guard := g } :: rest) env st acc K := H
theorem ziZ {xs : Array Operand} {ts : Array TypeId} (H : LexP P nt ops ({ dst := d, op := .call { callee := .builtin .max, args := xs, argTypes := ts }, type := ty, pos := pos, after := after, guard := g } :: rest) env st acc K) : LexP P nt ops ({ dst := d, op := .call { callee := .builtin .max, args := xs, argTypes := ts }, type := ty, pos := pos, after := after, guard := g } :: rest) env st acc K := H
theorem zg {f : Operand} {xs : Array Operand} {ts : Array TypeId} (H : LexP P nt ops ({ dst := d, op := .call { callee := .value f, args := xs, argTypes := ts }, type := ty, pos := pos, after := after, guard := g } :: rest) env st acc K) : LexP P nt ops ({ dst := d, op := .call { callee := .value f, args := xs, argTypes := ts }, type := ty, pos := pos, after := after, guard := g } :: rest) env st acc K := H
theorem zh8 {o : Op} {j : Nat} {b : Bool} (H : LexP P nt ops ({ dst := d, op := o, type := ty, pos := pos, after := after, guard := some (j, b) } :: rest) env st acc K) : LexP P nt ops ({ dst := d, op := o, type := ty, pos := pos, after := after, guard := some (j, b) } :: rest) env st acc K := H
end
end Go.AL
namespace Go.AL
open Go Go.RowKit Go.ChangeShapes Go.WideShapes Go.ChangeMaps
def wR (w : World) : Heap := fun b => w.heap[b]?
theorem zbY {w : World} {b o : Nat} : hcell (wR w) b o = w.cell? ⟨b, o, none⟩ := by
  unfold hcell wR World.cell?
  cases w.heap[b]? with
  | none => rfl
  | some x => cases x <;> simp
theorem zhx (w : World) (m : zI) : Sim (wR w) m (StL.get []) w :=
  ⟨fun b o h => h, fun id row h => by simp [StL.get] at h, fun id row b h => by simp [StL.get] at h, fun id id' r r' b h => by simp [StL.get] at h⟩
theorem Spec.calls {P : Program} {f : FuncId} {args : List AV} {b : Bool} (S : Spec P f args [] (.t (.bool b)) []) {vs : Array Value} {w : World} (hn : vs.size = args.length) (hr : RepAs (wR w) (fun _ => undef) (fun j => vs[j]?) 0 args) :
    Calls P f vs w fun e w' => e = .returned (.bool b) ∧ Below w.heap.size w w' := by
  refine (S.run _ _ vs w (zhx w _) hn hr).mono ?_
  rintro e w' ⟨v, h', m', rfl, hv, hs, hf⟩
  refine ⟨by simp only [RepA, RepT] at hv; rw [hv], hf.foot.os, hf.foot.tape, hf.foot.output, hf.foot.size, fun k hk => (hf.foot.keep k hk (fun id row h => by simp [StL.get] at h)).1⟩
section
variable {H : Type} {enc : TypeId × Value → H} {P : Program}
theorem v8 (hl : laidOutB P = true) {W W' : World} (hb : Below W.heap.size W W') {sp : Nat → Bool} : ∀ {ts : List TypeId} {vs : List Value} {ds : List (DataW H)} {ps : List MemPlace},
    (∀ t ∈ ts, P.readableRec t = true ∧ t < P.types.size) → DataW.TrodAll enc P W 0 (fun _ => true) true ts vs ds ps → (∀ p ∈ ps, p.block < W.heap.size ∧ sp p.block = true) → DataW.TrodAll enc P W' 0 sp true ts vs ds ps
  | [], _, _, _, _, h, _ => by
    obtain ⟨rfl, rfl, rfl⟩ := trodAll_nil h
    exact trodAll_mk0
  | t :: ts, _, _, _, ht, h, hp => by
    obtain ⟨v, vs1, d, ds1, a, b, rfl, rfl, rfl, h1, h2⟩ := trodAll_cons h
    obtain ⟨r1, r2⟩ := ht t (List.mem_cons_self ..)
    exact trodAll_cons_mk (WideElems.Trod_stays hl r1 r2 h1 (fun x hx => hb.same (hp x (List.mem_append.2 (.inl hx))).1) (fun x hx => (hp x (List.mem_append.2 (.inl hx))).2))
      (v8 hl hb (fun t' h' => ht t' (List.mem_cons_of_mem _ h')) h2 (fun x hx => hp x (List.mem_append.2 (.inr hx))))
theorem zgH {f : Func} {s : ChangeSpec} {apart fresh handsOn again : Bool} {W W' : World} {args : Array Value} {ds gs : List (DataW H)} {before : List MemPlace} {tb : TypeId}
    (hl : laidOutB P = true) (hv : s.vars = []) (hW : DataW.Whole enc P f.params.toList s.vars apart W args.toList ds gs before)
    (hts : ∀ t ∈ f.params.toList, P.readableRec t = true ∧ t < P.types.size)
    (hr : f.resultTypes = #[tb]) (hu : P.underlying tb = some .bool)
    (hfn : ∀ ds : List (DataW H), ds.length = f.params.toList.length → s.fn H ds = { results := [.lit (.bool true)], args := ds })
    (hb : Below W.heap.size W W') : s.post enc P f apart fresh handsOn again W args (.bool true) W' := by
  have hW' := hW
  obtain ⟨p, q, hA, hV, rfl, hfz, hnd⟩ := hW
  have hV' := hV
  rw [hv] at hV
  obtain ⟨rfl, rfl⟩ := trodVars_none hV
  have hlt := hW'.lt
  have hlen : ds.length = f.params.toList.length := by
    have : ∀ {ts : List TypeId} {vs : List Value} {ds : List (DataW H)} {ps : List MemPlace}, DataW.TrodAll enc P W 0 (fun _ => true) true ts vs ds ps → ds.length = ts.length := by
      intro ts
      induction ts with
      | nil => intro vs ds ps h; obtain ⟨_, rfl, _⟩ := trodAll_nil h; rfl
      | cons t ts ih =>
        intro vs ds ps h
        obtain ⟨v, vs1, d, ds1, a, b, rfl, rfl, rfl, h1, h2⟩ := trodAll_cons h
        simp [ih h2]
    exact this hA
  have e := hfn ds hlen
  have hz : ∀ b off, MemPlace.cell b off ∈ p → W'.frozen? ⟨b, off, none⟩ = false := fun b off hp => by
    rw [hb.frozen (p := ⟨b, off, none⟩) (by simpa [MemPlace.block] using hlt (.cell b off) (by simpa using hp))]
    exact hfz b off (by simpa using hp)
  have hargs : ∀ sp : Nat → Bool, (∀ x ∈ p, sp x.block = true) → DataW.TrodAll enc P W' 0 sp true f.params.toList args.toList ds p := fun sp hsp =>
    v8 hl hb hts hA (fun x hx => ⟨hlt x (by simpa using hx), hsp x hx⟩)
  have hvars : ∀ sp : Nat → Bool, DataW.TrodVars enc P W' sp s.vars ([] : List (DataW H)) [] := fun sp => by rw [hv]; rfl
  have hres : ∀ (b : Nat) (sp : Nat → Bool) (hd : Bool), DataW.TrodAll enc P W' b sp hd f.resultTypes.toList ((Value.bool true).resultList f.resultTypes.size) [DataW.lit (.bool true)] [] := fun b sp hd => by
    rw [hr]; exact trodAll_cons_mk (shut_bool hu _) trodAll_mk0
  refine ⟨ds, [], p ++ [], [], p, [], hW', ?_, ?_, ?_, World.keptBut_mono (fun x hx => ⟨hx, ?_⟩) (hb.frame _), fun _ => ⟨?_, [DataW.lit (.bool true)] ++ ds, [], ([] ++ p) ++ [], ⟨[] ++ p, [], ?_, hvars _, rfl, ?_, ?_⟩, ?_⟩⟩
  · simp only [List.append_nil]; rw [e]; exact hres _ _ _
  · simp only [List.append_nil]; rw [e]; exact hargs _ (fun x hx => by simpa using hlt x (by simpa using hx))
  · simp only [List.append_nil]; rw [e]; exact hvars _
  · simp at hx; exact .inr (.inl hx)
  · exact ok_one (by rw [hr]) rfl (okWide_bool_mk hu _)
  · exact trodAll_append (hargs _ (fun _ _ => rfl)) (hres _ _ _)
  · intro b off hp; exact hz b off (by simpa using hp)
  · intro ha; simpa using hnd ha
  · intro x hx _; simpa using hx
end
theorem vf {H : Type} {P : Program} {t : TypeId} {d : DataW H} : ∀ {es : List (DataW H)}, d ∈ es → ∀ n ∈ DataW.weights P t d, n ∈ DataW.weightsAll P t es
  | x :: es, h, n, hn => by
    simp only [DataW.weightsAll, List.mem_append]
    rcases List.mem_cons.1 h with rfl | h
    · exact .inl hn
    · exact .inr (vf h n hn)
structure WtOK (P : Program) {H : Type} (mul : TypeId → Nat) (wt : TypeId → DataW H → List Nat) : Prop where
  str : ∀ t b, ∃ n ∈ wt t (.lit (.string b)), b.length ≤ n
  len : ∀ t e es sp, P.underlying t = some (.slice e) → ∃ n ∈ wt t (.slice es sp), es.length * mul e ≤ n
  elem : ∀ t e es sp x, P.underlying t = some (.slice e) → x ∈ es → ∀ n ∈ wt e x, ∃ n' ∈ wt t (.slice es sp), n ≤ n'
  part : ∀ (t : TypeId) (fs : Array Field) (ps : List (DataW H)) (i : Nat) (f : Field) (p : DataW H), P.underlying t = some (.struct fs) → fs[i]? = some f → ps[i]? = some p → ∀ n ∈ wt f.type p, ∃ n' ∈ wt t (.agg ps), n ≤ n'
theorem y8 (P : Program) (H : Type) : WtOK P (H := H) P.bytesOf (DataW.weights P) where
  str t b := ⟨b.length, by simp [DataW.weights], Nat.le_refl _⟩
  len t e es sp ht := ⟨(es.length + sp.length) * P.bytesOf e, by simp [DataW.weights, ht], Nat.mul_le_mul_right _ (Nat.le_add_right _ _)⟩
  elem t e es sp x ht hx n hn := ⟨n, by simp only [DataW.weights, ht, List.mem_cons, List.mem_append]; exact .inr (.inl (vf hx n hn)), Nat.le_refl _⟩
  part t fs ps i f p ht hf hp n hn := ⟨n, by simp only [DataW.weights, ht]; exact DataW.weights_mem_each (j := i) (by simp [hf]) hp n hn, Nat.le_refl _⟩
structure Rd (P : Program) (t : TypeId) (n : Nat) (X : Type) where
  toT : X → T
  ok : (TypeId → Nat) → Nat → X → Prop
  len : ∀ x, (toT x).cells.length = n
  opens : ∀ {H : Type} {enc : TypeId × Value → H} {w : World} {base : Nat} {spare : Nat → Bool} {held : Bool} {fuel : Nat} {cs : List Value} {d : DataW H × List MemPlace}, DataW.trod enc P w base spare held fuel t cs = some d → ∀ {mul : TypeId → Nat} {wt : TypeId → DataW H → List Nat} {B : Nat}, WtOK P mul wt → (∀ n ∈ wt t d.1, n ≤ B) →
    ∃ x, ok mul B x ∧ cs.length = n ∧ ∀ (g : Nat → Option Value) (o : Nat), (∀ i u, cs[i]? = some u → g (o + i) = some u) → RepL (wR w) g o (toT x).cells
  one : ∀ {H : Type} {enc : TypeId × Value → H} {w : World} {base : Nat} {spare : Nat → Bool} {held : Bool} {v : Value} {d : DataW H} {ps : List MemPlace} {b0 : Nat}, DataW.Trod enc P w base spare held t v d ps → Value.okWide P w .any b0 t v → ∀ {mul : TypeId → Nat} {wt : TypeId → DataW H → List Nat} {B : Nat}, WtOK P mul wt → (∀ n ∈ wt t d, n ≤ B) →
    ∃ x, ok mul B x ∧ RepT (wR w) v (toT x)
section
variable {P : Program}
def Rd.int {t : TypeId} {k : IntKind} (ht : P.underlying t = some (.int k)) : Rd P t 1 Int where
  toT n := .int k n
  ok _ _ n := (Lit.int k n).wf = true
  len _ := rfl
  opens h _ _ _ _ _ := by
    obtain ⟨n, rfl, rfl, hw⟩ := DataW.trod_int ht h
    refine ⟨n, hw, rfl, fun g o hg => ?_⟩
    simp only [T.cells, RepL, and_true]
    exact ⟨_, by simpa using hg 0 _ rfl, rfl, rfl⟩
  one hd hv _ _ _ _ _ := by
    obtain ⟨n, rfl, _, _, hw⟩ := open_int ht hv hd
    exact ⟨n, hw, rfl⟩
def Rd.bool {t : TypeId} (ht : P.underlying t = some .bool) : Rd P t 1 Bool where
  toT b := .bool b
  ok _ _ b := True
  len _ := rfl
  opens h _ _ _ _ _ := by
    obtain ⟨n, rfl, rfl⟩ := DataW.trod_bool ht h
    refine ⟨n, trivial, rfl, fun g o hg => ?_⟩
    simp only [T.cells, RepL, and_true]
    exact ⟨_, by simpa using hg 0 _ rfl, rfl, rfl⟩
  one hd hv _ _ _ _ _ := by
    obtain ⟨n, rfl, _, _⟩ := open_bool ht hv hd
    exact ⟨n, trivial, rfl⟩
def Rd.str {t : TypeId} (ht : P.underlying t = some .string) : Rd P t 1 ByteArray where
  toT s := .str s
  ok _ B s := s.size ≤ maxLen ∧ s.size ≤ B
  len _ := rfl
  opens h mul wt B hwt hbk := by
    obtain ⟨n, rfl, rfl, hw⟩ := DataW.trod_string ht h
    refine ⟨n, ⟨hw, by obtain ⟨q, h1, h2⟩ := hwt.str t n.data.toList; have := hbk q h1; rw [Array.length_toList] at h2; exact Nat.le_trans h2 this⟩, rfl, fun g o hg => ?_⟩
    simp only [T.cells, RepL, and_true]
    exact ⟨_, by simpa using hg 0 _ rfl, rfl, rfl⟩
  one hd hv mul wt B hwt hbk := by
    obtain ⟨n, rfl, rfl, _, hw⟩ := open_string ht hv hd
    exact ⟨n, ⟨hw, by obtain ⟨q, h1, h2⟩ := hwt.str t n.data.toList; have := hbk q h1; rw [Array.length_toList] at h2; exact Nat.le_trans h2 this⟩, rfl⟩
def zhb {X : Type} (n : Nat) (f : X → T) : Option (List X) → T
  | none => .nilsl
  | some l => .sl n (l.map f)
theorem zdS {h : Heap} {g : Nat → Option Value} {sz : Nat} : ∀ {es : List T} {o : Nat}, (∀ i e, es[i]? = some e → e.cells.length = sz ∧ RepL h g (o + i * sz) e.cells) → RepEs h g o sz es
  | [], _, _ => by simp [RepEs]
  | e :: es, o, H => by
    rw [zY]
    refine ⟨by simpa using H 0 e rfl, zdS fun i e' he => ?_⟩
    have := H (i + 1) e' (by simpa using he)
    rw [Nat.add_mul, Nat.one_mul] at this
    rw [show o + sz + i * sz = o + (i * sz + sz) from by omega]; exact this
theorem zdl {t e : TypeId} {n : Nat} {X : Type} (ht : P.underlying t = some (.slice e)) (hc : P.cellsOf e = n) (hn : 0 < n) (toT : X → T) (okX : X → Prop) (hlenT : ∀ x, (toT x).cells.length = n)
    {H : Type} {enc : TypeId × Value → H} {w : World} {base : Nat} {spare : Nat → Bool} {held : Bool} {fuel : Nat} {cs : List Value} {d : DataW H × List MemPlace} (h : DataW.trod enc P w base spare held fuel t cs = some d) {mul : TypeId → Nat} {wt : TypeId → DataW H → List Nat} {B : Nat} (hwt : WtOK P mul wt)
    (hop : ∀ (fuel' : Nat), fuel' < fuel → ∀ (cs : List Value) (d : DataW H × List MemPlace), DataW.trod enc P w base spare held fuel' e cs = some d → (∀ n ∈ wt e d.1, n ≤ B) → ∃ x, okX x ∧ cs.length = n ∧ ∀ (g : Nat → Option Value) (o : Nat), (∀ i u, cs[i]? = some u → g (o + i) = some u) → RepL (wR w) g o (toT x).cells) (hbk : ∀ n ∈ wt t d.1, n ≤ B) :
    ∃ v, cs = [v] ∧ v.oneCell' = true ∧ ∃ x : Option (List X), (∀ l, x = some l → l.length ≤ maxLen ∧ l.length * mul e ≤ B ∧ ∀ y ∈ l, okX y) ∧ RepT (wR w) v (zhb n toT x) := by
  rcases DataW.trod_slice ht h with ⟨rfl, _⟩ | ⟨a, len, cap, elems, rest, m, hfu, rfl, rfl, hb, hl, hm, hlen, hel, hsp, hns⟩
  · exact ⟨_, rfl, rfl, none, ⟨(fun l h => by cases h), rfl⟩⟩
  · rw [hc] at hel
    have hKe : ∀ x ∈ elems, ∀ n ∈ wt e x.1, n ≤ B := fun x hx n hn => by
      obtain ⟨q, h1, h2⟩ := hwt.elem t e (elems.map (·.1)) (rest.map (·.1)) x.1 ht (List.mem_map_of_mem (f := (·.1)) hx) n hn
      exact Nat.le_trans h2 (hbk q h1)
    have hKl : elems.length * mul e ≤ B := by
      obtain ⟨q, h1, h2⟩ := hwt.len t e (elems.map (·.1)) (rest.map (·.1)) ht
      rw [List.length_map] at h2
      exact Nat.le_trans h2 (hbk q h1)
    have key : ∀ i, i < len → ∃ x, okX x ∧ ∃ cs, w.cells? base (a.add (i * n)) n = some cs ∧ cs.length = n ∧ ∀ (g : Nat → Option Value) (o : Nat), (∀ i u, cs[i]? = some u → g (o + i) = some u) → RepL (wR w) g o (toT x).cells := fun i hi => by
      have h1 := hel i hi
      have h2 : elems[i]? = some (elems[i]'(by omega)) := List.getElem?_eq_getElem (by omega)
      rw [h2] at h1
      cases hcs : w.cells? base (a.add (i * n)) n with
      | none => rw [hcs] at h1; simp at h1
      | some cs =>
        rw [hcs] at h1
        obtain ⟨x, k1, k2, k3⟩ := hop m (by omega) _ _ (by simpa using h1) (hKe _ (List.getElem_mem _))
        exact ⟨x, k1, cs, rfl, k2, k3⟩
    have cellAt : ∀ i cs, w.cells? base (a.add (i * n)) n = some cs → cs.length = n → ∀ j u, cs[j]? = some u → w.cell? (a.add (i * n + j)) = some u := fun i cs hcs hcl j u hu => by
      unfold World.cells? at hcs
      split at hcs
      · have hj : j < n := by
          have := (List.getElem?_eq_some_iff.1 hu).1
          omega
        have := mapM_some_get hcs j j (by simp [hj])
        rw [hu] at this
        have e : (a.add (i * n)).add j = a.add (i * n + j) := by by_cases hj0 : j = 0 <;> by_cases hi0 : i * n = 0 <;> simp [Addr.add, hj0, hi0, Nat.add_assoc]
        rw [← e]; exact this
      · cases hcs
    have all : ∀ k, k ≤ len → ∃ xs : List X, xs.length = k ∧ (∀ y ∈ xs, okX y) ∧ ∀ i y, xs[i]? = some y → ∃ cs, w.cells? base (a.add (i * n)) n = some cs ∧ cs.length = n ∧ ∀ (g : Nat → Option Value) (o : Nat), (∀ i u, cs[i]? = some u → g (o + i) = some u) → RepL (wR w) g o (toT y).cells := fun k => by
      induction k with
      | zero => exact fun _ => ⟨[], rfl, by simp, by simp⟩
      | succ k ih =>
        intro hk
        obtain ⟨xs, h1, h2, h3⟩ := ih (by omega)
        obtain ⟨x, k1, cs, k2, k3, k4⟩ := key k (by omega)
        refine ⟨xs ++ [x], by simp [h1], ?_, ?_⟩
        · intro y hy
          rcases List.mem_append.1 hy with hy | hy
          · exact h2 y hy
          · simp at hy; subst hy; exact k1
        · intro i y hy
          by_cases hi : i < k
          · rw [List.getElem?_append_left (by omega)] at hy; exact h3 i y hy
          · rw [List.getElem?_append_right (by omega)] at hy
            have : i = k := by
              have := (List.getElem?_eq_some_iff.1 hy).1
              simp at this; omega
            subst this
            simp [h1] at hy
            subst hy
            exact ⟨cs, k2, k3, k4⟩
    obtain ⟨xs, h1, h2, h3⟩ := all len (Nat.le_refl _)
    refine ⟨_, rfl, rfl, some xs, ?_, ?_⟩
    · intro l hl'; cases hl'; exact ⟨by omega, by rw [h1, ← hlen]; exact hKl, h2⟩
    · simp only [zhb, RepT]
      refine ⟨some a, len, cap, rfl, by simp [h1], hl, ⟨hm, fun h => by cases h⟩, fun hne => ?_⟩
      have hpos : 0 < len := by omega
      obtain ⟨x, k1, cs, k2, k3, k4⟩ := key 0 hpos
      have hsp : a.spot = none := by
        have : cs[0]? = some (cs[0]'(by omega)) := List.getElem?_eq_getElem (by omega)
        have := cellAt 0 cs k2 k3 0 _ this
        simpa [Addr.add] using World.cell?_spot this
      obtain ⟨b, off, spot⟩ := a
      simp only at hsp
      subst hsp
      refine ⟨b, off, rfl, zdS fun i e he => ?_⟩
      rw [List.getElem?_map, Option.map_eq_some_iff] at he
      obtain ⟨y, hy, rfl⟩ := he
      obtain ⟨cs, k2, k3, k4⟩ := h3 i y hy
      refine ⟨hlenT y, k4 _ _ fun j u hu => ?_⟩
      have := cellAt i cs k2 k3 j u hu
      rw [add_plain] at this
      rw [zbY]
      rw [Nat.add_assoc]; exact this
theorem Rd.slice_open {t e : TypeId} {n : Nat} {X : Type} (ht : P.underlying t = some (.slice e)) (hc : P.cellsOf e = n) (hn : 0 < n) (R : Rd P e n X)
    {H : Type} {enc : TypeId × Value → H} {w : World} {base : Nat} {spare : Nat → Bool} {held : Bool} {fuel : Nat} {cs : List Value} {d : DataW H × List MemPlace} (h : DataW.trod enc P w base spare held fuel t cs = some d) {mul : TypeId → Nat} {wt : TypeId → DataW H → List Nat} {B : Nat} (hwt : WtOK P mul wt) (hbk : ∀ n ∈ wt t d.1, n ≤ B) :
    ∃ v, cs = [v] ∧ v.oneCell' = true ∧ ∃ x : Option (List X), (∀ l, x = some l → l.length ≤ maxLen ∧ l.length * mul e ≤ B ∧ ∀ y ∈ l, R.ok mul B y) ∧ RepT (wR w) v (zhb n R.toT x) :=
  zdl ht hc hn R.toT (R.ok mul B) R.len h hwt (fun fuel' _ cs d hd hB => R.opens hd hwt hB) hbk
def Rd.slice {t e : TypeId} {n : Nat} {X : Type} (ht : P.underlying t = some (.slice e)) (hc : P.cellsOf e = n) (hn : 0 < n) (R : Rd P e n X) : Rd P t 1 (Option (List X)) where
  toT := zhb n R.toT
  ok mul B x := ∀ l, x = some l → l.length ≤ maxLen ∧ l.length * mul e ≤ B ∧ ∀ y ∈ l, R.ok mul B y
  len x := by cases x <;> rfl
  opens h mul wt B hwt hbk := by
    obtain ⟨v, rfl, h1, x, hx, hr⟩ := Rd.slice_open ht hc hn R h hwt hbk
    refine ⟨x, hx, rfl, fun g o hg => ?_⟩
    have e : (zhb n R.toT x).cells = [zhb n R.toT x] := by cases x <;> rfl
    rw [e]
    simp only [RepL, and_true]
    exact ⟨v, by simpa using hg 0 _ rfl, h1, hr⟩
  one hd hv mul wt B hwt hbk := by
    obtain ⟨fuel, hf⟩ := hd
    obtain ⟨a, len, cap, rfl⟩ := okWide_slice ht hv
    obtain ⟨v, e, h1, x, hx, hr⟩ := Rd.slice_open ht hc hn R hf hwt hbk
    simp [Value.cells] at e
    subst e
    exact ⟨x, hx, hr⟩
theorem zgm {X : Type} {n : Nat} {f : X → T} {h : Heap} {v : Value} {x : Option (List X)} (H : RepT h v (zhb n f x)) : RepT h v (.sl n ((x.getD []).map f)) := by
  cases x with
  | some l => exact H
  | none =>
    simp only [zhb, RepT] at H
    simp only [RepT]
    exact ⟨none, 0, 0, H, by simp, Nat.le_refl _, ⟨Nat.zero_le _, fun _ => rfl⟩, fun h => absurd rfl h⟩
def Rd.list {t e : TypeId} {n : Nat} {X : Type} (ht : P.underlying t = some (.slice e)) (hc : P.cellsOf e = n) (hn : 0 < n) (R : Rd P e n X) : Rd P t 1 (List X) where
  toT l := .sl n (l.map R.toT)
  ok mul B l := l.length ≤ maxLen ∧ l.length * mul e ≤ B ∧ ∀ y ∈ l, R.ok mul B y
  len x := rfl
  opens h mul wt B hwt hbk := by
    obtain ⟨v, rfl, h1, x, hx, hr⟩ := Rd.slice_open ht hc hn R h hwt hbk
    refine ⟨x.getD [], ?_, rfl, fun g o hg => ?_⟩
    · cases x with
      | none => exact ⟨Nat.zero_le _, by simp, by simp⟩
      | some l => exact hx l rfl
    · simp only [T.cells, RepL, and_true]
      exact ⟨v, by simpa using hg 0 _ rfl, h1, zgm hr⟩
  one hd hv mul wt B hwt hbk := by
    obtain ⟨x, hx, hr⟩ := (Rd.slice ht hc hn R).one hd hv hwt hbk
    refine ⟨x.getD [], ?_, zgm hr⟩
    cases x with
    | none => exact ⟨Nat.zero_le _, by simp⟩
    | some l => exact hx l rfl
end
theorem zgi {h : Heap} {m : zI} {g : Nat → Option Value} {o : Nat} : RepAs h m g o [] := trivial
theorem y7 {h : Heap} {m : zI} {g : Nat → Option Value} {o : Nat} {v : Value} {x : T} {xs : List AV} (e : g o = some v) (H : RepT h v x) (H2 : RepAs h m g (o + 1) xs) : RepAs h m g o (.t x :: xs) := ⟨⟨v, e, H⟩, H2⟩
end Go.AL
set_option linter.unusedSimpArgs false
namespace Go.AL
open Go Go.RowKit
def zcJ : Nat → List (Nat × AV) → Option (List T)
  | _, [] => some []
  | k, (i, .t e) :: ps => match i == k, zcJ (k + 1) ps with
    | true, some l => some (e :: l)
    | _, _ => none
  | _, _ => none
theorem j8 {ps : List (Nat × AV)} {k : Nat} {es : List T} (h : zcJ k ps = some es) : ps = (es.zipIdx k).map fun e => (e.2, AV.t e.1) := by
  induction ps generalizing k es with
  | nil => simp [zcJ] at h; subst h; rfl
  | cons p ps ih =>
    obtain ⟨i, x⟩ := p
    cases x with
    | t e =>
      simp only [zcJ] at h
      split at h
      · rename_i l hi h1
        cases h
        simp at hi
        subst hi
        simp [ih h1]
      · cases h
    | _ => simp [zcJ] at h
theorem ze1 {α : Type} (A B C : List α) (off : Nat) (X : List α) (h : A.length = off) (h2 : X.length = B.length) : yb (A ++ B ++ C) off X = A ++ X ++ C := by
  subst h
  unfold yb
  rw [h2, ← List.length_append, List.drop_left, List.append_assoc A B C, List.take_left]
theorem zcr (e : T) : (AV.t e).cells = e.cells.map AV.t := by cases e <;> rfl
theorem zaQ {sz : Nat} : ∀ (es : List T) (A : List AV) (k : Nat), A.length = k * sz → (∀ e ∈ es, e.cells.length = sz) →
    jh (A ++ List.replicate (es.length * sz) AV.junk) ((es.zipIdx k).map fun e => (e.2 * sz, AV.t e.1)) = A ++ (es.flatMap T.cells).map AV.t
  | [], A, k, hA, _ => by simp [jh]
  | e :: es, A, k, hA, he => by
    have h1 := he e (List.mem_cons_self ..)
    simp only [List.zipIdx_cons, List.map_cons, jh]
    have e1 : List.replicate ((e :: es).length * sz) AV.junk = List.replicate sz AV.junk ++ List.replicate (es.length * sz) AV.junk := by
      rw [List.length_cons, Nat.add_mul, Nat.one_mul, Nat.add_comm, List.replicate_append_replicate]
    rw [e1, ← List.append_assoc, ze1 A _ _ _ _ hA (by rw [zcr]; simp [h1]), zcr]
    rw [zaQ es (A ++ e.cells.map AV.t) (k + 1) (by simp [hA, h1, Nat.add_mul]) (fun x hx => he x (List.mem_cons_of_mem _ hx))]
    simp
theorem jz {ρ : Operand → AV} {sz n : Nat} : ∀ (ps : List (Nat × Operand)) (es : List T) (k : Nat), ps.map (fun p => (p.1, ρ p.2)) = (es.zipIdx k).map (fun e => (e.2, AV.t e.1)) → (∀ e ∈ es, e.cells.length = sz) → (k + es.length) * sz ≤ n →
    PartsOK (fun i => some (i * sz, sz)) ρ n ps ((es.zipIdx k).map fun e => (e.2 * sz, AV.t e.1))
  | [], [], _, _, _, _ => by simp [PartsOK]
  | [], e :: es, _, h, _, _ => by simp at h
  | p :: ps, [], _, h, _, _ => by simp at h
  | (i, x) :: ps, e :: es, k, h, he, hn => by
    simp only [List.map_cons, List.zipIdx_cons, List.cons.injEq, Prod.mk.injEq] at h
    obtain ⟨⟨rfl, h2⟩, h3⟩ := h
    have h1 := he e (List.mem_cons_self ..)
    simp only [List.zipIdx_cons, List.map_cons, PartsOK]
    have hl : (AV.t e).cells.length = sz := by rw [zcr]; simp [h1]
    have e1 : i * sz + sz ≤ n := Nat.le_trans (by rw [List.length_cons, Nat.add_mul, Nat.add_mul]; omega) hn
    refine ⟨⟨h2.symm, rfl, by rw [hl], by rw [hl]; exact e1⟩, jz ps es (i + 1) h3 (fun x hx => he x (List.mem_cons_of_mem _ hx)) ?_⟩
    rw [List.length_cons] at hn
    rw [show i + 1 + es.length = i + (es.length + 1) from by omega]; exact hn
section
variable {P : Program} {nt : Nat} {ops : Array Oper} {o : Oper} {rest : List Oper} {env : EnvL} {st : StO} {acc : List SD} {K : EnvL → StO → List SD → Prop} {d : Nat}
theorem vt {R R' : StL} {N W : List Id} {r : AV} {st' : StO} (hT : OpT P o (zm env.get) (StL.get R) r (StL.get R') N) (hd : o.dst = some d) (hn : d < nt) (hw : wS ops o env.get) (hsub : ∀ x ∈ R, StO.get st x.1 = some x.2) (hdom : ∀ id ∈ R'.ids, id ∈ R.ids ∨ id ∈ N) (hsame : ∀ id ∈ R.ids, id ∉ W → StL.get R' id = StL.get R id) (hloc : ∀ id ∈ N, id.isLoc = true) (hfr : yv N env st = true)
    (he : StO.get st' = StO.get (zcK R R' N st)) (H : LexP P nt ops rest ((d, r) :: env) st' (⟨true, R, r, R', W, N⟩ :: acc) K) : LexP P nt ops (o :: rest) env st acc K :=
  LexP.ex ⟨⟨true, R, r, R', W, N⟩, _, _, ⟨(fun t ht => by rw [hd] at ht; cases ht; exact hn), fun _ => ⟨hw, hT⟩, (fun h => by cases h), fun id row hr => hsub _ (StL.get_mem hr), ⟨hdom, hsame, hloc⟩, yE hfr⟩, (by rw [xG]; unfold ye; rw [hd]), (by rw [he, kU]; rfl), H⟩
theorem za3 {t elem : TypeId} {len : Nat} {parts : Array (Nat × Operand)} {sz bytes : Nat} {z : Value} {es : List T} (ho : o.op = .buildSlice t len parts) [tu : TyU P t (.slice elem)] [ti : TyI P elem sz bytes z]
    (hes : zcJ 0 (parts.toList.map (fun p => (p.1, zm env.get p.2))) = some es) (hside : (decide (es.length = len) && (es.all (fun e => decide (e.cells.length = sz)) && (decide (z.cells.size = sz) && (decide (0 < sz) && (z.cells.toList.all Value.oneCell' && decide (len * sz ≤ 16777216)))))) = true)
    (hd : o.dst = some d) (hn : (decide (d < nt)) = true) (hg : zl ops o env = true) (hfr : yv [.loc d] env st = true)
    (H : LexP P nt ops rest ((d, .row (.loc d)) :: env) ((.loc d, some (.slt elem sz es)) :: st) (⟨true, [], .row (.loc d), [(.loc d, .slt elem sz es)], [], [.loc d]⟩ :: acc) K) : LexP P nt ops (o :: rest) env st acc K := by
  simp only [Bool.and_eq_true, decide_eq_true_eq, List.all_eq_true] at hside
  obtain ⟨s1, s2, s3, s4, s5, s6⟩ := hside
  have e := j8 hes
  subst s1
  have f := zaQ (sz := sz) es [] 0 (by simp) s2
  simp only [List.nil_append] at f
  exact qP (vG (.loc d) ho tu ti s3 s4 s5 s6 (jz _ _ 0 e s2 (by simp)) f rfl s2) hd hn hg rfl hfr H
theorem yo {t elem : TypeId} {l c : Operand} {k k' : IntKind} {n cap : Int} {sz bytes : Nat} {z : Value} {zT : T} (ho : o.op = .makeSlice t l c) (hl : zm env.get l = .t (.int k n)) (hc : zm env.get c = .t (.int k' cap)) [tu : TyU P t (.slice elem)] [ti : TyI P elem sz bytes z]
    (hside : (decide (z.cells.size = sz) && (decide (0 < sz) && z.cells.toList.all Value.oneCell')) = true) (hzT : z.cells.toList.map xB = zT.cells.map AV.t)
    (hd : o.dst = some d) (hn : (decide (d < nt)) = true) (hg : zl ops o env = true) (hfr : yv [.loc d] env st = true)
    (h0 : 0 ≤ n) (h1 : n ≤ cap) (h2 : cap * (bytes : Int) ≤ 281474976710656) (hcap : cap ≤ 9223372036854775807)
    (H : LexP P nt ops rest ((d, .row (.loc d)) :: env) ((.loc d, some (.slt elem sz (List.replicate n.toNat zT))) :: st) (⟨true, [], .row (.loc d), [(.loc d, .slt elem sz (List.replicate n.toNat zT))], [], [.loc d]⟩ :: acc) K) : LexP P nt ops (o :: rest) env st acc K := by
  simp only [Bool.and_eq_true, decide_eq_true_eq, List.all_eq_true] at hside
  exact qP (zaG (.loc d) ho hl hc tu ti hside.1 hside.2.1 hside.2.2 hzT h0 h1 h2 hcap) hd hn hg rfl hfr H
theorem qZ {s x : Operand} {t t2 elem e2 : TypeId} {id : Id} {sz bytes : Nat} {z : Value} {xs ys : List T} (ho : o.op = .call { callee := .builtin .append, args := #[s, x], argTypes := #[t, t2] }) (hs1 : zm env.get s = .row id) (hx : zm env.get x = .t (.sl sz ys)) [tu : TyU P t (.slice elem)] [ti : TyI P elem sz bytes z] [tu2 : TyU P t2 (.slice e2)]
    (hst : StO.get st id = some (.slt elem sz xs)) (hside : (decide (z.cells.size = sz) && (decide (0 < sz))) = true)
    (hd : o.dst = some d) (hn : (decide (d < nt)) = true) (hg : zl ops o env = true) (hfr : yv [.loc d] env st = true)
    (hb : (xs.length + ys.length) * bytes ≤ 140737488355328) (hm : xs.length + ys.length ≤ 9223372036854775807)
    (H : LexP P nt ops rest ((d, .row (.loc d)) :: env) ((.loc d, some (.slt elem sz (xs ++ ys))) :: (id, none) :: st) (⟨true, [(id, .slt elem sz xs)], .row (.loc d), [(.loc d, .slt elem sz (xs ++ ys))], [id], [.loc d]⟩ :: acc) K) : LexP P nt ops (o :: rest) env st acc K := by
  simp only [Bool.and_eq_true, decide_eq_true_eq] at hside
  have hne : Id.loc d ≠ id := fun e => by
    have := (yE hfr).2 id _ hst
    rw [e] at this
    simp at this
  refine vt (R := [(id, .slt elem sz xs)]) (R' := [(.loc d, .slt elem sz (xs ++ ys))]) (N := [.loc d]) (W := [id]) (r := .row (.loc d)) ?_ hd (of_decide_eq_true hn) (yc hg) ?_ ?_ ?_ ?_ hfr ?_ H
  · exact wc (R2 := []) (.loc d) ho hs1 tu ti tu2 (by rw [hx]; exact .sl) hside.1 hside.2 (by simp [StL.ids]) (by simp [StL.ids]) hb hm
  · intro y hy; simp at hy; subst hy; exact hst
  · intro j hj; simp [StL.ids] at hj; exact .inr (by simp [hj])
  · intro j hj hj'; simp [StL.ids] at hj; simp [hj] at hj'
  · intro j hj; simp at hj; rw [hj]; rfl
  · funext y
    show StO.get ((.loc d, some (.slt elem sz (xs ++ ys))) :: (id, none) :: st) y = StO.get ((.loc d, some (.slt elem sz (xs ++ ys))) :: (id, none) :: (.loc d, none) :: st) y
    simp only [StO.get]
    by_cases e1 : Id.loc d = y
    · simp [e1]
    · simp [e1]
end
def zhM (id : Id) (x : T) : EnvL → EnvL
  | [] => []
  | (t, v) :: l => (t, v.sub id x) :: zhM id x l
def zfQ (id : Id) (x : T) : StO → StO
  | [] => []
  | (i, r) :: l => (i, r.map (Row.sub id x)) :: zfQ id x l
theorem za1 {id : Id} {x : T} {t : Nat} : ∀ {l : EnvL}, EnvL.get (zhM id x l) t = (EnvL.get l t).sub id x
  | [] => rfl
  | (i, v) :: l => by
    simp only [zhM, EnvL.get]
    split
    · rfl
    · exact za1
theorem zch {id : Id} {x : T} {j : Id} : ∀ {l : StO}, StO.get (zfQ id x l) j = (StO.get l j).map (Row.sub id x)
  | [] => rfl
  | (i, v) :: l => by
    simp only [zfQ, StO.get]
    split
    · rfl
    · exact zch
theorem zh {nt : Nat} {env env' : EnvL} {st st' : StO} {id : Id} {e : TypeId} {sz : Nat} {es : List T} (hr : StO.get st id = some (.slt e sz es)) (he : zhM id (.sl sz es) env = env') (hs : (id, none) :: zfQ id (.sl sz es) st = st') : Ghost nt env.get st.get env'.get st'.get := by
  subst he; subst hs
  have := kb (nt := nt) (env := env.get) (st := st.get) hr
  have e1 : (fun t => (env.get t).sub id (.sl sz es)) = EnvL.get (zhM id (.sl sz es) env) := by funext t; exact za1.symm
  have e2 : (fun j => if j = id then none else (st.get j).map (Row.sub id (.sl sz es))) = StO.get ((id, none) :: zfQ id (.sl sz es) st) := by
    funext j
    simp only [StO.get]
    by_cases h : id = j
    · simp [h]
    · rw [if_neg h, if_neg (fun h' => h h'.symm), zch]
  rw [e1, e2] at this
  exact this
end Go.AL
set_option linter.unusedSimpArgs false
namespace Go.AL
open Go Go.RowKit
section
variable {P : Program} {nt : Nat} {ops : Array Oper} {o : Oper} {rest : List Oper} {env : EnvL} {st : StO} {acc : List SD} {K : EnvL → StO → List SD → Prop} {d : Nat}
theorem kB {id : Id} {row : Row} (hfr : yv [.loc d] env st = true) (hst : StO.get st id = some row) : Id.loc d ≠ id := fun e => by
  have := (yE hfr).2 id _ hst
  rw [e] at this
  simp at this
theorem zn {s x : Operand} {t t2 elem e2 e2' : TypeId} {id id2 : Id} {sz bytes : Nat} {z : Value} {xs ys : List T} (ho : o.op = .call { callee := .builtin .append, args := #[s, x], argTypes := #[t, t2] }) (hs1 : zm env.get s = .row id) (hx : zm env.get x = .row id2) [tu : TyU P t (.slice elem)] [ti : TyI P elem sz bytes z] [tu2 : TyU P t2 (.slice e2)]
    (hst : StO.get st id = some (.slt elem sz xs)) (hst2 : StO.get st id2 = some (.slt e2' sz ys)) (hside : (decide (z.cells.size = sz) && (decide (0 < sz) && decide (id ≠ id2))) = true)
    (hd : o.dst = some d) (hn : (decide (d < nt)) = true) (hg : zl ops o env = true) (hfr : yv [.loc d] env st = true)
    (hb : (xs.length + ys.length) * bytes ≤ 140737488355328) (hm : xs.length + ys.length ≤ 9223372036854775807)
    (H : LexP P nt ops rest ((d, .row (.loc d)) :: env) ((.loc d, some (.slt elem sz (xs ++ ys))) :: (id, none) :: st) (⟨true, [(id, .slt elem sz xs), (id2, .slt e2' sz ys)], .row (.loc d), [(.loc d, .slt elem sz (xs ++ ys)), (id2, .slt e2' sz ys)], [id], [.loc d]⟩ :: acc) K) : LexP P nt ops (o :: rest) env st acc K := by
  simp only [Bool.and_eq_true, decide_eq_true_eq] at hside
  have hne := kB hfr hst
  have hne2 := kB hfr hst2
  refine vt (R := [(id, .slt elem sz xs), (id2, .slt e2' sz ys)]) (R' := [(.loc d, .slt elem sz (xs ++ ys)), (id2, .slt e2' sz ys)]) (N := [.loc d]) (W := [id]) (r := .row (.loc d)) ?_ hd (of_decide_eq_true hn) (yc hg) ?_ ?_ ?_ ?_ hfr ?_ H
  · exact wc (R2 := [(id2, .slt e2' sz ys)]) (.loc d) ho hs1 tu ti tu2 (by rw [hx]; exact .row) hside.1 hside.2.1 (by simp [StL.ids, hside.2.2]) (by simp [StL.ids, hne2]) hb hm
  · intro y hy; simp at hy; rcases hy with rfl | rfl
    · exact hst
    · exact hst2
  · intro j hj; simp [StL.ids] at hj; rcases hj with rfl | rfl
    · exact .inr (by simp)
    · exact .inl (by simp [StL.ids])
  · intro j hj hj'; simp [StL.ids] at hj; simp at hj'; rcases hj with rfl | rfl
    · exact absurd rfl hj'
    · simp [StL.get, hne2, hside.2.2]
  · intro j hj; simp at hj; rw [hj]; rfl
  · funext y
    show StO.get ((.loc d, some (.slt elem sz (xs ++ ys))) :: (id, none) :: st) y = StO.get ((.loc d, some (.slt elem sz (xs ++ ys))) :: (id2, some (.slt e2' sz ys)) :: (id, none) :: (id2, none) :: (.loc d, none) :: st) y
    simp only [StO.get]
    by_cases e1 : Id.loc d = y
    · simp [e1]
    · by_cases e2 : id2 = y
      · subst e2; simp [hne2, hside.2.2, hst2]
      · simp [e1, e2]
theorem za4 {s x : Operand} {t t2 elem : TypeId} {id : Id} {bytes : Nat} {z : Value} {xs : List T} {b : ByteArray} (ho : o.op = .call { callee := .builtin .append, args := #[s, x], argTypes := #[t, t2] }) (hs1 : zm env.get s = .row id) (hx : zm env.get x = .t (.str b)) [tu : TyU P t (.slice elem)] [ti : TyI P elem 1 bytes z] [tu2 : TyU P t2 .string]
    (hst : StO.get st id = some (.slt elem 1 xs)) (hside : (decide (z.cells.size = 1)) = true)
    (hd : o.dst = some d) (hn : (decide (d < nt)) = true) (hg : zl ops o env = true) (hfr : yv [.loc d] env st = true)
    (hb : (xs.length + (zU b).length) * bytes ≤ 140737488355328) (hm : xs.length + (zU b).length ≤ 9223372036854775807)
    (H : LexP P nt ops rest ((d, .row (.loc d)) :: env) ((.loc d, some (.slt elem 1 (xs ++ zU b))) :: (id, none) :: st) (⟨true, [(id, .slt elem 1 xs)], .row (.loc d), [(.loc d, .slt elem 1 (xs ++ zU b))], [id], [.loc d]⟩ :: acc) K) : LexP P nt ops (o :: rest) env st acc K := by
  have hne := kB hfr hst
  refine vt (R := [(id, .slt elem 1 xs)]) (R' := [(.loc d, .slt elem 1 (xs ++ zU b))]) (N := [.loc d]) (W := [id]) (r := .row (.loc d)) ?_ hd (of_decide_eq_true hn) (yc hg) ?_ ?_ ?_ ?_ hfr ?_ H
  · exact wc (R2 := []) (.loc d) ho hs1 tu ti tu2 (by rw [hx]; exact .str rfl) (of_decide_eq_true hside) (by decide) (by simp [StL.ids]) (by simp [StL.ids]) hb hm
  · intro y hy; simp at hy; subst hy; exact hst
  · intro j hj; simp [StL.ids] at hj; exact .inr (by simp [hj])
  · intro j hj hj'; simp [StL.ids] at hj; simp [hj] at hj'
  · intro j hj; simp at hj; rw [hj]; rfl
  · funext y
    show StO.get ((.loc d, some (.slt elem 1 (xs ++ zU b))) :: (id, none) :: st) y = StO.get ((.loc d, some (.slt elem 1 (xs ++ zU b))) :: (id, none) :: (.loc d, none) :: st) y
    simp only [StO.get]
    by_cases e1 : Id.loc d = y
    · simp [e1]
    · simp [e1]
theorem zee {src dst elem : TypeId} {x : Operand} {s : ByteArray} (ho : o.op = .convert src dst x) (hx : zm env.get x = .t (.str s)) [ts : TyU P src .string] [td : TyU P dst (.slice elem)] [te : TyU P elem (.int .u8)]
    (hd : o.dst = some d) (hn : (decide (d < nt)) = true) (hg : zl ops o env = true) (hfr : yv [.loc d] env st = true) (hl : s.size ≤ 9223372036854775807)
    (H : LexP P nt ops rest ((d, .row (.loc d)) :: env) ((.loc d, some (.slt elem 1 (zU s))) :: st) (⟨true, [], .row (.loc d), [(.loc d, .slt elem 1 (zU s))], [], [.loc d]⟩ :: acc) K) : LexP P nt ops (o :: rest) env st acc K :=
  qP (zcT (.loc d) ho hx ts td te hl) hd hn hg rfl hfr H
theorem zw {src dst elem e' : TypeId} {x : Operand} {id : Id} {es : List T} (ho : o.op = .convert src dst x) (hx : zm env.get x = .row id) [ts : TyU P src (.slice elem)] [td : TyU P dst .string] [te : TyU P elem (.int .u8)] (hst : StO.get st id = some (.slt e' 1 es))
    (hd : o.dst = some d) (hn : (decide (d < nt)) = true) (hg : zl ops o env = true) (hu : IsU8 es)
    (H : LexP P nt ops rest ((d, .t (.str (vE es))) :: env) st (⟨true, [(id, .slt e' 1 es)], .t (.str (vE es)), [(id, .slt e' 1 es)], [], []⟩ :: acc) K) : LexP P nt ops (o :: rest) env st acc K :=
  xA hst (kT (R2 := [(id, .slt e' 1 es)]) (d := .slice elem) ho (by rw [hx]; exact .row) ts td te hu) hd hn hg H
theorem zaX {src dst elem : TypeId} {x : Operand} {es : List T} (ho : o.op = .convert src dst x) (hx : zm env.get x = .t (.sl 1 es)) [ts : TyU P src (.slice elem)] [td : TyU P dst .string] [te : TyU P elem (.int .u8)]
    (hd : o.dst = some d) (hn : (decide (d < nt)) = true) (hg : zl ops o env = true) (hu : IsU8 es)
    (H : LexP P nt ops rest ((d, .t (.str (vE es))) :: env) st (⟨true, [], .t (.str (vE es)), [], [], []⟩ :: acc) K) : LexP P nt ops (o :: rest) env st acc K :=
  zH (kT (R2 := []) (d := .slice elem) ho (by rw [hx]; exact .sl) ts td te hu) hd hn hg H
end
def ziL (σ : Id → Id) : EnvL → EnvL
  | [] => []
  | (t, v) :: l => (t, v.ren σ) :: ziL σ l
theorem zdF {σ : Id → Id} {t : Nat} : ∀ {l : EnvL}, EnvL.get (ziL σ l) t = (EnvL.get l t).ren σ
  | [] => rfl
  | (i, v) :: l => by
    simp only [ziL, EnvL.get]
    split
    · rfl
    · exact zdF
theorem z8 {nt : Nat} {env : EnvL} {st : StO} (t : Nat) (id : Id) (e sz : Nat) (ht : EnvL.get env t = .t .nilsl) (hf : yv [id] env st = true) (hloc : id.isLoc = true) : Ghost nt env.get st.get (EnvL.get ((t, .row id) :: env)) (StO.get ((id, some (.slt e sz [])) :: st)) := by
  have := zfD (nt := nt) (env := env.get) (st := st.get) (t := t) id e sz ht (yE hf) hloc
  have e1 : (fun x => if x = t then AV.row id else env.get x) = EnvL.get ((t, .row id) :: env) := by
    funext x
    simp only [EnvL.get]
    by_cases h : t = x
    · simp [h]
    · rw [if_neg h, if_neg (fun h' => h h'.symm)]
  have e2 : (fun x => if x = id then some (Row.slt e sz []) else st.get x) = StO.get ((id, some (.slt e sz [])) :: st) := by
    funext x
    simp only [StO.get]
    by_cases h : id = x
    · simp [h]
    · rw [if_neg h, if_neg (fun h' => h h'.symm)]
  rw [e1, e2] at this
  exact this
def zbn (ids : List Id) (st : StO) : StO := match ids with
  | [] => []
  | i :: l => (i, StO.get st i) :: zbn l st
theorem zad {st : StO} : ∀ {ids : List Id}, ∀ x ∈ zbn ids st, x.2 = none ∨ StO.get st x.1 = x.2
  | [], x, h => by simp [zbn] at h
  | i :: l, x, h => by
    simp only [zbn, List.mem_cons] at h
    rcases h with rfl | h
    · exact .inr rfl
    · exact zad x h
theorem za {nt : Nat} {env env' : EnvL} {st st' : StO} (ts : List Nat) (ids : List Id) (he : zeZ ts env = env') (hs : zbn ids st = st') : Ghost nt env.get st.get env'.get st'.get := by
  subst hs
  exact zd3 ts env' _ he zad
def stR (a b : Id) : StO → StO
  | [] => []
  | (i, r) :: l => (jE a b i, r.map (Row.ren (jE a b))) :: stR a b l
theorem zfH {a b j : Id} (hab : a ≠ b) : ∀ {l : StO}, jC [b] l = true → StO.get (stR a b l) j = if j = b then (StO.get l a).map (Row.ren (jE a b)) else if j = a then none else (StO.get l j).map (Row.ren (jE a b))
  | [], _ => by simp [stR, StO.get]
  | (i, r) :: l, h => by
    simp only [jC, Bool.and_eq_true, Bool.not_eq_true'] at h
    have hib : i ≠ b := by have := h.1.1; simpa using this
    simp only [stR, StO.get, zfH hab h.2]
    unfold jE
    by_cases e1 : i = a
    · subst e1
      by_cases e2 : j = b
      · subst e2; simp
      · by_cases e3 : j = i
        · subst e3; simp [e2, Ne.symm e2]
        · simp [e2, e3, Ne.symm e2, Ne.symm e3]
    · by_cases e2 : j = b
      · subst e2; simp [e1, hib]
      · by_cases e3 : j = a
        · subst e3; simp [e1, e2]
        · simp [e1, e2, e3]
          by_cases e4 : i = j
          · subst e4; simp
          · simp [e4]
theorem zk {nt : Nat} {env env' : EnvL} {st st' : StO} (a b : Id) (hab : (decide (a ≠ b) && (a.isLoc && !wY b)) = true) (hf : yv [b] env st = true) (he : ziL (jE a b) env = env') (hs : stR a b st = st') : Ghost nt env.get st.get env'.get st'.get := by
  subst he; subst hs
  simp only [Bool.and_eq_true, decide_eq_true_eq, Bool.not_eq_true'] at hab
  have := zfW (nt := nt) (env := env.get) (st := st.get) a b hab.1 hab.2.1 hab.2.2 (yE hf)
  have e1 : (fun t => (env.get t).ren (jE a b)) = EnvL.get (ziL (jE a b) env) := by funext t; exact zdF.symm
  have hf2 : jC [b] st = true := by unfold yv at hf; simp only [Bool.and_eq_true] at hf; exact hf.2
  have e2 : (fun j => if j = b then (st.get a).map (Row.ren (jE a b)) else if j = a then none else (st.get j).map (Row.ren (jE a b))) = StO.get (stR a b st) := by
    funext j
    exact (zfH hab.1 hf2).symm
  rw [e1, e2] at this
  exact this
end Go.AL
set_option linter.unusedSimpArgs false
namespace Go.AL
open Go Go.RowKit
def wU : TypeDesc → T → Bool
  | .string, .str _ => true
  | .int k, .int k' _ => decide (k' = k)
  | .bool, .bool _ => true
  | _, _ => false
def zd9 : T → T → Bool
  | .str a, .str b => decide (a = b)
  | .int _ a, .int _ b => decide (a = b)
  | .bool a, .bool b => decide (a = b)
  | _, _ => false
def zeW : List (T × T) → T → Option T
  | [], _ => none
  | (k, v) :: es, x => if zd9 x k then some v else zeW es x
def zf0 : List (T × T) → T → T → List (T × T)
  | [], x, y => [(x, y)]
  | (k, v) :: es, x, y => if zd9 x k then (k, y) :: es else (k, v) :: zf0 es x y
def kH (d : TypeDesc) : List (T × T) → Bool
  | [] => true
  | (k, _) :: es => wU d k && kH d es
theorem zc5 {h : Heap} {d : TypeDesc} {x k : T} {u v : Value} (hx : wU d x = true) (hk : wU d k = true) (r1 : RepT h u x) (r2 : RepT h v k) : Instr.sameNow d u v = some (zd9 x k) := by
  cases d <;> cases x <;> simp [wU] at hx <;> cases k <;> simp [wU] at hk <;> simp only [RepT] at r1 r2 <;> subst r1 <;> subst r2
  · rename_i a b
    cases a <;> cases b <;> rfl
  · subst hx; subst hk
    rename_i k a b
    simp only [Instr.sameNow, zd9, if_true]
    congr 1
  · rename_i a b
    simp only [Instr.sameNow, zd9]
    congr 1
    by_cases e : a = b
    · subst e; simp [(MapKept.bytes_beq a a).2 rfl]
    · have : (a == b) = false := by
        cases hab : (a == b) with
        | false => rfl
        | true => exact absurd ((MapKept.bytes_beq a b).1 hab) e
      simp [e, this]
theorem qo {h : Heap} {d : TypeDesc} {x : T} {u : Value} (hx : wU d x = true) (r1 : RepT h u x) : MapKept.IsKey d u := by
  cases d <;> cases x <;> simp [wU] at hx <;> simp only [RepT] at r1 <;> subst r1 <;> simp [MapKept.IsKey, hx]
theorem vM {h : Heap} {d : TypeDesc} {x : T} {u : Value} (hx : wU d x = true) (r1 : RepT h u x) : ∀ {xs : List MapEntry} {es : List (T × T)} (i : Nat), RepEnts h xs es → kH d es = true →
    (zeW es x = none ∧ Instr.findNow d u xs i = some none ∧ zf0 es x = fun y => es ++ [(x, y)]) ∨
    ∃ y v j e, zeW es x = some y ∧ Instr.findNow d u xs i = some (some (i + j, v)) ∧ RepT h v y ∧ xs[j]? = some e ∧ e.key = u ∧ ∀ (f : MapEntry → MapEntry) (z : T) (fv : Value), (∀ e, e.key = u → (f e).key = u ∧ (f e).val = fv) → RepT h fv z → RepEnts h (xs.modify j f) (zf0 es x z)
  | [], [], i, _, _ => .inl ⟨rfl, rfl, rfl⟩
  | [], _ :: _, i, H, _ => H.elim
  | _ :: _, [], i, H, _ => H.elim
  | e :: xs, (k, v) :: es, i, H, hk => by
    simp only [kH, Bool.and_eq_true] at hk
    obtain ⟨H1, H2, H3⟩ := H
    have hs := zc5 hx hk.1 r1 H1
    cases hq : zd9 x k with
    | true =>
      right
      have hkey : e.key = u := by
        have h1 := qo hx r1
        have h2 := qo hk.1 H1
        obtain ⟨r, hr, hiff⟩ := MapKept.sameNow_of_keys h1 h2
        rw [hs, hq] at hr
        cases hr
        exact (hiff.1 rfl).symm
      refine ⟨v, e.val, 0, e, by simp [zeW, hq], by simp [Instr.findNow, hs, hq], H2, rfl, hkey, ?_⟩
      intro f z fv hf hz
      obtain ⟨f1, f2⟩ := hf e hkey
      simp only [zf0, hq, if_true, List.modify_zero_cons]
      exact ⟨by rw [f1, ← hkey]; exact H1, by rw [f2]; exact hz, H3⟩
    | false =>
      rcases vM hx r1 (i + 1) H3 hk.2 with ⟨g1, g2, g3⟩ | ⟨y, v', j, e', g1, g2, g3, g4, g5, g6⟩
      · left
        refine ⟨by simp [zeW, hq, g1], by simp [Instr.findNow, hs, hq, g2], ?_⟩
        funext z
        simp [zf0, hq, g3]
      · right
        refine ⟨y, v', j + 1, e', by simp [zeW, hq, g1], by simp [Instr.findNow, hs, hq, g2]; omega, g3, by simpa using g4, g5, ?_⟩
        intro f z fv hf hz
        simp only [zf0, hq, List.modify_succ_cons]
        exact ⟨H1, H2, g6 f z fv hf hz⟩
theorem vI {h : Heap} : ∀ {xs ys : List MapEntry} {es fs : List (T × T)}, RepEnts h xs es → RepEnts h ys fs → RepEnts h (xs ++ ys) (es ++ fs)
  | [], _, [], _, _, H => H
  | [], _, _ :: _, _, H, _ => H.elim
  | _ :: _, _, [], _, H, _ => H.elim
  | x :: xs, ys, (k, v) :: es, fs, H, H2 => ⟨H.1, H.2.1, vI H.2.2 H2⟩
theorem zcp {ents : Array MapEntry} {clock : Nat} (S : qR ents.toList clock) (e : MapEntry) (he : e.born = clock) : qR (ents.push e).toList (clock + 1) := by
  refine ⟨fun x hx => ?_, ?_⟩
  · simp only [Array.toList_push, List.mem_append, List.mem_singleton] at hx
    rcases hx with hx | rfl
    · exact Nat.lt_succ_of_lt (S.1 x hx)
    · omega
  · simp only [Array.toList_push, List.map_append, List.map_cons, List.map_nil]
    rw [List.nodup_append]
    refine ⟨S.2, by simp, fun a ha b hb => ?_⟩
    obtain ⟨x, hx, rfl⟩ := List.mem_map.1 ha
    have := S.1 x hx
    simp at hb
    omega
theorem jn (f : MapEntry → MapEntry) (hf : ∀ e, (f e).born = e.born) : ∀ (l : List MapEntry) (j : Nat), (l.modify j f).map (·.born) = l.map (·.born)
  | [], j => by simp
  | x :: l, 0 => by simp [hf]
  | x :: l, j + 1 => by simp [jn f hf l j]
theorem zaT {ents : List MapEntry} {clock : Nat} (S : qR ents clock) (f : MapEntry → MapEntry) (j : Nat) (hf : ∀ e, (f e).born = e.born) : qR (ents.modify j f) clock := by
  have hm := jn f hf ents j
  refine ⟨fun x hx => ?_, by rw [hm]; exact S.2⟩
  have h1 : x.born ∈ (ents.modify j f).map (·.born) := List.mem_map.2 ⟨x, hx, rfl⟩
  rw [hm] at h1
  obtain ⟨y, hy, e⟩ := List.mem_map.1 h1
  rw [← e]; exact S.1 y hy
section
variable {P : Program} {o : Oper} {ρ : Operand → AV}
theorem zc1 {t : TypeId} (id : Id) (ho : o.op = .makeMap t none) : OpT P o ρ (StL.get []) (.row id) (StL.get [(id, .dat (.map []))]) [id] := by
  refine OpT.of ?_
  intro h m a w hs hr K Q hK
  have hrun : (execOp a.eval o).run P w = .ok (.value (.map (some w.heap.size))) (w.alloc (.map #[] 0)) := by
    simp [execOp, ho, RowKit.run_makeMap]
  obtain ⟨s1, s2⟩ := qM (m := m) hs.imm (xO w (.map #[] 0)) (id := id) (v := .map (some w.heap.size)) rfl (row := .dat (.map []))
    ⟨w.heap.size, .map #[] 0, by rw [zp]; rfl, xI w _, w.heap.size, #[], 0, zp _ _ _, rfl, trivial, ⟨fun x hx => by simp at hx, by simp⟩⟩
  unfold Oper.wp
  rw [hrun]
  exact hK _ h _ _ ⟨(zp _ _ _).symm, rfl⟩ s1 s2 fun _ => zX
theorem zf3 {h : Heap} {m : zI} {w : World} {id : Id} {es : List (T × T)} (hs : Sim h m (StL.get [(id, .dat (.map es))]) w) : ∃ r ents clock, m id = .map (some r) ∧ w.heap[r]? = some (.map ents clock) ∧ RepEnts h ents.toList es ∧ qR ents.toList clock := by
  obtain ⟨b, ob, e1, e2, r, ents, clock, e3, e4, e5, e6⟩ := xi hs (zM id _)
  rw [e3] at e1
  simp [blk] at e1
  subst e1
  exact ⟨r, ents, clock, e3, by rw [e2, e4], e5, e6⟩
theorem zeu {t kt et : TypeId} {x ix : Operand} {ok : Bool} {id : Id} {es : List (T × T)} {k zT : T} {kd : TypeDesc} {sz bytes : Nat} {z : Value} (ho : o.op = .lookup t x ix ok) (hx : ρ x = .row id) (hk : ρ ix = .t k) (tu : TyU P t (.map kt et)) (td : TyU P kt kd) (ti : TyI P et sz bytes z)
    (hz : ∀ h, RepT h z zT) (hkey : wU kd k = true) (hes : kH kd es = true) :
    OpT P o ρ (StL.get [(id, .dat (.map es))]) (if ok then .tup [.t ((zeW es k).getD zT), .t (.bool (zeW es k).isSome)] else .t ((zeW es k).getD zT)) (StL.get [(id, .dat (.map es))]) [] :=
  yK fun h m a w hs hr => by
    have r1 := hr x (by simp [ho, Op.operands])
    have r2 := hr ix (by simp [ho, Op.operands])
    rw [hx] at r1
    rw [hk] at r2
    simp only [RepA] at r1 r2
    obtain ⟨r, ents, clock, e1, e2, e3, _⟩ := zf3 hs
    rw [e1] at r1
    have hK := qo hkey r2
    rcases vM hkey r2 0 e3 hes with ⟨g1, g2, g3⟩ | ⟨y, v, j, e, g1, g2, g3, g4, g5, g6⟩
    · cases ok with
      | true => exact ⟨.tuple #[z, .bool false], by simp [execOp, ho, r1.1, Instr.lookup, run_underlying tu.h, MapKept.run_getObj_map e2, MapKept.run_checkKey td.h hK, MapKept.run_findKey td.h g2, yp ti, Result.andThen], by
          simp only [if_true, RepA, g1, Option.getD_none, Option.isSome_none]
          exact ⟨_, rfl, rfl, ⟨z, rfl, hz h⟩, ⟨_, rfl, rfl⟩, trivial⟩⟩
      | false => exact ⟨z, by simp [execOp, ho, r1.1, Instr.lookup, run_underlying tu.h, MapKept.run_getObj_map e2, MapKept.run_checkKey td.h hK, MapKept.run_findKey td.h g2, yp ti, Result.andThen], by
          simp only [RepA, g1, Option.getD_none]
          exact hz h⟩
    · cases ok with
      | true => exact ⟨.tuple #[v, .bool true], by simp [execOp, ho, r1.1, Instr.lookup, run_underlying tu.h, MapKept.run_getObj_map e2, MapKept.run_checkKey td.h hK, MapKept.run_findKey td.h g2, Result.andThen], by
          simp only [if_true, RepA, g1, Option.getD_some, Option.isSome_some]
          exact ⟨_, rfl, rfl, ⟨v, rfl, g3⟩, ⟨_, rfl, rfl⟩, trivial⟩⟩
      | false => exact ⟨v, by simp [execOp, ho, r1.1, Instr.lookup, run_underlying tu.h, MapKept.run_getObj_map e2, MapKept.run_checkKey td.h hK, MapKept.run_findKey td.h g2, Result.andThen], by
          simp only [RepA, g1, Option.getD_some]
          exact g3⟩
theorem zaA {t kt et : TypeId} {x ix y : Operand} {id : Id} {es : List (T × T)} {k v : T} {kd : TypeDesc} (ho : o.op = .mapUpdate t x ix y ∨ o.op = .insert t x ix y) (hx : ρ x = .row id) (hk : ρ ix = .t k) (hv : ρ y = .t v) (tu : TyU P t (.map kt et)) (td : TyU P kt kd) (hkey : wU kd k = true) (hes : kH kd es = true) :
    OpT P o ρ (StL.get [(id, .dat (.map es))]) .junk (StL.get [(id, .dat (.map (zf0 es k v)))]) [] := by
  refine OpT.of ?_
  intro h m a w hs hr K Q hK'
  have hmem : x ∈ o.op.operands ∧ ix ∈ o.op.operands ∧ y ∈ o.op.operands := by rcases ho with ho | ho <;> simp [ho, Op.operands]
  have r1 := hr x hmem.1
  have r2 := hr ix hmem.2.1
  have r3 := hr y hmem.2.2
  rw [hx] at r1
  rw [hk] at r2
  rw [hv] at r3
  simp only [RepA] at r1 r2 r3
  obtain ⟨r, ents, clock, e1, e2, e3, hS⟩ := zf3 hs
  rw [e1] at r1
  have hK := qo hkey r2
  have hlt : r < w.heap.size := (Array.getElem?_eq_some_iff.1 e2).1
  have fin : ∀ (ents' : Array MapEntry) (clock' : Nat), RepEnts h ents'.toList (zf0 es k v) → qR ents'.toList clock' → (Instr.mapUpdate t (a.eval x) (a.eval ix) (a.eval y)).run P w = .ok () { w with heap := w.heap.setIfInBounds r (.map ents' clock') } → o.wp P a w K Q := fun ents' clock' hE hS' hrun => by
    have hw : Wrote w { w with heap := w.heap.setIfInBounds r (.map ents' clock') } r := ⟨rfl, rfl, rfl, by simp, fun b hb => (MapKept.heap_set e2).2 b hb⟩
    obtain ⟨s1, s2⟩ := kK hs (by rw [e1]; rfl) hw (row' := .dat (.map (zf0 es k v))) ⟨r, .map ents' clock', by rw [e1]; rfl, (MapKept.heap_set e2).1, r, ents', clock', e1, rfl, hE, hS'⟩
    unfold Oper.wp
    have hrun' : (execOp a.eval o).run P w = .ok .skip { w with heap := w.heap.setIfInBounds r (.map ents' clock') } := by
      rcases ho with ho | ho <;> simp [execOp, ho, hrun]
    rw [hrun']
    exact hK' undef h m _ trivial s1 s2 fun _ _ => rfl
  rcases vM hkey r2 0 e3 hes with ⟨g1, g2, g3⟩ | ⟨y', v', j, e, g1, g2, g3, g4, g5, g6⟩
  · refine fin (ents.push { key := a.eval ix, val := a.eval y, born := clock }) (clock + 1) ?_ ?_ ?_
    · rw [g3]
      simp only [Array.toList_push]
      exact vI e3 ⟨r2, r3, trivial⟩
    · exact zcp hS _ rfl
    · simp [Instr.mapUpdate, r1.1, run_underlying tu.h, MapKept.run_getObj_map e2, MapKept.run_checkKey td.h hK, MapKept.run_findKey td.h g2, MapKept.run_setObj_map _ e2, Result.andThen]
  · have hj : ents[j]? = some e := by simpa using g4
    refine fin (ents.modify j fun e => { e with key := a.eval ix, val := a.eval y }) clock ?_ ?_ ?_
    · rw [Array.toList_modify]
      exact g6 _ v (a.eval y) (fun e he => ⟨rfl, rfl⟩) r3
    · rw [Array.toList_modify]
      exact zaT hS _ _ fun _ => rfl
    · simp [Instr.mapUpdate, r1.1, run_underlying tu.h, MapKept.run_getObj_map e2, MapKept.run_checkKey td.h hK, MapKept.run_findKey td.h g2, hj, g5, MapKept.run_keyThatStays hK, MapKept.run_setObj_map _ e2, Result.andThen]
end
end Go.AL
set_option linter.unusedSimpArgs false
namespace Go.AL
open Go Go.RowKit
section
variable {P : Program} {nt : Nat} {ops : Array Oper} {o : Oper} {rest : List Oper} {env : EnvL} {st : StO} {acc : List SD} {K : EnvL → StO → List SD → Prop} {d : Nat}
theorem zex {t : TypeId} (ho : o.op = .makeMap t none) (hd : o.dst = some d) (hn : (decide (d < nt)) = true) (hg : zl ops o env = true) (hfr : yv [.loc d] env st = true)
    (H : LexP P nt ops rest ((d, .row (.loc d)) :: env) ((.loc d, some (.dat (.map []))) :: st) (⟨true, [], .row (.loc d), [(.loc d, .dat (.map []))], [], [.loc d]⟩ :: acc) K) : LexP P nt ops (o :: rest) env st acc K :=
  qP (zc1 (.loc d) ho) hd hn hg rfl hfr H
theorem zbr {t kt et : TypeId} {x ix : Operand} {id : Id} {es : List (T × T)} {k zT : T} {kd : TypeDesc} {sz bytes : Nat} {z : Value} (ho : o.op = .lookup t x ix true) (hx : zm env.get x = .row id) (hk : zm env.get ix = .t k) [tu : TyU P t (.map kt et)] [td : TyU P kt kd] [ti : TyI P et sz bytes z]
    (hz : ∀ h, RepT h z zT) (hst : StO.get st id = some (.dat (.map es))) (hkey : wU kd k = true) (hd : o.dst = some d) (hn : (decide (d < nt)) = true) (hg : zl ops o env = true) (hes : kH kd es = true)
    (H : LexP P nt ops rest ((d, .tup [.t ((zeW es k).getD zT), .t (.bool (zeW es k).isSome)]) :: env) st (⟨true, [(id, .dat (.map es))], .tup [.t ((zeW es k).getD zT), .t (.bool (zeW es k).isSome)], [(id, .dat (.map es))], [], []⟩ :: acc) K) : LexP P nt ops (o :: rest) env st acc K :=
  xA hst (by have := zeu (ρ := zm env.get) ho hx hk tu td ti hz hkey hes; simpa using this) hd hn hg H
theorem zfo {t kt et : TypeId} {x ix y : Operand} {id : Id} {es : List (T × T)} {k v : T} {kd : TypeDesc} (ho : o.op = .insert t x ix y) (hx : zm env.get x = .row id) (hk : zm env.get ix = .t k) (hv : zm env.get y = .t v) [tu : TyU P t (.map kt et)] [td : TyU P kt kd]
    (hst : StO.get st id = some (.dat (.map es))) (hkey : wU kd k = true) (hd : o.dst = none) (hg : zl ops o env = true) (hes : kH kd es = true)
    (H : LexP P nt ops rest env ((id, some (.dat (.map (zf0 es k v)))) :: st) (⟨true, [(id, .dat (.map es))], .junk, [(id, .dat (.map (zf0 es k v)))], [id], []⟩ :: acc) K) : LexP P nt ops (o :: rest) env st acc K :=
  kC hst (zaA (.inr ho) hx hk hv tu td hkey hes) hd hg H
def zf1 (st : StO) : StL → Prop
  | [] => True
  | x :: l => StO.get st x.1 = some x.2 ∧ zf1 st l
theorem zv {st : StO} : ∀ {l : StL}, zf1 st l → ∀ x ∈ l, StO.get st x.1 = some x.2
  | [], _, x, h => by simp at h
  | y :: l, H, x, h => by
    rcases List.mem_cons.1 h with rfl | h
    · exact H.1
    · exact zv H.2 x h
def zgh (S S' : StL) (r : AV) (l : List (Id × Id)) : Bool :=
  (S.ids ++ S'.ids).all (fun i => (S.ids ++ S'.ids).all fun j => !decide (xq l i = xq l j) || decide (i = j)) &&
  (S'.ids.all (fun k => !xN k || ((xq l k).isLoc && l.all fun p => !wY p.1 || !decide (p.2 = xq l k))) &&
  (r.all (fun id => wY id || (xN id && S'.ids.contains id)) &&
  (S'.all (fun x => x.2.all (fun id => wY id || (xN id && S'.ids.contains id))) &&
  S'.ids.all (fun k => (wY k && S.ids.contains k) || xN k))))
theorem zcR (l : List (Id × Id)) (x : Id) : (∃ p ∈ l, p.1 = x ∧ xq l x = p.2) ∨ xq l x = x := by
  induction l with
  | nil => exact .inr rfl
  | cons p l ih =>
    obtain ⟨a, b⟩ := p
    simp only [xq]
    split
    · rename_i e
      exact .inl ⟨(a, b), List.mem_cons_self .., e.symm ▸ rfl, rfl⟩
    · rcases ih with ⟨p, h1, h2, h3⟩ | h
      · exact .inl ⟨p, List.mem_cons_of_mem _ h1, h2, h3⟩
      · exact .inr h
theorem jS {S S' : StL} {r : AV} {l : List (Id × Id)} (h : zgh S S' r l = true) : CallOK S S' r (xq l) ∧ (∀ k ∈ S'.ids, xN k = true → (xq l k).isLoc = true) ∧ ∀ k ∈ S'.ids, k ∈ S.ids ∨ xN k = true := by
  unfold zgh at h
  simp only [Bool.and_eq_true, List.all_eq_true, Bool.or_eq_true, Bool.not_eq_true', decide_eq_false_iff_not, decide_eq_true_eq] at h
  obtain ⟨h1, h2, h3, h4, h5⟩ := h
  refine ⟨⟨fun i hi j hj e => ?_, fun k hk hr p hp e => ?_, h3, h4, fun k hk => ?_⟩, fun k hk hr => ?_, fun k hk => ?_⟩
  · rcases h1 i hi j hj with h | h
    · exact absurd e h
    · exact h
  · rcases h2 k hk with h | ⟨h6, h7⟩
    · rw [hr] at h; cases h
    · rcases zcR l p with ⟨q, q1, q2, q3⟩ | q
      · rcases h7 q q1 with h | h
        · rw [q2, hp] at h; cases h
        · exact h (by rw [e, q3])
      · rw [q] at e
        rw [e] at h6
        cases p <;> simp [wY, Id.isLoc] at hp h6
  · rcases h5 k hk with h | h
    · exact .inl h.1
    · exact .inr h
  · rcases h2 k hk with h | h
    · rw [hr] at h; cases h
    · exact h.1
  · rcases h5 k hk with h | h
    · exact .inl (by simpa using h.2)
    · exact .inr h
theorem zht {f : Operand} {as : Array Operand} {ts : Array TypeId} {g : FuncId} {caps args : List AV} {S S' : StL} {r r' : AV} {st' : StO} {R1 R2 : StL} {N : List Id} (l : List (Id × Id)) (ho : o.op = .call { callee := .value f, args := as, argTypes := ts }) (hf : yD (zm env.get f) = some (g, caps)) [hb : FnB P g] (H0 : Spec P g args S r S')
    (hargs : ArgsLE (as.toList.map (zm env.get) ++ caps) (AV.renL (xq l) args)) (hR1 : S.ren (xq l) = R1) (hst : zf1 st R1) (hlen : (decide (as.size + caps.length = args.length)) = true) (hok : zgh S S' r l = true) (hrr : r.ren (xq l) = r')
    (hR2 : S'.ren (xq l) = R2) (hN : (S'.ids.filter xN).map (xq l) = N) (hfr : yv N env st = true) (hs' : zcK R1 R2 N st = st')
    (hd : o.dst = some d) (hn : (decide (d < nt)) = true) (hg : zl ops o env = true)
    (H : LexP P nt ops rest ((d, r') :: env) st' (⟨true, R1, r', R2, R1.ids, N⟩ :: acc) K) : LexP P nt ops (o :: rest) env st acc K := by
  obtain ⟨ok, hloc, hdom⟩ := jS hok
  have hT := zaL (P := P) (ρ := zm env.get) (xq l) ho hf hb H0 ok (of_decide_eq_true hlen) hargs
  rw [hR1, hR2, hN, hrr] at hT
  subst hs'
  refine vt hT hd (of_decide_eq_true hn) (yc hg) (zv hst) ?_ (fun id h1 h2 => absurd h1 h2) ?_ hfr rfl H
  · intro id hid
    subst hR1; subst hR2; subst hN
    simp only [StL.ids, StL.ren, List.map_map, List.mem_map, Function.comp] at hid ⊢
    obtain ⟨x, hx, rfl⟩ := hid
    have hk : x.1 ∈ S'.ids := List.mem_map_of_mem hx
    rcases hdom x.1 hk with h | h
    · obtain ⟨y, hy, e⟩ := List.mem_map.1 h
      exact .inl ⟨y, hy, by rw [e]⟩
    · exact .inr ⟨x.1, by simpa using ⟨⟨x.2, hx⟩, h⟩, rfl⟩
  · intro id hid
    subst hN
    obtain ⟨k, hk, rfl⟩ := List.mem_map.1 hid
    rw [List.mem_filter] at hk
    exact hloc k hk.1 hk.2
end
end Go.AL
set_option linter.unusedSimpArgs false
namespace Go.AL
open Go Go.RowKit
def zgG : T → Option Bool
  | .nilsl => some true
  | .esl => some false
  | .sl _ (_ :: _) => some false
  | _ => none
theorem zgb {h : Heap} {v : Value} {t : T} {b : Bool} (ht : zgG t = some b) (H : RepT h v t) : ∃ a l c, v = .slice a l c ∧ a.isNone = b := by
  unfold zgG at ht
  split at ht
  · cases ht
    exact ⟨_, _, _, H, rfl⟩
  · cases ht
    simp only [RepT] at H
    obtain ⟨a, c, rfl, _⟩ := H
    exact ⟨_, _, _, rfl, rfl⟩
  · cases ht
    simp only [RepT] at H
    obtain ⟨A, n, c, rfl, hn, _, _, hA⟩ := H
    obtain ⟨b, o, rfl, _⟩ := hA (by rw [hn]; simp)
    exact ⟨_, _, _, rfl, rfl⟩
  · cases ht
section
variable {P : Program} {o : Oper} {ρ : Operand → AV}
theorem zbp {ty yt e : TypeId} {x y : Operand} {t : T} {b : Bool} (ho : o.op = .binOp .eql ty x y yt) (hx : ρ x = .t t) (hy : ρ y = .t .nilsl) (ht : zgG t = some b) (tu : TyU P ty (.slice e)) :
    OpT P o ρ (StL.get []) (.t (.bool b)) (StL.get []) [] :=
  zC fun h m A w _ hrep => by
    have r1 := hrep x (by simp [ho, Op.operands])
    have r2 := hrep y (by simp [ho, Op.operands])
    rw [hx] at r1
    rw [hy] at r2
    simp only [RepA] at r1 r2
    obtain ⟨a, l, c, e1, e2⟩ := zgb ht r1
    simp only [RepT] at r2
    exact ⟨.bool b, by simp [execOp, ho, e1, r2, binOp, eqGuard, run_equal_slice_nil w ty e a l c tu.h, e2], by simp [RepA, RepT]⟩
end
section
variable {P : Program} {nt : Nat} {ops : Array Oper} {o : Oper} {rest : List Oper} {env : EnvL} {st : StO} {acc : List SD} {K : EnvL → StO → List SD → Prop} {d : Nat}
theorem zcu {ty yt e : TypeId} {x y : Operand} {t : T} {b : Bool} (ho : o.op = .binOp .eql ty x y yt) (hx : zm env.get x = .t t) (hy : zm env.get y = .t .nilsl) (ht : zgG t = some b) [tu : TyU P ty (.slice e)] (hd : o.dst = some d) (hn : (decide (d < nt)) = true) (hg : zl ops o env = true)
    (H : LexP P nt ops rest ((d, .t (.bool b)) :: env) st (⟨true, [], .t (.bool b), [], [], []⟩ :: acc) K) : LexP P nt ops (o :: rest) env st acc K :=
  zH (zbp ho hx hy ht tu) hd hn hg H
end
theorem AVLE.esl (sz : Nat) : AVLE (.t .esl) (.t (.sl sz [])) := fun h m v H => by
  simp only [RepA, RepT] at H ⊢
  obtain ⟨a, c, rfl, hc⟩ := H
  exact ⟨some a, 0, c, rfl, rfl, Nat.zero_le _, ⟨hc, fun h => by cases h⟩, fun h => absurd rfl h⟩
theorem zcW {h : Heap} {v : Value} {sz : Nat} (H : RepT h v (.sl sz [])) : RepT h v .nilsl ∨ RepT h v .esl := by
  simp only [RepT] at H
  obtain ⟨A, n, c, rfl, hn, h1, h2, _⟩ := H
  simp at hn
  subst hn
  cases A with
  | none => exact .inl (by rw [h2.2 rfl]; rfl)
  | some a => exact .inr ⟨a, c, rfl, h2.1⟩
section
variable {P : Program} {nt : Nat} {ops : Array Oper} {rest : List Oper} {env : EnvL} {st : StO} {acc : List SD} {K : EnvL → StO → List SD → Prop} {d : Option Tmp} {ty : TypeId} {pos : String} {after : Array Edge} {g : Option (Nat × Bool)}
theorem zft {t : TypeId} (H : LexP P nt ops ({ dst := d, op := .makeMap t none, type := ty, pos := pos, after := after, guard := g } :: rest) env st acc K) : LexP P nt ops ({ dst := d, op := .makeMap t none, type := ty, pos := pos, after := after, guard := g } :: rest) env st acc K := H
theorem zgu {t : TypeId} {x y z : Operand} (H : LexP P nt ops ({ dst := d, op := .insert t x y z, type := ty, pos := pos, after := after, guard := g } :: rest) env st acc K) : LexP P nt ops ({ dst := d, op := .insert t x y z, type := ty, pos := pos, after := after, guard := g } :: rest) env st acc K := H
end
end Go.AL
set_option linter.unusedSimpArgs false
namespace Go.AL
open Go Go.RowKit
section
variable {P : Program} {nt : Nat}
def gQ (nt : Nat) (Q : Exit → Env → zt → Prop) : Exit → Env → zt → Prop := fun e env st => ∃ env2 st2, Ghost nt env st env2 st2 ∧ Q e env2 st2
theorem zeC {c : Code} {env : Env} {st : zt} {Q : Exit → Env → zt → Prop} (H : CodeT P nt c env st (gQ nt Q)) : CodeT P nt c env st Q := by
  refine ⟨fun ro hro h m a w k => wpIn_mono (H.run ro hro h m a w k) ?_⟩
  rintro e a' w' ⟨env', st', h', m', ⟨env2, st2, g, hq⟩, c', s', n'⟩
  obtain ⟨h2, m2, c2, s2⟩ := g h' m' a' w' c'
  exact ⟨env2, st2, h2, m2, hq, c2, s'.trans s2, n'⟩
theorem yL {f : FuncId} {fn : Func} {c : Code} {args : List AV} {S S' : StL} {r : AV} {env0 : EnvL} {st0 : StO} (hf : P.funcs[f]? = some fn) (hb : fn.body = some c) (hn : (decide (args.length ≤ fn.ntmps)) = true) (he : y6 0 args = env0) (hs : S.map (fun x => (x.1, some x.2)) = st0)
    (H : CodeT P fn.ntmps c env0.get st0.get (gQ fn.ntmps (zhA P fn r S'))) : Spec P f args S r S' := yI hf hb hn he hs (zeC H)
theorem zfA {fn : Func} {r : AV} {S' : StL} {env env2 : EnvL} {st st2 : StO} {e : Exit} (g : Ghost nt env.get st.get env2.get st2.get) (h : zhA P fn r S' e env2.get st2.get) : gQ nt (zhA P fn r S') e env.get st.get := ⟨_, _, g, h⟩
end
section
variable {P : Program} {o : Oper} {ρ ρ' : Operand → AV}
theorem OpT.weaken {R R' : zt} {r : AV} {N : List Id} (h : OpT P o ρ' R r R' N) (e : ∀ x ∈ o.op.operands, AVLE (ρ x) (ρ' x)) : OpT P o ρ R r R' N :=
  fun hh m a w hs hr => h hh m a w hs fun x hx => e x hx hh m _ (hr x hx)
end
section
variable {P : Program} {nt : Nat} {ops : Array Oper} {o : Oper} {rest : List Oper} {env : EnvL} {st : StO} {acc : List SD} {K : EnvL → StO → List SD → Prop} {d : Nat}
theorem zat {s x : Operand} {t t2 elem e2 : TypeId} {id : Id} {sz bytes : Nat} {z : Value} {xs : List T} (ho : o.op = .call { callee := .builtin .append, args := #[s, x], argTypes := #[t, t2] }) (hs1 : zm env.get s = .row id) (hx : zm env.get x = .t .esl) [tu : TyU P t (.slice elem)] [ti : TyI P elem sz bytes z] [tu2 : TyU P t2 (.slice e2)]
    (hst : StO.get st id = some (.slt elem sz xs)) (hside : (decide (z.cells.size = sz) && (decide (0 < sz))) = true)
    (hd : o.dst = some d) (hn : (decide (d < nt)) = true) (hg : zl ops o env = true) (hfr : yv [.loc d] env st = true)
    (hb : xs.length * bytes ≤ 140737488355328) (hm : xs.length ≤ 9223372036854775807)
    (H : LexP P nt ops rest ((d, .row (.loc d)) :: env) ((.loc d, some (.slt elem sz (xs ++ []))) :: (id, none) :: st) (⟨true, [(id, .slt elem sz xs)], .row (.loc d), [(.loc d, .slt elem sz (xs ++ []))], [id], [.loc d]⟩ :: acc) K) : LexP P nt ops (o :: rest) env st acc K := by
  simp only [Bool.and_eq_true, decide_eq_true_eq] at hside
  have hne := kB hfr hst
  let ρ' : Operand → AV := fun y => match zm env.get y with | .t .esl => .t (.sl sz []) | v => v
  have hT : OpT P o ρ' (StL.get [(id, .slt elem sz xs)]) (.row (.loc d)) (StL.get [(.loc d, .slt elem sz (xs ++ []))]) [.loc d] :=
    wc (R2 := []) (.loc d) ho (by simp [ρ', hs1]) tu ti tu2 (by simp only [ρ', hx]; exact .sl) hside.1 hside.2 (by simp [StL.ids]) (by simp [StL.ids]) (by simpa using hb) (by simpa using hm)
  refine vt (R := [(id, .slt elem sz xs)]) (R' := [(.loc d, .slt elem sz (xs ++ []))]) (N := [.loc d]) (W := [id]) (r := .row (.loc d)) (hT.weaken fun y _ => ?_) hd (of_decide_eq_true hn) (yc hg) ?_ ?_ ?_ ?_ hfr ?_ H
  · simp only [ρ']
    split
    · rename_i e; rw [e]; exact AVLE.esl sz
    · exact AVLE.refl _
  · intro y hy; simp at hy; subst hy; exact hst
  · intro j hj; simp [StL.ids] at hj; exact .inr (by simp [hj])
  · intro j hj hj'; simp [StL.ids] at hj; simp [hj] at hj'
  · intro j hj; simp at hj; rw [hj]; rfl
  · funext y
    show StO.get ((.loc d, some (.slt elem sz (xs ++ []))) :: (id, none) :: st) y = StO.get ((.loc d, some (.slt elem sz (xs ++ []))) :: (id, none) :: (.loc d, none) :: st) y
    simp only [StO.get]
    by_cases e1 : Id.loc d = y
    · simp [e1]
    · simp [e1]
end
theorem zeL {P : Program} {f : FuncId} {sz : Nat} {es : List T} {S S' : StL} {r : AV} (h1 : es = [] → Spec P f [.t .nilsl] S r S') (h2 : es = [] → Spec P f [.t .esl] S r S') (h3 : ∀ e l, es = e :: l → Spec P f [.t (.sl sz (e :: l))] S r S') : Spec P f [.t (.sl sz es)] S r S' := by
  cases es with
  | cons e l => exact h3 e l rfl
  | nil =>
    refine ⟨fun h m vs w hs hn hr => ?_⟩
    obtain ⟨⟨u, e1, e2⟩, _⟩ := hr
    rcases zcW e2 with h | h
    · exact (h1 rfl).run _ m vs w hs hn ⟨⟨u, e1, h⟩, trivial⟩
    · exact (h2 rfl).run _ m vs w hs hn ⟨⟨u, e1, h⟩, trivial⟩
end Go.AL
set_option linter.unusedSimpArgs false
namespace Go.AL
open Go Go.RowKit
section
variable {P : Program} {nt : Nat} {ops : Array Oper} {o : Oper} {rest : List Oper} {env : EnvL} {st : StO} {acc : List SD} {K : EnvL → StO → List SD → Prop} {d : Nat}
end
end Go.AL
set_option linter.unusedSimpArgs false
namespace Go.AL
open Go Go.RowKit
mutual
inductive TLe : T → T → Prop
  | refl (x : T) : TLe x x
  | nil (sz : Nat) : TLe .nilsl (.sl sz [])
  | esl (sz : Nat) : TLe .esl (.sl sz [])
  | slq (sz : Nat) (es : List T) : TLe (.slq sz es) (.sl sz es)
  | agg {cs ds : List T} : TLs cs ds → TLe (.agg cs) (.agg ds)
  | sl {sz : Nat} {es fs : List T} : TLs es fs → TLe (.sl sz es) (.sl sz fs)
inductive TLs : List T → List T → Prop
  | nil : TLs [] []
  | cons {x y : T} {xs ys : List T} : TLe x y → TLs xs ys → TLs (x :: xs) (y :: ys)
end
theorem TLs.refl : ∀ xs : List T, TLs xs xs
  | [] => .nil
  | x :: xs => .cons (.refl x) (TLs.refl xs)
theorem TLs.append : ∀ {xs ys us vs : List T}, TLs xs ys → TLs us vs → TLs (xs ++ us) (ys ++ vs)
  | [], [], us, vs, _, h => h
  | x :: xs, y :: ys, us, vs, h, h2 => by
    cases h with
    | cons a b => exact .cons a (TLs.append b h2)
  | [], _ :: _, _, _, h, _ => by cases h
  | _ :: _, [], _, _, h, _ => by cases h
theorem TLs.len : ∀ {xs ys : List T}, TLs xs ys → xs.length = ys.length
  | [], [], _ => rfl
  | x :: xs, y :: ys, h => by
    cases h with
    | cons a b => simp [TLs.len b]
  | [], _ :: _, h => by cases h
  | _ :: _, [], h => by cases h
theorem TLe.cells_le : ∀ {x y : T}, TLe x y → TLs x.cells y.cells
  | _, _, .refl x => TLs.refl _
  | _, _, .nil sz => .cons (.nil sz) .nil
  | _, _, .esl sz => .cons (.esl sz) .nil
  | _, _, .slq sz es => .cons (.slq sz es) .nil
  | _, _, .agg h => h
  | _, _, .sl h => .cons (.sl h) .nil
mutual
theorem TLe.rep : ∀ {x y : T}, TLe x y → ∀ {h : Heap} {v : Value}, RepT h v x → RepT h v y
  | _, _, .refl x, _, _, H => H
  | _, _, .nil sz, h, v, H => by
    simp only [RepT] at H ⊢
    exact ⟨none, 0, 0, H, rfl, Nat.le_refl _, ⟨Nat.zero_le _, fun _ => rfl⟩, fun h => absurd rfl h⟩
  | _, _, .esl sz, h, v, H => by
    simp only [RepT] at H ⊢
    obtain ⟨a, c, rfl, hc⟩ := H
    exact ⟨some a, 0, c, rfl, rfl, Nat.zero_le _, ⟨hc, fun h => by cases h⟩, fun h => absurd rfl h⟩
  | _, _, .slq sz es, h, v, H => by
    simp only [RepT] at H ⊢
    obtain ⟨A, n, e, hn, hm, hr⟩ := H
    exact ⟨A, n, n, e, hn, Nat.le_refl _, hm, hr⟩
  | _, _, .agg e, h, v, H => by
    simp only [RepT] at H ⊢
    obtain ⟨vs, rfl, h1, h2⟩ := H
    exact ⟨vs, rfl, h1.trans e.len, TLs.repL e h2⟩
  | _, _, .sl e, h, v, H => by
    simp only [RepT] at H ⊢
    obtain ⟨A, n, c, rfl, h1, h2, h3, h4⟩ := H
    refine ⟨A, n, c, rfl, h1.trans e.len, h2, h3, fun hn => ?_⟩
    obtain ⟨b, o, k1, k2⟩ := h4 hn
    exact ⟨b, o, k1, TLs.repEs e k2⟩
theorem TLs.repL : ∀ {xs ys : List T}, TLs xs ys → ∀ {h : Heap} {g : Nat → Option Value} {o : Nat}, RepL h g o xs → RepL h g o ys
  | _, _, .nil, _, _, _, H => H
  | _, _, .cons e es, h, g, o, H => by
    obtain ⟨⟨u, h1, h2, h3⟩, h4⟩ := H
    exact ⟨⟨u, h1, h2, TLe.rep e h3⟩, TLs.repL es h4⟩
theorem TLs.repEs : ∀ {xs ys : List T}, TLs xs ys → ∀ {h : Heap} {g : Nat → Option Value} {o sz : Nat}, RepEs h g o sz xs → RepEs h g o sz ys
  | _, _, .nil, _, _, _, _, H => H
  | _, _, .cons e es, h, g, o, sz, H => by
    rw [zY] at H ⊢
    refine ⟨⟨(TLs.len (TLe.cells_le e)).symm.trans H.1.1, ?_⟩, TLs.repEs es H.2⟩
    cases e with
    | refl x => exact H.1.2
    | nil s => obtain ⟨⟨u, h1, h2, h3⟩, _⟩ := H.1.2; exact ⟨⟨u, h1, h2, TLe.rep (.nil s) h3⟩, trivial⟩
    | esl s => obtain ⟨⟨u, h1, h2, h3⟩, _⟩ := H.1.2; exact ⟨⟨u, h1, h2, TLe.rep (.esl s) h3⟩, trivial⟩
    | slq s q => obtain ⟨⟨u, h1, h2, h3⟩, _⟩ := H.1.2; exact ⟨⟨u, h1, h2, TLe.rep (.slq s q) h3⟩, trivial⟩
    | agg k => exact TLs.repL k H.1.2
    | sl k => obtain ⟨⟨u, h1, h2, h3⟩, _⟩ := H.1.2; exact ⟨⟨u, h1, h2, TLe.rep (.sl k) h3⟩, trivial⟩
end
theorem TLe.av {x y : T} (e : TLe x y) : AVLE (.t x) (.t y) := fun h m v H => e.rep H
theorem ArgsLE.t {x y : T} {xs ys : List AV} (h1 : TLe x y) (h2 : ArgsLE xs ys) : ArgsLE (.t x :: xs) (.t y :: ys) := ArgsLE.cons h1.av h2
def RowLE (r r' : Row) : Prop := ∀ h m w id, SimRow h m w id r → SimRow h m w id r'
theorem RowLE.slt {e : TypeId} {sz : Nat} {es fs : List T} (h : TLs es fs) : RowLE (.slt e sz es) (.slt e sz fs) := fun hh m w id H => by
  obtain ⟨xs, h1, h2⟩ := H
  exact ⟨xs, by rw [← h.len]; exact h1, h.repEs h2⟩
def AVLs : List AV → List AV → Prop
  | [], [] => True
  | x :: xs, y :: ys => AVLE x y ∧ AVLs xs ys
  | _, _ => False
theorem AVLs.repAL : ∀ {xs ys : List AV}, AVLs xs ys → ∀ {h : Heap} {m : zI} {g : Nat → Option Value} {o : Nat}, RepAL h m g o xs → RepAL h m g o ys
  | [], [], _, _, _, _, _, H => H
  | x :: xs, y :: ys, e, h, m, g, o, H => by
    obtain ⟨⟨u, h1, h2, h3⟩, h4⟩ := H
    exact ⟨⟨u, h1, h2, e.1 _ _ _ h3⟩, AVLs.repAL e.2 h4⟩
  | [], _ :: _, e, _, _, _, _, _ => e.elim
  | _ :: _, [], e, _, _, _, _, _ => e.elim
theorem AVLs.len : ∀ {xs ys : List AV}, AVLs xs ys → xs.length = ys.length
  | [], [], _ => rfl
  | x :: xs, y :: ys, e => by simp [AVLs.len e.2]
  | [], _ :: _, e => e.elim
  | _ :: _, [], e => e.elim
theorem RowLE.var {ty : TypeId} {cs ds : List AV} (e : AVLs cs ds) : RowLE (.var ty cs) (.var ty ds) := fun h m w id H => by
  obtain ⟨b, arr, h1, h2, h3, h4⟩ := H
  exact ⟨b, arr, h1, h2, h3.trans e.len, e.repAL h4⟩
theorem yh {nt : Nat} {env : EnvL} {st st' : StO} {id : Id} {r r' : Row} (hr : StO.get st id = some r) (hle : RowLE r r') (hs : (id, some r') :: st = st') : Ghost nt env.get st.get env.get st'.get := by
  subst hs
  have key : ∀ y row, StO.get ((id, some r') :: st) y = some row → ∃ row0, st.get y = some row0 ∧ ∀ h m w, SimRow h m w y row0 → SimRow h m w y row := by
    intro y row hy
    by_cases e : id = y
    · subst e
      have : row = r' := by simpa [StO.get] using hy.symm
      subst this
      exact ⟨r, hr, fun h m w => hle h m w id⟩
    · have : StO.get st y = some row := by simpa [StO.get, e] using hy
      exact ⟨row, this, fun h m w H => H⟩
  intro h m a w c
  refine c.step (h' := h) (m' := m) ⟨c.sim.imm, fun y row hy => ?_, fun y row b hy => ?_, fun y y' r1 r2 b k1 k2 => ?_⟩ (c.env) ⟨⟨rfl, rfl, rfl, Nat.le_refl _, fun _ _ _ => ⟨rfl, rfl⟩, fun _ _ hu => hu, fun y row b hy hb => ?_⟩, fun _ => rfl⟩
  · obtain ⟨r0, h1, h2⟩ := key y row hy
    exact h2 h m w (c.sim.rows y r0 h1)
  · obtain ⟨r0, h1, _⟩ := key y row hy
    exact c.sim.sep y r0 b h1
  · obtain ⟨r0, h1, _⟩ := key y r1 k1
    obtain ⟨r0', h1', _⟩ := key y' r2 k2
    exact c.sim.inj y y' r0 r0' b h1 h1'
  · obtain ⟨r0, h1, _⟩ := key y row hy
    exact .inr ⟨y, r0, h1, hb⟩
def zd1 (P : Program) (t : TypeId) : Option (List (Nat × Option Nat)) :=
  match P.underlying t with
  | some (.struct fs) => some (fs.toList.map fun f => (f.offset, (P.info? f.type).map (·.size)))
  | _ => none
class TyB (P : Program) (t : TypeId) (pl : outParam (List (Nat × Nat))) : Prop where
  h : zd1 P t = some (pl.map fun p => (p.1, some p.2))
def jW (pl : List (Nat × Nat)) (n : Nat) : List (Nat × AV) → Option (List (Nat × AV))
  | [] => some []
  | (i, y) :: ps => match pl[i]? with
    | none => none
    | some (off, sz) => bif y.boxable && (decide (y.cells.length = sz) && decide (off + sz ≤ n)) then (match jW pl n ps with | some qs => some ((off, y) :: qs) | none => none) else none
theorem vR {pl : List (Nat × Nat)} {n : Nat} {ρ : Operand → AV} : ∀ {ps : List (Nat × Operand)} {qs : List (Nat × AV)}, jW pl n (ps.map fun p => (p.1, ρ p.2)) = some qs → PartsOK (fun i => pl[i]?) ρ n ps qs
  | [], qs, h => by
    simp only [List.map_nil, jW, Option.some.injEq] at h
    subst h; trivial
  | (i, x) :: ps, qs, h => by
    simp only [List.map_cons, jW] at h
    split at h
    · simp at h
    · rename_i off sz hp
      cases hb : ((ρ x).boxable && (decide ((ρ x).cells.length = sz) && decide (off + sz ≤ n))) with
      | false => rw [hb] at h; simp at h
      | true =>
        rw [hb] at h
        simp only [cond_true] at h
        simp only [Bool.and_eq_true, decide_eq_true_eq] at hb
        split at h
        · rename_i qs' hq
          cases h
          exact ⟨⟨rfl, hb.1, by show pl[i]? = _; rw [hp, hb.2.1], by have := hb.2.2; have := hb.2.1; omega⟩, vR hq⟩
        · simp at h
section
variable {P : Program} {nt : Nat} {ops : Array Oper} {o : Oper} {rest : List Oper} {env : EnvL} {st : StO} {acc : List SD} {K : EnvL → StO → List SD → Prop} {d : Nat}
theorem vw {t : TypeId} {parts : Array (Nat × Operand)} {size bytes : Nat} {z : Value} {pl : List (Nat × Nat)} {qs : List (Nat × AV)} {r : AV} (ho : o.op = .build t parts) [tb : TyB P t pl] [ti : TyI P t size bytes z]
    (hz : (decide (z.cells.size = size) && z.cells.toList.all Value.oneCell') = true) (hq : jW pl size (parts.toList.map fun p => (p.1, zm env.get p.2)) = some qs) (hr : qp (jh (z.cells.toList.map xB) qs) = r) (hd : o.dst = some d) (hn : (decide (d < nt)) = true) (hg : zl ops o env = true)
    (H : LexP P nt ops rest ((d, r) :: env) st (⟨true, [], r, [], [], []⟩ :: acc) K) : LexP P nt ops (o :: rest) env st acc K := by
  subst hr
  simp only [Bool.and_eq_true, decide_eq_true_eq, List.all_eq_true] at hz
  have hb := tb.h
  unfold zd1 at hb
  split at hb
  · rename_i fs hu
    simp only [Option.some.injEq] at hb
    have e1 : fs.toList.map (·.offset) = pl.map (·.1) := by
      have := congrArg (List.map (·.1)) hb
      simpa [List.map_map, Function.comp_def] using this
    have e2 : fs.toList.map (fun f => (P.info? f.type).map (·.size)) = (pl.map (·.2)).map some := by
      have := congrArg (List.map (·.2)) hb
      simpa [List.map_map, Function.comp_def] using this
    have e3 : (fs.toList.map (·.offset)).zip (pl.map (·.2)) = pl := by
      rw [e1]; clear hq tb hb e1 e2
      induction pl with
      | nil => rfl
      | cons p pl ih => simp [ih]
    have hT := kn (P := P) (ρ := zm env.get) ho ⟨hu⟩ ti e2 hz.1 hz.2 (qs := qs) (by rw [e3]; exact vR hq)
    exact zH hT hd hn hg H
  · simp at hb
end
end Go.AL
namespace Go.AL
open Go Go.RowKit
theorem zx {nt : Nat} {Q : Exit → Env → zt → Prop} {x : Exit} {env env' : EnvL} {st st' : StO} (g : Ghost nt env.get st.get env'.get st'.get) (h : gQ nt Q x env'.get st'.get) : gQ nt Q x env.get st.get := by
  obtain ⟨e2, s2, g2, h2⟩ := h
  exact ⟨e2, s2, g.trans g2, h2⟩
theorem zQ {nt : Nat} {Q : Exit → Env → zt → Prop} {x : Exit} {env : EnvL} {st : StO} (h : Q x env.get st.get) : gQ nt Q x env.get st.get := ⟨_, _, Ghost.refl _ _, h⟩
section
variable {P : Program} {nt : Nat} {ops : Array Oper} {o : Oper} {rest : List Oper} {env : EnvL} {st : StO} {acc : List SD} {K : EnvL → StO → List SD → Prop} {d : Nat}
end
theorem zb3 {h : Heap} {m : zI} {x y : AV} (hxy : ∀ u, u.oneCell' = true → RepA h m u x → RepA h m u y) : ∀ {cs : List AV} {k : Nat} {g : Nat → Option Value} {o : Nat}, cs[k]? = some x → RepAL h m g o cs → RepAL h m g o (cs.set k y)
  | [], k, g, o, hk, H => by simp at hk
  | c :: cs, 0, g, o, hk, H => by
    simp only [List.getElem?_cons_zero, Option.some.injEq] at hk
    subst hk
    obtain ⟨⟨u, h1, h2, h3⟩, h4⟩ := H
    exact ⟨⟨u, h1, h2, hxy u h2 h3⟩, h4⟩
  | c :: cs, k + 1, g, o, hk, H => by
    simp only [List.getElem?_cons_succ] at hk
    exact ⟨H.1, zb3 hxy hk H.2⟩
theorem zaJ {nt : Nat} {env : Env} {st : zt} {r : Id} {ty : TypeId} {cs : List AV} (k : Nat) (id : Id) (e sz : Nat) (hr : st r = some (.var ty cs)) (hk : cs[k]? = some (.t .nilsl)) (hf : qh [id] env st) (hloc : id.isLoc = true) :
    Ghost nt env st env (fun x => if x = id then some (.slt e sz []) else if x = r then some (.var ty (cs.set k (.row id))) else st x) := fun h m a w c => by
  have hm : ∀ y, y ∉ [id] → ya m id (.slice none 0 0) y = m y := fun y => zX
  have cases_ : ∀ y row, (fun x => if x = id then some (Row.slt e sz []) else if x = r then some (.var ty (cs.set k (.row id))) else st x) y = some row → (y = id ∧ row = .slt e sz []) ∨ (y ≠ id ∧ ∃ row0, st y = some row0 ∧ ((y = r ∧ row = .var ty (cs.set k (.row id))) ∨ row = row0)) := fun y row hy => by
    simp only at hy
    split at hy
    · rename_i e; exact .inl ⟨e, (Option.some.inj hy).symm⟩
    · rename_i e
      split at hy
      · rename_i e2; subst e2; exact .inr ⟨e, _, hr, .inl ⟨rfl, (Option.some.inj hy).symm⟩⟩
      · exact .inr ⟨e, row, hy, .inr rfl⟩
  refine c.step (h' := h) (m' := ya m id (.slice none 0 0)) ⟨c.sim.imm, ?_, ?_, ?_⟩ (fun x => ?_) ⟨⟨rfl, rfl, rfl, Nat.le_refl _, fun _ _ _ => ⟨rfl, rfl⟩, fun _ _ hu => hu, ?_⟩, fun k => ?_⟩
  · intro y row hy
    rcases cases_ y row hy with ⟨rfl, rfl⟩ | ⟨hne, row0, hy0, h2⟩
    · exact ⟨[], by rw [zp]; exact ⟨by simp, .inl ⟨rfl, rfl⟩⟩, by simp [RepEs]⟩
    · have hs := SimRow.mono (N := [id]) (fun _ _ hu => hu) hm (by simpa using hne) (hf.2 y row0 hy0).2 (fun _ _ => rfl) (c.sim.rows y row0 hy0)
      rcases h2 with ⟨rfl, rfl⟩ | rfl
      · have e9 := Option.some.inj (hr.symm.trans hy0)
        rw [← e9] at hs
        obtain ⟨b, arr, h1, h2, h3, h4⟩ := hs
        refine ⟨b, arr, h1, h2, by simpa using h3, zb3 (fun u hu H => ?_) hk h4⟩
        simp only [RepA, RepT] at H ⊢
        subst H
        exact ⟨by rw [zp], rfl⟩
      · exact hs
  · intro y row b hy hb
    rcases cases_ y row hy with ⟨rfl, rfl⟩ | ⟨hne, row0, hy, h2⟩
    · rw [zp] at hb; simp [blk] at hb
    · rw [hm y (by simpa using hne)] at hb; exact c.sim.sep y row0 b hy hb
  · intro y y' r1 r2 b hy hy' hb hb'
    rcases cases_ y r1 hy with ⟨rfl, rfl⟩ | ⟨hne, row0, hy, h2⟩
    · rw [zp] at hb; simp [blk] at hb
    · rcases cases_ y' r2 hy' with ⟨rfl, rfl⟩ | ⟨hne', row0', hy', h2'⟩
      · rw [zp] at hb'; simp [blk] at hb'
      · rw [hm y (by simpa using hne)] at hb
        rw [hm y' (by simpa using hne')] at hb'
        exact c.sim.inj y y' row0 row0' b hy hy' hb hb'
  · exact RepA.mono (fun _ _ hu => hu) hm (hf.1 x) (c.env x)
  · intro y row b hy hb
    rcases cases_ y row hy with ⟨rfl, rfl⟩ | ⟨hne, row0, hy, h2⟩
    · rw [zp] at hb; simp [blk] at hb
    · rw [hm y (by simpa using hne)] at hb; exact .inr ⟨y, row0, hy, hb⟩
  · exact hm _ (by intro hk; simp at hk; rw [← hk] at hloc; simp [Id.isLoc] at hloc)
theorem xo {nt : Nat} {env : EnvL} {st : StO} {r : Id} {ty : TypeId} {cs cs' : List AV} (k : Nat) (id : Id) (e sz : Nat) (hr : StO.get st r = some (.var ty cs)) (hk : cs[k]? = some (.t .nilsl)) (hcs : cs.set k (.row id) = cs') (hf : yv [id] env st = true) (hloc : id.isLoc = true) :
    Ghost nt env.get st.get env.get (StO.get ((id, some (.slt e sz [])) :: (r, some (.var ty cs')) :: st)) := by
  subst hcs
  have := zaJ (nt := nt) (env := env.get) (st := st.get) k id e sz hr hk (yE hf) hloc
  have e2 : (fun x => if x = id then some (Row.slt e sz []) else if x = r then some (.var ty (cs.set k (.row id))) else st.get x) = StO.get ((id, some (.slt e sz [])) :: (r, some (.var ty (cs.set k (.row id)))) :: st) := by
    funext x
    simp only [StO.get]
    by_cases h : id = x
    · simp [h]
    · rw [if_neg h, if_neg (fun h' => h h'.symm)]
      by_cases h3 : r = x
      · simp [h3]
      · rw [if_neg h3, if_neg (fun h' => h3 h'.symm)]
  rw [e2] at this
  exact this
theorem vH {h : Heap} {m : zI} {vs : Array Value} : ∀ {as : List AV} {k : Nat}, vs.size = k + as.length → (∀ t, k ≤ t → RepA h m (vs.getD t undef) (EnvL.get (y6 k as) t)) → RepAs h m (fun j => vs[j]?) k as
  | [], k, hs, H => trivial
  | a :: as, k, hs, H => by
    simp only [RepAs]
    have hk : k < vs.size := by simp at hs; omega
    refine ⟨⟨vs[k], by simp [hk], ?_⟩, vH (by simp at hs; omega) fun t ht => ?_⟩
    · have := H k (Nat.le_refl _)
      simp only [y6, EnvL.get, if_pos] at this
      simpa [Array.getD_eq_getD_getElem?, hk] using this
    · have := H t (by omega)
      simp only [y6, EnvL.get] at this
      rwa [if_neg (by omega)] at this
theorem Spec.ghost {P : Program} {f : FuncId} {args args' : List AV} {S S1 S' : StL} {r : AV} (hlen : args.length = args'.length) (g : Ghost args.length (EnvL.get (y6 0 args)) (StL.get S) (EnvL.get (y6 0 args')) (StL.get S1)) (H : Spec P f args' S1 r S') : Spec P f args S r S' := by
  refine ⟨fun h m vs w hs hn hr => ?_⟩
  have c0 : Conc args.length h m (EnvL.get (y6 0 args)) (StL.get S) { tmps := vs, defers := [] } w :=
    ⟨hs, hn, Marks.nil h m _ w, fun t => by have := qC (pad := 0) hr (by simpa using hn) t (Nat.zero_le _); simpa using this⟩
  obtain ⟨h1, m1, c1, s1⟩ := g h m _ w c0
  refine (H.run h1 m1 vs w c1.sim (by omega) (vH (by simpa [← hlen] using hn) fun t _ => c1.env t)).mono ?_
  rintro e w' ⟨v, h', m', e1, e2, e3, e4⟩
  exact ⟨v, h', m', e1, e2, e3, s1.trans e4⟩
theorem ji (id : Id) (x : T) : ∀ (as : List AV) (k : Nat), zhM id x (y6 k as) = y6 k (AV.subL id x as)
  | [], k => rfl
  | a :: as, k => by simp [y6, zhM, AV.subL, ji id x as]
theorem Spec.freeze {P : Program} {f : FuncId} {args args' : List AV} {S1 S' : StL} {r : AV} {id : Id} {e sz : Nat} {es : List T} (H : Spec P f args' S1 r S') (ha : AV.subL id (.sl sz es) args = args') (hS : (S1.all fun x => !decide (x.1 = id)) = true) (hsub : S1.map (fun x => (x.1, x.2.sub id (.sl sz es))) = S1) : Spec P f args ((id, .slt e sz es) :: S1) r S' := by
  subst ha
  refine Spec.ghost (by rw [xj]) ?_ H
  have g := kb (nt := args.length) (env := EnvL.get (y6 0 args)) (st := StL.get ((id, Row.slt e sz es) :: S1)) (id := id) (e := e) (sz := sz) (es := es) (by simp [StL.get])
  have e1 : (fun t => (EnvL.get (y6 0 args) t).sub id (.sl sz es)) = EnvL.get (y6 0 (AV.subL id (.sl sz es) args)) := by
    funext t; rw [← ji, za1]
  have e2 : (fun j => if j = id then none else (StL.get ((id, Row.slt e sz es) :: S1) j).map (Row.sub id (.sl sz es))) = StL.get S1 := by
    have key : ∀ (L : StL), (∀ x ∈ L, x.1 ≠ id) → ∀ j, (if j = id then none else (StL.get L j).map (Row.sub id (.sl sz es))) = StL.get (L.map fun x => (x.1, x.2.sub id (.sl sz es))) j := by
      intro L hL j
      induction L with
      | nil => simp [StL.get]
      | cons x L ih =>
        have h1 := hL x (by simp)
        have ih := ih (fun y hy => hL y (by simp [hy]))
        simp only [List.map_cons, StL.get]
        by_cases hj : x.1 = j
        · rw [if_pos hj, if_neg (by rw [← hj]; exact h1), if_pos hj]; rfl
        · rw [if_neg hj, if_neg hj]; exact ih
    funext j
    simp only [List.all_eq_true, Bool.not_eq_true', decide_eq_false_iff_not] at hS
    have := key S1 (fun x hx => hS x hx) j
    rw [hsub] at this
    rw [← this]
    by_cases hj : j = id
    · rw [if_pos hj, if_pos hj]
    · rw [if_neg hj, if_neg hj]
      simp only [StL.get]
      rw [if_neg (Ne.symm hj)]
  rw [e1, e2] at g
  exact g
end Go.AL
namespace Go.AL
open Go Go.RowKit Go.ChangeShapes Go.WideShapes Go.ChangeMaps
mutual
def T.noU8 : T → Bool
  | .int .u8 _ => false
  | .agg cs => T.noU8L cs
  | .sl sz es => decide (0 < sz) && T.noU8L es
  | .slq _ _ => false
  | _ => true
def T.noU8L : List T → Bool
  | [] => true
  | x :: xs => x.noU8 && T.noU8L xs
end
end Go.AL
namespace Go.AL
open Go Go.RowKit
section
variable {P : Program} {nt : Nat} {ops : Array Oper} {o : Oper} {rest : List Oper} {env : EnvL} {st : StO} {acc : List SD} {K : EnvL → StO → List SD → Prop} {d : Nat}
theorem wV {s x : Operand} {t t2 elem e2 : TypeId} {sz bytes : Nat} {z : Value} {ys : List T} (ho : o.op = .call { callee := .builtin .append, args := #[s, x], argTypes := #[t, t2] }) (hs1 : zm env.get s = .t .nilsl) (hx : zm env.get x = .t (.sl sz ys)) [tu : TyU P t (.slice elem)] [ti : TyI P elem sz bytes z] [tu2 : TyU P t2 (.slice e2)]
    (hside : (decide (z.cells.size = sz) && (decide (0 < sz))) = true)
    (hd : o.dst = some d) (hn : (decide (d < nt)) = true) (hg : zl ops o env = true) (hfr : yv [.loc d] env st = true)
    (hb : ys.length * bytes ≤ 140737488355328) (hm : ys.length ≤ 9223372036854775807)
    (H : LexP P nt ops rest ((d, .row (.loc d)) :: env) ((.loc d, some (.slt elem sz ys)) :: st) (⟨true, [], .row (.loc d), [(.loc d, .slt elem sz ys)], [], [.loc d]⟩ :: acc) K) : LexP P nt ops (o :: rest) env st acc K := by
  simp only [Bool.and_eq_true, decide_eq_true_eq] at hside
  exact qP (vK (R2 := []) (.loc d) ho hs1 tu ti tu2 (by rw [hx]; exact .sl) (by rw [hx]) hside.1 hside.2 (by simp [StL.ids]) (by rw [hx]; rfl) hb hm) hd hn hg rfl hfr H
theorem qI {s x : Operand} {t t2 elem : TypeId} {bytes : Nat} {z : Value} {b : ByteArray} (ho : o.op = .call { callee := .builtin .append, args := #[s, x], argTypes := #[t, t2] }) (hs1 : zm env.get s = .t .nilsl) (hx : zm env.get x = .t (.str b)) [tu : TyU P t (.slice elem)] [ti : TyI P elem 1 bytes z] [tu2 : TyU P t2 .string]
    (hside : (decide (z.cells.size = 1)) = true)
    (hd : o.dst = some d) (hn : (decide (d < nt)) = true) (hg : zl ops o env = true) (hfr : yv [.loc d] env st = true)
    (hb : (zU b).length * bytes ≤ 140737488355328) (hm : (zU b).length ≤ 9223372036854775807)
    (H : LexP P nt ops rest ((d, .row (.loc d)) :: env) ((.loc d, some (.slt elem 1 (zU b))) :: st) (⟨true, [], .row (.loc d), [(.loc d, .slt elem 1 (zU b))], [], [.loc d]⟩ :: acc) K) : LexP P nt ops (o :: rest) env st acc K :=
  qP (vK (R2 := []) (.loc d) ho hs1 tu ti tu2 (by rw [hx]; exact .str rfl) (by rw [hx]) (of_decide_eq_true hside) (by decide) (by simp [StL.ids]) (by rw [hx]; rfl) hb hm) hd hn hg rfl hfr H
end
section
variable {P : Program} {nt : Nat} {ops : Array Oper} {o : Oper} {rest : List Oper} {env : EnvL} {st : StO} {acc : List SD} {K : EnvL → StO → List SD → Prop} {d : Nat}
theorem zaU {f : Operand} {as : Array Operand} {ts : Array TypeId} {g : FuncId} {caps args : List AV} {S : StL} {r r' : AV} {R1 : StL} (l : List (Id × Id)) (ho : o.op = .call { callee := .value f, args := as, argTypes := ts }) (hf : yD (zm env.get f) = some (g, caps)) [hb : FnB P g] (H0 : Spec P g args S r S)
    (hargs : ArgsLE (as.toList.map (zm env.get) ++ caps) (AV.renL (xq l) args)) (hR1 : S.ren (xq l) = R1) (hst : zf1 st R1) (hlen : (decide (as.size + caps.length = args.length)) = true) (hok : zgh S S r l = true) (hrr : r.ren (xq l) = r')
    (hN : (S.ids.filter xN).map (xq l) = []) (hfr : yv [] env st = true)
    (hd : o.dst = some d) (hn : (decide (d < nt)) = true) (hg : zl ops o env = true)
    (H : LexP P nt ops rest ((d, r') :: env) st (⟨true, R1, r', R1, [], []⟩ :: acc) K) : LexP P nt ops (o :: rest) env st acc K := by
  obtain ⟨ok, hloc, hdom⟩ := jS hok
  have hT := zaL (P := P) (ρ := zm env.get) (xq l) ho hf hb H0 ok (of_decide_eq_true hlen) hargs
  rw [hR1, hN, hrr] at hT
  refine vt (N := []) hT hd (of_decide_eq_true hn) (yc hg) (zv hst) (fun id h => .inl h) (fun id h1 h2 => rfl) (fun id h => by simp at h) hfr ?_ H
  funext y
  rw [kU]
  unfold xD
  have hh := zv hst
  cases he : StL.get R1 y with
  | some r1 => exact hh _ (StL.get_mem he)
  | none =>
    simp only
    have : ¬ (y ∈ ([] : List Id) ∨ y ∈ R1.ids) := by
      intro h
      rcases h with h | h
      · simp at h
      · obtain ⟨x, hx, e⟩ := List.mem_map.1 h
        have key : ∀ (L : StL), x ∈ L → StL.get L x.1 ≠ none := by
          intro L
          induction L with
          | nil => intro h; simp at h
          | cons z L ih =>
            intro h
            simp only [StL.get]
            split
            · simp
            · rename_i hne
              rcases List.mem_cons.1 h with rfl | h
              · exact absurd rfl hne
              · exact ih h
        exact key R1 hx (by rw [e]; exact he)
    rw [if_neg this]
end
end Go.AL
set_option linter.unusedSimpArgs false
namespace Go.AL
open Go Go.RowKit
theorem EnvL.get_mem : ∀ (L : EnvL) (s : Nat), L.get s = .junk ∨ (s, L.get s) ∈ L
  | [], s => .inl rfl
  | (t, v) :: L, s => by
    simp only [EnvL.get]
    by_cases e : t = s
    · subst e; rw [if_pos rfl]; exact .inr (by simp)
    · rw [if_neg e]
      rcases EnvL.get_mem L s with h | h
      · exact .inl h
      · exact .inr (by simp [h])
structure RoundT (P : Program) (k : LoopK) (cs : EnvL) (args : List AV) (S S' : StL) : Prop where
  n : args.length = k.params.size
  run : ∀ h m (l : Nat) (arr vs : Array Value) w, Sim h m (StL.get S) w → arr.size = k.nt → (∀ x ∈ cs, RepA h m (arr.getD x.1 undef) x.2) → vs.size = args.length → RepAs h m (fun j => vs[j]?) 0 args →
    w.heap[l]? = some (.loop (k.obj arr)) → h l = none → (∀ id row, StL.get S id = some row → blk (m id) ≠ some l) →
    RoundIn Fence.wide 0 P l k.fn ((k.params.zip vs).foldl (fun tmps (t, a) => tmps.setIfInBounds t a) arr) k.assign k.body w
      fun e w' => e = .returned (.bool true) ∧ ∃ h' m', Sim h' m' (StL.get S') w' ∧ Since h m (StL.get S) w h' m' (StL.get S') w'
theorem Since.sub {h h' : Heap} {m m' : zI} {st st' st2 : zt} {w w' : World} (s : Since h m st w h' m' st' w') (hs : ∀ id row, st2 id = some row → st' id = some row) : Since h m st w h' m' st2 w' :=
  ⟨⟨s.foot.os, s.foot.tape, s.foot.output, s.foot.size, s.foot.keep, s.foot.grow, fun id row b hr => s.foot.fresh id row b (hs id row hr)⟩, s.par⟩
theorem Sim.sub {h : Heap} {m : zI} {st st2 : zt} {w : World} (s : Sim h m st w) (hs : ∀ id row, st2 id = some row → st id = some row) : Sim h m st2 w :=
  ⟨s.imm, fun id row hr => s.rows id row (hs id row hr), fun id row b hr => s.sep id row b (hs id row hr), fun id id' r r' b k1 k2 => s.inj id id' r r' b (hs _ _ k1) (hs _ _ k2)⟩
end Go.AL
set_option linter.unusedSimpArgs false
namespace Go.AL
open Go Go.RowKit
section
variable {P : Program} {o : Oper} {ρ : Operand → AV}
end
section
variable {P : Program} {nt : Nat} {ops : Array Oper} {o : Oper} {rest : List Oper} {env : EnvL} {st : StO} {acc : List SD} {K : EnvL → StO → List SD → Prop} {d : Nat}
end
end Go.AL
set_option linter.unusedSimpArgs false
namespace Go.AL
open Go Go.RowKit
section
variable {P : Program} {nt : Nat}
end
end Go.AL
set_option linter.unusedSimpArgs false
namespace Go.AL
open Go Go.RowKit
section
variable {P : Program}
end
theorem zgI {nt : Nat} {env : Env} {st : zt} (t : Nat) (id : Id) {ty : TypeId} {ts : List T} {x' : AV} (hx : ∀ (h h' : Heap) (m : zI) (b : Nat), m id = .pointer (some ⟨b, 0, none⟩) → h.le h' → RepL h' (Go.AL.hcell h' b) 0 ts → ∀ v, RepA h m v (env t) → RepA h' m v x') (hr : st id = some (.var ty (ts.map .t))) :
    Ghost nt env st (fun s => if s = t then x' else env s) (fun j => if j = id then none else st j) := fun h m a w c => by
  obtain ⟨b, arr, e1, e2, e3, e4⟩ : SimRow h m w id (.var ty (ts.map .t)) := c.sim.rows id _ hr
  obtain ⟨k1, k2⟩ := c.sim.sep id _ b hr (by rw [e1]; rfl)
  let h' : Heap := fun x => if x = b then w.heap[b]? else h x
  have hh : h.le h' := fun x o hx => by
    show (if x = b then w.heap[b]? else h x) = some o
    split
    · rename_i e; subst e; rw [k1] at hx; cases hx
    · exact hx
  have hb' : h' b = some (.cells arr ty (0, 0)) := by show (if b = b then w.heap[b]? else h b) = _; rw [if_pos rfl]; exact e2
  have hcell : ∀ j u, arr[j]? = some u → hcell h' b j = some u := fun j u hu => by
    simp [Go.AL.hcell, hb', hu]
  have clean0 : ∀ x : AV, x.clean [] = true := fun x => by have := (x8 [x]).1; simpa [AV.cleanL] using this
  have hrow : ∀ y row, (fun j => if j = id then none else st j) y = some row → y ≠ id ∧ st y = some row := fun y row hy => by
    simp only at hy
    split at hy
    · cases hy
    · rename_i e; exact ⟨e, hy⟩
  refine c.step (h' := h') (m' := m) ⟨fun x o hx => ?_, fun y row hy => ?_, fun y row b' hy hb => ?_, fun y y' r r' b' hy hy' hb hb' => ?_⟩ (fun s => ?_) ⟨⟨rfl, rfl, rfl, Nat.le_refl _, fun x hx hn => ⟨rfl, ?_⟩, hh, fun y row b' hy hb => ?_⟩, fun _ => rfl⟩
  · by_cases e : x = b
    · subst e; rw [hb'] at hx; cases hx; exact e2
    · have : h x = some o := by simpa [h', e] using hx
      exact c.sim.imm x o this
  · obtain ⟨_, hy⟩ := hrow y row hy
    refine SimRow.mono (N := []) hh (fun _ _ => rfl) (by simp) ?_ (fun _ _ => rfl) (c.sim.rows y row hy)
    exact ((vj (fun _ => AV.junk) st).2 y row hy).2
  · obtain ⟨hne, hy⟩ := hrow y row hy
    obtain ⟨q1, q2⟩ := c.sim.sep y row b' hy hb
    refine ⟨?_, q2⟩
    show (if b' = b then w.heap[b]? else h b') = none
    rw [if_neg]
    · exact q1
    · rintro rfl
      exact hne (c.sim.inj y id row _ b' hy hr hb (by rw [e1]; rfl))
  · exact c.sim.inj y y' r r' b' (hrow y r hy).2 (hrow y' r' hy').2 hb hb'
  · by_cases e : s = t
    · subst e
      rw [if_pos rfl]
      refine hx h h' m b e1 hh ?_ _ (c.env s)
      have key : ∀ (ts : List T) (o : Nat), RepAL h m (fun j => arr[j]?) o (ts.map .t) → RepL h' (Go.AL.hcell h' b) o ts := by
        intro ts
        induction ts with
        | nil => intro o _; simp [RepL]
        | cons x ts ih =>
          intro o H
          simp only [List.map_cons, RepAL, RepA] at H
          simp only [RepL]
          obtain ⟨⟨u, q1, q2, q3⟩, q4⟩ := H
          exact ⟨⟨u, hcell o u q1, q2, q3.mono hh⟩, ih (o + 1) q4⟩
      exact key ts 0 e4
    · rw [if_neg e]
      exact RepA.mono (N := []) hh (fun _ _ => rfl) (clean0 _) (c.env s)
  · show (if x = b then w.heap[b]? else h x) = h x
    rw [if_neg]
    rintro rfl
    exact hn id _ hr (by rw [e1]; rfl)
  · obtain ⟨_, hy⟩ := hrow y row hy
    exact .inr ⟨y, row, hy, hb⟩
theorem zfS {nt : Nat} {env env' : EnvL} {st st' : StO} (t : Nat) (id : Id) {ty : TypeId} {cs : List AV} {ts : List T} {x x' : AV} (ht : EnvL.get env t = x) (hx : ∀ (h h' : Heap) (m : zI) (b : Nat), m id = .pointer (some ⟨b, 0, none⟩) → h.le h' → RepL h' (Go.AL.hcell h' b) 0 ts → ∀ v, RepA h m v x → RepA h' m v x') (hr : StO.get st id = some (.var ty cs)) (hcs : cs = ts.map .t) (he : (t, x') :: env = env') (hs : (id, none) :: st = st') : Ghost nt env.get st.get env'.get st'.get := by
  subst he; subst hs; subst hcs; subst ht
  have g := zgI (nt := nt) (env := env.get) (st := st.get) t id hx hr
  have e1 : (fun s => if s = t then x' else env.get s) = EnvL.get ((t, x') :: env) := by
    funext s
    by_cases e : s = t
    · subst e; simp [EnvL.get]
    · simp [EnvL.get, e, Ne.symm e]
  have e2 : (fun j => if j = id then none else st.get j) = StO.get ((id, none) :: st) := by
    funext j
    by_cases e : j = id
    · subst e; simp [StO.get]
    · simp [StO.get, e, Ne.symm e]
  rw [e1, e2] at g
  exact g
theorem ziN {id : Id} {ts : List T} (h h' : Heap) (m : zI) (b : Nat) (e : m id = .pointer (some ⟨b, 0, none⟩)) (hh : h.le h') (hl : RepL h' (Go.AL.hcell h' b) 0 ts) (v : Value) (H : RepA h m v (.ref id 0 0 0)) : RepA h' m v (.tp (.agg ts) 0) := by
  simp only [RepA] at H ⊢
  obtain ⟨b', e1, e2⟩ := H
  rw [e] at e1
  simp only [blk, Option.some.injEq] at e1
  subst e1
  exact ⟨b, 0, by rw [e2], hl⟩
theorem zgj {nt : Nat} {env env' : EnvL} {st st' : StO} (t : Nat) (id : Id) {ty : TypeId} {cs : List AV} (ts : List T) (ht : EnvL.get env t = .ref id 0 0 0) (hr : StO.get st id = some (.var ty cs)) (hcs : cs = ts.map .t) (he : (t, .tp (.agg ts) 0) :: env = env') (hs : (id, none) :: st = st') : Ghost nt env.get st.get env'.get st'.get :=
  zfS t id ht ziN hr hcs he hs
section
variable {P : Program} {nt : Nat}
theorem zgF {env env' : EnvL} {st : StO} (t : Nat) {x y : T} (ht : env.get t = .t x) (e : TLe x y) (he : (t, .t y) :: env = env') : Ghost nt env.get st.get env'.get st.get := by
  subst he
  refine jY (fun s => ?_) fun id row h => h
  by_cases hs : t = s
  · subst hs
    have : EnvL.get ((t, AV.t y) :: env) t = .t y := by simp [EnvL.get]
    rw [ht, this]; exact e.av
  · have : EnvL.get ((t, AV.t y) :: env) s = env.get s := by simp [EnvL.get, hs]
    rw [this]; exact AVLE.refl _
end
theorem vX {h : Heap} {m : zI} {g : Nat → Option Value} : ∀ {es : List T} {o : Nat}, (∀ e ∈ es, e.isAgg = false) → (RepAL h m g o (es.map AV.t) ↔ RepEs h g o 1 es)
  | [], o, _ => by simp [RepAL, RepEs]
  | e :: es, o, hc => by
    have ih := vX (h := h) (m := m) (g := g) (es := es) (o := o + 1) (fun x hx => hc x (by simp [hx]))
    have h1 := hc e (by simp)
    cases e <;> simp [T.isAgg] at h1 <;> simp [RepAL, RepEs, RepA, ih, List.map_cons]
theorem RowLE.arr {ty : TypeId} {cs : List AV} {es : List T} (e : cs = es.map AV.t) (hc : ∀ x ∈ es, x.isAgg = false) : RowLE (.var ty cs) (.arr ty 1 es) := fun h m w id H => by
  subst e
  obtain ⟨b, arr, h1, h2, h3, h4⟩ := H
  exact ⟨b, arr, h1, h2, by simpa using h3, (vX hc).1 h4⟩
theorem RowLE.unarr {ty : TypeId} {cs : List AV} {es : List T} (e : cs = es.map AV.t) (hc : ∀ x ∈ es, x.isAgg = false) : RowLE (.arr ty 1 es) (.var ty cs) := fun h m w id H => by
  subst e
  obtain ⟨b, arr, h1, h2, h3, h4⟩ := H
  exact ⟨b, arr, h1, h2, by simpa using h3, (vX hc).2 h4⟩
section
variable {P : Program} {nt : Nat} {ops : Array Oper} {o : Oper} {rest : List Oper} {env : EnvL} {st : StO} {acc : List SD} {K : EnvL → StO → List SD → Prop} {d : Tmp}
theorem qV {t elem : TypeId} {len : Nat} {x ix : Operand} {cs : List T} {y : T} {k : IntKind} {i : Int} {dd : TypeDesc} {bytes : Nat} {z : Value} (ho : o.op = .index t x ix) (hx : zm env.get x = .t (.agg cs)) (hi : zm env.get ix = .t (.int k i)) [tu : TyU P t (.array len elem)] [te : TyU P elem dd] (ha : yz dd = false) [ti : TyI P elem 1 bytes z] (hy : cs[i.toNat]? = some y) (hd : o.dst = some d) (hn : (decide (d < nt)) = true) (hg : zl ops o env = true) (h0 : 0 ≤ i) (h1 : i < (len : Int))
    (H : LexP P nt ops rest ((d, .t y) :: env) st (⟨true, [], .t y, [], [], []⟩ :: acc) K) : LexP P nt ops (o :: rest) env st acc K :=
  zH (zaC ho hx hi tu te ha ti h0 h1 hy) hd hn hg H
theorem wJ {α : Type} [Inhabited α] {f : α → T} {l : List α} {t elem : TypeId} {len : Nat} {x ix : Operand} {k : IntKind} {i : Int} {dd : TypeDesc} {bytes : Nat} {z : Value} (ho : o.op = .index t x ix) (hx : zm env.get x = .t (.agg (l.map f))) (hi : zm env.get ix = .t (.int k i)) [tu : TyU P t (.array len elem)] [te : TyU P elem dd] (ha : yz dd = false) [ti : TyI P elem 1 bytes z] (hd : o.dst = some d) (hn : (decide (d < nt)) = true) (hg : zl ops o env = true) (h0 : 0 ≤ i) (h1 : i < (len : Int)) (h2 : i < (l.length : Int))
    (H : LexP P nt ops rest ((d, .t (f (l.getD i.toNat default))) :: env) st (⟨true, [], .t (f (l.getD i.toNat default)), [], [], []⟩ :: acc) K) : LexP P nt ops (o :: rest) env st acc K :=
  qV ho hx hi ha (by (have : i.toNat < l.length := (by omega)); rw [List.getElem?_map]; simp [List.getD_eq_getElem?_getD, this]) hd hn hg h0 h1 H
theorem yO {α : Type} [Inhabited α] {f : α → T} {l : List α} {ty : TypeId} {p : Operand} {id : Id} {i sz off : Nat} {e : TypeId} {dd : TypeDesc} {y : T} (ho : o.op = .load ty p) (hp : zm env.get p = .ref id i sz off) [tu : TyU P ty dd] (ha : yz dd = false) (hst : StO.get st id = some (.arr e sz (l.map f))) (hy : (f (l.getD i default)).cells[off]? = some y) (hd : o.dst = some d) (hn : (decide (d < nt)) = true) (hg : zl ops o env = true) (hx : i < l.length)
    (H : LexP P nt ops rest ((d, .t y) :: env) st (⟨true, [(id, .arr e sz (l.map f))], .t y, [(id, .arr e sz (l.map f))], [], []⟩ :: acc) K) : LexP P nt ops (o :: rest) env st acc K :=
  zdt ho hp ha hst hd hn hg (x := f (l.getD i default)) (by rw [List.getElem?_map]; simp [List.getD_eq_getElem?_getD, hx]) hy H
theorem yC {α : Type} {f : α → T} {l : List α} {v : α} {ty : TypeId} {p x : Operand} {id : Id} {i sz : Nat} {aty : TypeId} {bytes : Nat} {z : Value} (ho : o.op = .store ty p x) (hp : zm env.get p = .ref id i sz 0) [ti : TyI P ty sz bytes z] (hst : StO.get st id = some (.arr aty sz (l.map f))) (hx : zm env.get x = .t (f v)) (hd : o.dst = none) (hg : zl ops o env = true) (hy : (f v).cells.length = sz) (hi : i < l.length)
    (H : LexP P nt ops rest env ((id, some (.arr aty sz ((l.set i v).map f))) :: st) (⟨true, [(id, .arr aty sz (l.map f))], .junk, [(id, .arr aty sz ((l.set i v).map f))], [id], []⟩ :: acc) K) : LexP P nt ops (o :: rest) env st acc K := by
  refine zbw ho hp hx hst hd hg hy (by simpa using hi) ?_
  rw [show (l.map f).set i (f v) = (l.set i v).map f by simp]
  exact H
theorem qW {ty : TypeId} {p : Operand} {id : Id} {es : List T} {e : TypeId} {dd : TypeDesc} {s0 size bytes : Nat} {z : Value} (ho : o.op = .load ty p) (hp : zm env.get p = .ref id 0 s0 0) [tu : TyU P ty dd] (ha : yz dd = true) [ti : TyI P ty size bytes z] (hst : StO.get st id = some (.arr e 1 es)) (hl : (decide (es.length = size)) = true) (hc : es.all (fun x => !x.isAgg) = true) (hd : o.dst = some d) (hn : (decide (d < nt)) = true) (hg : zl ops o env = true)
    (H : LexP P nt ops rest ((d, .t (.agg es)) :: env) st (⟨true, [(id, .arr e 1 es)], .t (.agg es), [(id, .arr e 1 es)], [], []⟩ :: acc) K) : LexP P nt ops (o :: rest) env st acc K := by
  have hc' : ∀ x ∈ es, x.isAgg = false := fun x hx => by simpa using List.all_eq_true.1 hc x hx
  refine xA hst (yK fun h m a w hs hr => ?_) hd hn hg H
  have r1 := hr p (by simp [ho, Op.operands])
  rw [hp] at r1
  obtain ⟨b, hb, e1⟩ := r1
  obtain ⟨b', arr, h1, h2, h3, h4⟩ := xi hs (zM id _)
  rw [h1] at hb
  obtain rfl : b' = b := by simpa [blk] using hb
  have h4' := (vX (m := m) hc').2 h4
  have h5 : RepL h (fun j => arr[j]?) 0 es := xg h4'
  have hsz : arr.size = size := by have := of_decide_eq_true hl; omega
  refine ⟨.agg arr, ?_, ⟨arr, rfl, by omega, h5⟩⟩
  have e2 : a.eval p = .pointer (some ⟨b', 0, none⟩) := by simpa using e1
  have hload := xb (P := P) (w := w) tu ha ti (a := ⟨b', 0, none⟩) (vs := arr.toList) (by simpa using hsz) (fun j v hj => by
    rw [yS, yn h2]; simpa using hj)
  have hl2 : (Instr.loadAt ty (.pointer (some ⟨b', 0, none⟩))).run P w = .ok (.agg arr) w := by rw [xF, hload]
  simp [execOp, ho, e2, hl2]
end
theorem PartsOK.mono {place place' : Nat → Option (Nat × Nat)} (hm : ∀ i p, place i = some p → place' i = some p) {ρ : Operand → AV} {n : Nat} : ∀ {ps : List (Nat × Operand)} {qs : List (Nat × AV)}, PartsOK place ρ n ps qs → PartsOK place' ρ n ps qs
  | [], [], H => H
  | (i, x) :: ps, (off, y) :: qs, H => ⟨⟨H.1.1, H.1.2.1, hm _ _ H.1.2.2.1, H.1.2.2.2⟩, PartsOK.mono hm H.2⟩
  | [], _ :: _, H => H.elim
  | _ :: _, [], H => H.elim
theorem zaW {P : Program} {o : Oper} {ρ : Operand → AV} {t elem : TypeId} {parts : Array (Nat × Operand)} {len sz eb size bytes : Nat} {ez z : Value} {qs : List (Nat × AV)} (ho : o.op = .build t parts) (tu : TyU P t (.array len elem)) (te : TyI P elem sz eb ez) (ti : TyI P t size bytes z) (hz : z.cells.size = size) (hz1 : ∀ v ∈ z.cells.toList, v.oneCell' = true)
    (hp : PartsOK (fun i => some (i * sz, sz)) ρ size parts.toList qs) : OpT P o ρ (StL.get []) (qp (jh (z.cells.toList.map xB) qs)) (StL.get []) [] :=
  zC fun h m A w _ hrep => by
    obtain ⟨cells', k1, k2, k3, k4⟩ := kx (a := A) (h := h) (m := m) (cells := z.cells) (cs := z.cells.toList.map xB) hp (fun x hx => hrep x.2 (by simp [ho, Op.operands]; exact ⟨x.1, by simpa using hx⟩)) hz (by simpa using hz) (jy h m _ _ _ (fun j v hv => by simpa using hv) hz1)
    refine ⟨.agg cells', ?_, ve (by omega) k4⟩
    have hmap : (parts.map fun (x : Nat × Operand) => (x.1, A.eval x.2)).toList = parts.toList.map fun p => (p.1, A.eval p.2) := by simp
    simp only [execOp, ho, Instr.build, Sem.run_bind, yp ti, Result.andThen_ok, run_underlying tu.h, yy te]
    rw [hmap, k1]
    rfl
section
variable {P : Program} {nt : Nat} {ops : Array Oper} {o : Oper} {rest : List Oper} {env : EnvL} {st : StO} {acc : List SD} {K : EnvL → StO → List SD → Prop} {d : Nat}
theorem yU {t elem : TypeId} {parts : Array (Nat × Operand)} {len sz eb size bytes : Nat} {ez z : Value} {qs : List (Nat × AV)} {r : AV} (ho : o.op = .build t parts) [tu : TyU P t (.array len elem)] [te : TyI P elem sz eb ez] [ti : TyI P t size bytes z]
    (hz : (decide (z.cells.size = size) && z.cells.toList.all Value.oneCell') = true) (hq : jW ((List.range len).map fun i => (i * sz, sz)) size (parts.toList.map fun p => (p.1, zm env.get p.2)) = some qs) (hr : qp (jh (z.cells.toList.map xB) qs) = r) (hd : o.dst = some d) (hn : (decide (d < nt)) = true) (hg : zl ops o env = true)
    (H : LexP P nt ops rest ((d, r) :: env) st (⟨true, [], r, [], [], []⟩ :: acc) K) : LexP P nt ops (o :: rest) env st acc K := by
  subst hr
  simp only [Bool.and_eq_true, decide_eq_true_eq, List.all_eq_true] at hz
  have hp := (vR hq).mono (place' := fun i => some (i * sz, sz)) fun i p hi => by
    rw [List.getElem?_map] at hi
    obtain ⟨j, h1, h2⟩ := Option.map_eq_some_iff.1 hi
    obtain ⟨h3, h4⟩ := List.getElem?_eq_some_iff.1 h1
    rw [List.getElem_range] at h4
    subst h4
    rw [← h2]
  exact zH (zaW (P := P) (ρ := zm env.get) ho tu te ti hz.1 hz.2 hp) hd hn hg H
end
theorem zh0 {h : Heap} {g : Nat → Option Value} {es : List T} {o : Nat} (hc : ∀ e ∈ es, e.isAgg = false) (H : RepL h g o es) : RepEs h g o 1 es :=
  (vX (m := fun _ => undef) hc).1 (we H)
theorem zaM {P : Program} {o : Oper} {ρ : Operand → AV} {t elem : TypeId} {x : Operand} {len eb : Nat} {ez : Value} {es : List T} (ho : o.op = .slice t x none none none) (hx : ρ x = .tp (.agg es) 0) (tu : TyU P t (.array len elem)) (te : TyI P elem 1 eb ez) (hl : es.length = len) (hm : len ≤ maxLen) (hc : ∀ e ∈ es, e.isAgg = false) :
    OpT P o ρ (StL.get []) (.t (.sl 1 es)) (StL.get []) [] :=
  zC fun h m A w _ hr => by
    have h1 := hr x (by simp [ho, Op.operands])
    rw [hx] at h1
    obtain ⟨b, q, e1, e2⟩ := h1
    have e3 : A.eval x = .pointer (some ⟨b, q, none⟩) := by simpa using e1
    refine ⟨.slice (some ⟨b, q, none⟩) len len, ?_, ⟨some ⟨b, q, none⟩, len, len, rfl, hl.symm, Nat.le_refl _, ⟨hm, fun e => by cases e⟩, fun _ => ⟨b, q, rfl, zh0 hc e2⟩⟩⟩
    simp [execOp, ho, e3, Instr.sliceAt, run_underlying tu.h, Instr.sureAddr, Instr.sliceBounds, yy te, yS]
section
variable {P : Program} {nt : Nat} {ops : Array Oper} {o : Oper} {rest : List Oper} {env : EnvL} {st : StO} {acc : List SD} {K : EnvL → StO → List SD → Prop} {d : Nat}
theorem zbD {t elem : TypeId} {x : Operand} {len eb : Nat} {ez : Value} {es : List T} (ho : o.op = .slice t x none none none) (hx : zm env.get x = .tp (.agg es) 0) [tu : TyU P t (.array len elem)] [te : TyI P elem 1 eb ez] (hm : (decide (len ≤ maxLen)) = true) (hd : o.dst = some d) (hn : (decide (d < nt)) = true) (hg : zl ops o env = true) (hl : es.length = len) (hc : ∀ e ∈ es, e.isAgg = false)
    (H : LexP P nt ops rest ((d, .t (.sl 1 es)) :: env) st (⟨true, [], .t (.sl 1 es), [], [], []⟩ :: acc) K) : LexP P nt ops (o :: rest) env st acc K :=
  zH (zaM ho hx tu te hl (of_decide_eq_true hm) hc) hd hn hg H
end
end Go.AL
set_option linter.unusedSimpArgs false
namespace Go.AL
open Go Go.RowKit
class Lies (P : Program) (e : TypeId) (n : Nat) (u : TypeId) : Prop where
  h : liesAt P P.depth e (n / P.cellsOf e) 0 u 1 = true
class CellsOf (P : Program) (e : TypeId) (n : Nat) : Prop where
  h : P.cellsOf e = n
class NoEsc (P : Program) (f : FuncId) : Prop where
  h : ∀ (x : Value) (w : World), (callFunc f #[x]).run P w = .ok (.value x) w
theorem NoEsc.of {P : Program} {f : FuncId} {fn : Func} (hf : P.funcs[f]? = some fn) (hname : (fn.name == "runtime.NumGoroutine") = false)
    (hb : fn.body.isNone = true) (hn : Extern.findNext fn = none) (he : Extern.find fn = some Extern.AbiNoEscape.same) : NoEsc P f :=
  ⟨fun x w => by rw [run_callFunc_extern hf hname hb hn he]; rfl⟩
def j9 : AV → Option Bool
  | .t .nilp => some true
  | .ref .. => some false
  | .tp .. => some false
  | _ => none
section
variable {P : Program} {o : Oper} {ρ : Operand → AV}
theorem zaO {ty yt e : TypeId} {x y : Operand} {r : AV} {b : Bool} (ho : o.op = .binOp .eql ty x y yt) (hx : ρ x = r) (hr : j9 r = some b) (hy : ρ y = .t .nilp) (tu : TyU P ty (.pointer e)) :
    OpT P o ρ (StL.get []) (.t (.bool b)) (StL.get []) [] :=
  zC fun h m A w _ hrep => by
    have r1 := hrep x (by simp [ho, Op.operands])
    have r2 := hrep y (by simp [ho, Op.operands])
    rw [hx] at r1
    rw [hy] at r2
    simp only [RepA, RepT] at r2
    have h1 : ∃ p : Option Addr, A.eval x = .pointer p ∧ p.isNone = b := by
      cases r with
      | t z => cases z <;> simp [j9] at hr; subst hr; exact ⟨none, r1, rfl⟩
      | ref id i sz off => simp [j9] at hr; subst hr; obtain ⟨b', _, e⟩ := r1; exact ⟨_, e, rfl⟩
      | tp z off => simp [j9] at hr; subst hr; obtain ⟨b', q, e, _⟩ := r1; exact ⟨_, e, rfl⟩
      | _ => simp [j9] at hr
    obtain ⟨p, e1, e2⟩ := h1
    have hrun : (binOp .eql ty (.pointer p) (.pointer none)).run P w = .ok (.bool b) w := by
      have h2 : ∀ d : Nat, (Op.equalIn (d + 1) ty (.pointer p) (.pointer none)).run P w = .ok b w := fun d => by
        cases p with
        | none => simp at e2; subst e2; simp [Op.equalIn, run_underlying tu.h]
        | some a => simp at e2; subst e2; simp [Op.equalIn, run_underlying tu.h]
      simp only [binOp]
      simp [Op.equal, Op.maxDepth, h2 9999, eqGuard]
    exact ⟨.bool b, by simp [execOp, ho, e1, r2, hrun, eqGuard], by simp [RepA, RepT]⟩
theorem jL {ty yt e : TypeId} {x y : Operand} {id : Id} {i sz off : Nat} {s bts : Nat} {z : Value} (ho : o.op = .binOp .neq ty x y yt) (hx : ρ x = .ref id i sz off) (hy : ρ y = .ref id i sz off) (tu : TyU P ty (.pointer e)) (ti : TyI P e s bts z) :
    OpT P o ρ (StL.get []) (.t (.bool false)) (StL.get []) [] :=
  zC fun h m A w _ hrep => by
    have r1 := hrep x (by simp [ho, Op.operands])
    have r2 := hrep y (by simp [ho, Op.operands])
    rw [hx] at r1
    rw [hy] at r2
    obtain ⟨b, h1, e1⟩ := r1
    obtain ⟨b', h2, e2⟩ := r2
    rw [h1] at h2
    cases h2
    obtain ⟨j, hj, _⟩ := ti.get
    have hrun := Lib.run_neq_ptr_same (w := w) (⟨b, i * sz + off, none⟩ : Addr) tu.h hj
    exact ⟨.bool false, by simp [execOp, ho, e1, e2, hrun, eqGuard], by simp [RepA, RepT]⟩
theorem zbO {src dst t vty : TypeId} {x : Operand} {id : Id} {s0 : Nat} {cs : List AV} {size bytes : Nat} {z : Value} (ho : o.op = .convert src dst x) (hx : ρ x = .ref id 0 s0 0) (ts : TyU P src (.pointer t)) (td : TyU P dst .unsafePointer) (ti : TyI P t size bytes z) (hs : size ≠ 0) (hc : 0 < cs.length) :
    OpT P o ρ (StL.get [(id, .var vty cs)]) (.ref id 0 s0 0) (StL.get [(id, .var vty cs)]) [] :=
  yK fun h m A w hs' hrep => by
    have r1 := hrep x (by simp [ho, Op.operands])
    rw [hx] at r1
    have r1' := r1
    obtain ⟨b, hb, e1⟩ := r1
    obtain ⟨b', arr, h1, h2, h3, h4⟩ := xi hs' (zM id _)
    rw [h1] at hb
    obtain rfl : b' = b := by simpa [blk] using hb
    obtain ⟨j, hj, hj1, _⟩ := ti.get
    have e2 : A.eval x = .pointer (some ⟨b', 0, none⟩) := by simpa using e1
    have hsh : w.shape? (⟨b', 0, none⟩ : Addr).block = some (vty, arr.size) := by simp [World.shape?, h2]
    have hrun := Lib.run_to_unsafe (w := w) (P := P) (⟨b', 0, none⟩ : Addr) ts.h td.h hj (by rw [hj1]; exact hs) hsh (by show 0 < arr.size; omega)
    exact ⟨.pointer (some ⟨b', 0, none⟩), by simp [execOp, ho, e2, hrun], b', by rw [h1]; rfl, by simp⟩
theorem jI {src dst t vty : TypeId} {x : Operand} {id : Id} {s0 : Nat} {cs : List AV} {size bytes : Nat} {z : Value} (ho : o.op = .convert src dst x) (hx : ρ x = .ref id 0 s0 0) (ts : TyU P src .unsafePointer) (td : TyU P dst (.pointer t)) (ti : TyI P t size bytes z) (hl : Lies P vty cs.length t) :
    OpT P o ρ (StL.get [(id, .var vty cs)]) (.ref id 0 s0 0) (StL.get [(id, .var vty cs)]) [] :=
  yK fun h m A w hs' hrep => by
    have r1 := hrep x (by simp [ho, Op.operands])
    rw [hx] at r1
    obtain ⟨b, hb, e1⟩ := r1
    obtain ⟨b', arr, h1, h2, h3, h4⟩ := xi hs' (zM id _)
    rw [h1] at hb
    obtain rfl : b' = b := by simpa [blk] using hb
    obtain ⟨j, hj, hj1, _⟩ := ti.get
    have e2 : A.eval x = .pointer (some ⟨b', 0, none⟩) := by simpa using e1
    have hsh : w.shape? (⟨b', 0, none⟩ : Addr).block = some (vty, arr.size) := by simp [World.shape?, h2]
    have hrun := Lib.run_from_unsafe (w := w) (P := P) (⟨b', 0, none⟩ : Addr) ts.h td.h hj hsh (by rw [h3]; exact hl.h)
    exact ⟨.pointer (some ⟨b', 0, none⟩), by simp [execOp, ho, e2, hrun], b', by rw [h1]; rfl, by simp⟩
theorem zfy {f x : Operand} {ts : Array TypeId} {g : FuncId} {r : AV} (ho : o.op = .call { callee := .value f, args := #[x], argTypes := ts }) (hf : yD (ρ f) = some (g, [])) (hg : NoEsc P g) (hx : ρ x = r) :
    OpT P o ρ (StL.get []) r (StL.get []) [] :=
  zC fun h m A w _ hrep => by
    have r1 := hrep f (by simp [ho, Op.operands, Call.operands])
    have r2 := hrep x (by simp [ho, Op.operands, Call.operands])
    rw [hx] at r2
    have e1 : A.eval f = .func (.func g) #[] #[] := by
      cases e : ρ f with
      | t y =>
        cases y with
        | fn g' =>
          rw [e] at hf r1
          simp only [yD, Option.some.injEq, Prod.mk.injEq] at hf
          simp only [RepA, RepT] at r1
          rw [r1, hf.1]
        | _ => rw [e] at hf; simp [yD] at hf
      | fn g' cs =>
        rw [e] at hf r1
        simp only [yD, Option.some.injEq, Prod.mk.injEq] at hf
        obtain ⟨rfl, rfl⟩ := hf
        obtain ⟨vs, e1, e2, _⟩ := r1
        have : vs = #[] := Array.eq_empty_of_size_eq_zero (by simpa using e2)
        rw [e1, this]
      | _ => rw [e] at hf; simp [yD] at hf
    exact ⟨A.eval x, by simp [execOp, ho, resolve, e1, Deferred.ofValue, invoke, hg.h], r2⟩
theorem za5 {t e' : TypeId} {x : Operand} {id : Id} {sz : Nat} {es : List T} (ho : o.op = .call { callee := .builtin .unsafeSliceData, args := #[x], argTypes := #[t] }) (hx : ρ x = .row id) (hne : es ≠ []) :
    OpT P o ρ (StL.get [(id, .slt e' sz es)]) (.ref id 0 sz 0) (StL.get [(id, .slt e' sz es)]) [] :=
  yK fun h m A w hs hrep => by
    have r1 := hrep x (by simp [ho, Op.operands, Call.operands])
    rw [hx] at r1
    obtain ⟨xs, ⟨k1, k2⟩, k3⟩ := xi hs (zM id _)
    have hl : es.length ≠ 0 := by simpa using hne
    rcases k2 with ⟨hv, hn⟩ | ⟨g, cap, cur, lo, hi', hv, hg, hz, hc1, hc2, hc3, hc4⟩
    · exact absurd hn hl
    · have hrun := Lib.run_unsafeSliceData_row (P := P) (w := w) #[t] o.type ⟨g, 0, none⟩ es.length cap (by omega)
      exact ⟨.pointer (some ⟨g, 0, none⟩), by simp [execOp, ho, resolve, invoke, builtin, r1.1, hv, hrun], g, by rw [hv]; rfl, by simp⟩
theorem kf {pt it e : TypeId} {x n : Operand} {id : Id} {l : List UInt8} (ho : o.op = .call { callee := .builtin .unsafeString, args := #[x, n], argTypes := #[pt, it] }) (hx : ρ x = .ref id 0 1 0) (hn : ρ n = .t (.int .i64 (l.length : Int))) (tp : TyU P pt (.pointer e)) (hc : CellsOf P e 1) (hne : l ≠ []) (hb : l.length ≤ 9223372036854775807) :
    OpT P o ρ (StL.get [(id, .slt e 1 (l.map u8T))]) (.t (.str ⟨l.toArray⟩)) (StL.get []) [] := by
  refine OpT.of ?_
  intro h m a w hs hr K Q hK
  have r1 := hr x (by simp [ho, Op.operands, Call.operands])
  have r2 := hr n (by simp [ho, Op.operands, Call.operands])
  rw [hx] at r1
  rw [hn] at r2
  simp only [RepA, RepT] at r2
  obtain ⟨b, hb1, e1⟩ := r1
  obtain ⟨xs, ⟨k1, k2⟩, k3⟩ := xi hs (zM id _)
  have hl : l.length ≠ 0 := by simpa using hne
  rcases k2 with ⟨hv, hn0⟩ | ⟨g, cap, cur, lo, hi', hv, hg, hz, hc1, hc2, hc3, hc4⟩
  · exact absurd hn0 (by simpa using hne)
  · rw [hv] at hb1
    obtain rfl : g = b := by simpa [blk] using hb1
    have e2 : a.eval x = .pointer (some ⟨g, 0, none⟩) := by simpa using e1
    rw [List.length_map] at hc1 hc4 k1
    have hsh : w.shape? g = some (e, cur.size) := by simp [World.shape?, hg]
    have hcell : ∀ j y, l[j]? = some y → w.cell? ((⟨g, 0, none⟩ : Addr).add j) = some (.int .u8 y.toNat) := fun j y hj => by
      have hj' : (l.map u8T)[j]? = some (u8T y) := by rw [List.getElem?_map, hj]; rfl
      obtain ⟨q1, q2⟩ := xw k3 hj'
      simp only [u8T, T.cells, RepL, RepT, and_true, Nat.zero_add, Nat.mul_one] at q2
      obtain ⟨u, hu, _, rfl⟩ := q2
      rw [← hc4] at hu
      rw [yS, yn hg]
      rw [List.getElem?_take] at hu
      split at hu
      · simpa using hu
      · cases hu
    have hrun := Lib.run_unsafeString_row (P := P) (w := w) pt it o.type e tp.h hc.h g cur.size hsh l hne (by omega) hb hcell
    have hex : (execOp a.eval o).run P w = .ok (.value (.string ⟨l.toArray⟩)) (w.freeze ⟨g, 0, none⟩ l.length) := by
      simp [execOp, ho, resolve, invoke, builtin, e2, r2, hrun]
    unfold Oper.wp
    rw [hex]
    have hoth : ∀ k, k ≠ g → (w.freeze ⟨g, 0, none⟩ l.length).heap[k]? = w.heap[k]? := fun k hk => by unfold World.freeze; rw [if_neg hl]; simp [Array.getElem?_modify, Ne.symm hk]
    have hsz : (w.freeze ⟨g, 0, none⟩ l.length).heap.size = w.heap.size := by unfold World.freeze; rw [if_neg hl]; simp
    obtain ⟨s1, s2⟩ := hs.sep id _ g (zM id _) (by rw [hv]; rfl)
    refine hK _ h m _ (by simp [RepA, RepT]) ⟨fun b' ob hb' => ?_, fun _ _ hx => by simp [StL.get] at hx, fun _ _ _ hx => by simp [StL.get] at hx, fun _ _ _ _ _ hx => by simp [StL.get] at hx⟩
      ⟨by unfold World.freeze; rw [if_neg hl], by unfold World.freeze; rw [if_neg hl], by unfold World.freeze; rw [if_neg hl], by rw [hsz]; exact Nat.le_refl _, fun b' hb' hno => ⟨hoth b' fun e => hno id _ (zM id _) (by rw [hv, e]; rfl), rfl⟩, fun _ _ hu => hu, fun _ _ _ hx => by simp [StL.get] at hx⟩ fun _ _ => rfl
    have hne' : b' ≠ g := fun e => by rw [e, s1] at hb'; cases hb'
    rw [hoth b' hne']; exact hs.imm b' ob hb'
end
section
variable {P : Program} {nt : Nat} {ops : Array Oper} {o : Oper} {rest : List Oper} {env : EnvL} {st : StO} {acc : List SD} {K : EnvL → StO → List SD → Prop} {d : Nat}
theorem qX {ty yt e : TypeId} {x y : Operand} {r : AV} {b : Bool} (ho : o.op = .binOp .eql ty x y yt) (hx : zm env.get x = r) (hr : j9 r = some b) (hy : zm env.get y = .t .nilp) [tu : TyU P ty (.pointer e)] (hd : o.dst = some d) (hn : (decide (d < nt)) = true) (hg : zl ops o env = true)
    (H : LexP P nt ops rest ((d, .t (.bool b)) :: env) st (⟨true, [], .t (.bool b), [], [], []⟩ :: acc) K) : LexP P nt ops (o :: rest) env st acc K :=
  zH (zaO ho hx hr hy tu) hd hn hg H
theorem zaq {ty yt e : TypeId} {x y : Operand} {id : Id} {i sz off s bts : Nat} {z : Value} (ho : o.op = .binOp .neq ty x y yt) (hx : zm env.get x = .ref id i sz off) (hy : zm env.get y = .ref id i sz off) [tu : TyU P ty (.pointer e)] [ti : TyI P e s bts z] (hd : o.dst = some d) (hn : (decide (d < nt)) = true) (hg : zl ops o env = true)
    (H : LexP P nt ops rest ((d, .t (.bool false)) :: env) st (⟨true, [], .t (.bool false), [], [], []⟩ :: acc) K) : LexP P nt ops (o :: rest) env st acc K :=
  zH (jL ho hx hy tu ti) hd hn hg H
theorem zcZ {src dst t vty : TypeId} {x : Operand} {id : Id} {s0 : Nat} {cs : List AV} {size bytes : Nat} {z : Value} (ho : o.op = .convert src dst x) (hx : zm env.get x = .ref id 0 s0 0) [ts : TyU P src (.pointer t)] [td : TyU P dst .unsafePointer] [ti : TyI P t size bytes z] (hs : (decide (size ≠ 0)) = true) (hst : StO.get st id = some (.var vty cs)) (hc : (decide (0 < cs.length)) = true) (hd : o.dst = some d) (hn : (decide (d < nt)) = true) (hg : zl ops o env = true)
    (H : LexP P nt ops rest ((d, .ref id 0 s0 0) :: env) st (⟨true, [(id, .var vty cs)], .ref id 0 s0 0, [(id, .var vty cs)], [], []⟩ :: acc) K) : LexP P nt ops (o :: rest) env st acc K :=
  xA hst (zbO ho hx ts td ti (of_decide_eq_true hs) (of_decide_eq_true hc)) hd hn hg H
theorem za2 {src dst t vty : TypeId} {x : Operand} {id : Id} {s0 : Nat} {cs : List AV} {size bytes : Nat} {z : Value} (ho : o.op = .convert src dst x) (hx : zm env.get x = .ref id 0 s0 0) [ts : TyU P src .unsafePointer] [td : TyU P dst (.pointer t)] [ti : TyI P t size bytes z] (hst : StO.get st id = some (.var vty cs)) [hl : Lies P vty 2 t] (hc : (decide (cs.length = 2)) = true) (hd : o.dst = some d) (hn : (decide (d < nt)) = true) (hg : zl ops o env = true)
    (H : LexP P nt ops rest ((d, .ref id 0 s0 0) :: env) st (⟨true, [(id, .var vty cs)], .ref id 0 s0 0, [(id, .var vty cs)], [], []⟩ :: acc) K) : LexP P nt ops (o :: rest) env st acc K :=
  xA hst (jI ho hx ts td ti (by rw [of_decide_eq_true hc]; exact hl)) hd hn hg H
theorem zgt {f x : Operand} {ts : Array TypeId} {g : FuncId} {r : AV} (ho : o.op = .call { callee := .value f, args := #[x], argTypes := ts }) (hf : yD (zm env.get f) = some (g, [])) [hg0 : NoEsc P g] (hx : zm env.get x = r) (hd : o.dst = some d) (hn : (decide (d < nt)) = true) (hg : zl ops o env = true)
    (H : LexP P nt ops rest ((d, r) :: env) st (⟨true, [], r, [], [], []⟩ :: acc) K) : LexP P nt ops (o :: rest) env st acc K :=
  zH (zfy ho hf hg0 hx) hd hn hg H
theorem zb1 {t e' : TypeId} {x : Operand} {id : Id} {sz : Nat} {es : List T} (ho : o.op = .call { callee := .builtin .unsafeSliceData, args := #[x], argTypes := #[t] }) (hx : zm env.get x = .row id) (hst : StO.get st id = some (.slt e' sz es)) (hd : o.dst = some d) (hn : (decide (d < nt)) = true) (hg : zl ops o env = true) (hne : es ≠ [])
    (H : LexP P nt ops rest ((d, .ref id 0 sz 0) :: env) st (⟨true, [(id, .slt e' sz es)], .ref id 0 sz 0, [(id, .slt e' sz es)], [], []⟩ :: acc) K) : LexP P nt ops (o :: rest) env st acc K :=
  xA hst (za5 ho hx hne) hd hn hg H
theorem jf {pt it e : TypeId} {x n : Operand} {id : Id} {l : List UInt8} {k : Int} (ho : o.op = .call { callee := .builtin .unsafeString, args := #[x, n], argTypes := #[pt, it] }) (hx : zm env.get x = .ref id 0 1 0) (hst : StO.get st id = some (.slt e 1 (l.map u8T))) (hn0 : zm env.get n = .t (.int .i64 k)) [tp : TyU P pt (.pointer e)] [hc : CellsOf P e 1] (hd : o.dst = some d) (hn : (decide (d < nt)) = true) (hg : zl ops o env = true) (hfr : yv [] env st = true) (hk : k = (l.length : Int)) (hne : l ≠ []) (hb : l.length ≤ 9223372036854775807)
    (H : LexP P nt ops rest ((d, .t (.str ⟨l.toArray⟩)) :: env) (zcK [(id, .slt e 1 (l.map u8T))] [] [] st) (⟨true, [(id, .slt e 1 (l.map u8T))], .t (.str ⟨l.toArray⟩), [], [id], []⟩ :: acc) K) : LexP P nt ops (o :: rest) env st acc K := by
  subst hk
  refine zhN (W := [id]) (N := []) (kf ho hx hn0 tp hc hne hb) hd (of_decide_eq_true hn) (yc hg) (fun y hy => ?_) (fun i hi => by simp [StL.ids] at hi) (fun i hi hw => by simp [StL.ids] at hi; simp [hi] at hw) (fun i hi => by simp at hi) hfr H
  simp only [List.mem_singleton] at hy
  subst hy; exact hst
theorem zcH {xs : Array Operand} {ts : Array TypeId} {ops : Array Oper} {d : Option Nat} {ty : TypeId} {pos : String} {after : Array Edge} {g : Option (Nat × Bool)} (H : LexP P nt ops ({ dst := d, op := .call { callee := .builtin .unsafeSliceData, args := xs, argTypes := ts }, type := ty, pos := pos, after := after, guard := g } :: rest) env st acc K) : LexP P nt ops ({ dst := d, op := .call { callee := .builtin .unsafeSliceData, args := xs, argTypes := ts }, type := ty, pos := pos, after := after, guard := g } :: rest) env st acc K := H
theorem jK {xs : Array Operand} {ts : Array TypeId} {ops : Array Oper} {d : Option Nat} {ty : TypeId} {pos : String} {after : Array Edge} {g : Option (Nat × Bool)} (H : LexP P nt ops ({ dst := d, op := .call { callee := .builtin .unsafeString, args := xs, argTypes := ts }, type := ty, pos := pos, after := after, guard := g } :: rest) env st acc K) : LexP P nt ops ({ dst := d, op := .call { callee := .builtin .unsafeString, args := xs, argTypes := ts }, type := ty, pos := pos, after := after, guard := g } :: rest) env st acc K := H
end
end Go.AL
set_option linter.unusedSimpArgs false
namespace Go.AL
open Go Go.RowKit
def ziF (P : Program) (ty : TypeId) : Bool := !P.stoodInHeld ty && !P.eqGuardType P.depth ty
theorem zio (s t : ByteArray) : (s == t) = decide (s = t) := by
  cases s with | mk a => cases t with | mk b =>
  rw [Bool.eq_iff_iff]
  simp only [decide_eq_true_eq, ByteArray.mk.injEq, BEq.beq]
  unfold ByteArray.beq
  simp
section
variable {P : Program} {o : Oper} {ρ : Operand → AV}
end
section
variable {P : Program} {nt : Nat} {ops : Array Oper} {o : Oper} {rest : List Oper} {env : EnvL} {st : StO} {acc : List SD} {K : EnvL → StO → List SD → Prop} {d : Nat}
end
theorem wC {G G' : Prop} (k : G') (h : G' → G := by intro h; (first | (with_reducible refine zgc ?_) | (with_reducible refine zc7 ?_) | (with_reducible refine zeg ?_) | (with_reducible refine zfR ?_) | (with_reducible refine zeR ?_) | (with_reducible refine zax ?_) | ((with_reducible refine qe ?_ ?_); · rfl) | (with_reducible refine ziB ?_) | (with_reducible refine ziw ?_) | (with_reducible refine zdc ?_) | (with_reducible refine zei ?_) | (with_reducible refine zhs ?_) | (with_reducible refine zdi ?_) | ((with_reducible refine zbl ?_ ?_); · rfl) | (with_reducible refine zcM ?_) | (with_reducible refine zec ?_) | ((with_reducible refine za8 ?_ ?_); · rfl) | refine zhV rfl ?_ | refine zhU rfl ?_); exact h) : G := h k
theorem wK {G G' : Prop} (k : G') (h : G' → G := by intro h; (first | ((with_reducible refine zh8 ?_); first | refine zho rfl rfl rfl ?_) | ((with_reducible refine ziv ?_); first | refine zaj (r := (.t _)) rfl rfl rfl rfl rfl ?_ | refine zaj (r := (.ref _ _ _ _)) rfl rfl rfl rfl rfl ?_ | refine zaj (r := (.row _)) rfl rfl rfl rfl rfl ?_ | refine zaj (r := (.tup _)) rfl rfl rfl rfl rfl ?_) | ((with_reducible refine xu ?_); first | refine zc4 rfl rfl rfl rfl rfl rfl rfl rfl ?_ | refine qO (r := (.t (.agg _))) rfl rfl rfl rfl rfl rfl rfl rfl rfl ?_ | refine qO (r := (.agg _)) rfl rfl rfl rfl rfl rfl rfl rfl rfl ?_ | refine zeK rfl rfl rfl rfl rfl rfl rfl ?_ | refine zc0 rfl rfl rfl rfl rfl rfl rfl rfl ?_) | ((with_reducible refine zcz ?_); first | refine zb4 rfl rfl rfl rfl rfl rfl rfl ?_ | refine kP rfl rfl rfl rfl rfl rfl rfl ?_) | ((with_reducible refine zF ?_); first | refine zgy rfl rfl rfl rfl rfl rfl rfl ?_ | refine zfd rfl rfl rfl rfl rfl rfl ?_ | refine zgg rfl rfl rfl rfl rfl rfl ?_ | refine zeD rfl rfl rfl rfl rfl rfl ?_ | refine zcu rfl rfl rfl rfl rfl rfl rfl ?_ | refine ziJ rfl rfl rfl rfl rfl rfl (by decide) ?_ | refine zhl rfl rfl rfl rfl rfl rfl (by decide) ?_ | refine zfp rfl rfl rfl rfl rfl rfl (by decide) ?_ | refine qY rfl rfl rfl rfl rfl rfl (by decide) ?_) | ((with_reducible refine zgK ?_); first | refine qm (r := (.t _)) rfl rfl rfl rfl rfl ?_ | refine qm (r := (.ref _ _ _ _)) rfl rfl rfl rfl rfl ?_ | refine qm (r := (.row _)) rfl rfl rfl rfl rfl ?_ | refine qm (r := .junk) rfl rfl rfl rfl rfl ?_) | ((with_reducible refine ziu ?_); first | refine zgW (r := (.t _)) rfl rfl rfl rfl rfl rfl ?_ | refine zg1 (r := (.t _)) rfl rfl rfl rfl rfl rfl ?_) | ((with_reducible refine zi8 ?_); first | refine ziI (r := (.t (.agg _))) (cs := (List.map .t _)) rfl rfl rfl rfl rfl rfl rfl rfl rfl ?_) | ((with_reducible refine zhJ ?_); first | refine zgB rfl rfl rfl rfl rfl rfl rfl ?_) | ((with_reducible refine yY ?_); first | refine xt (r := (.t (.agg _))) rfl rfl rfl rfl rfl rfl rfl rfl rfl rfl ?_ | refine xt (r := (.t _)) rfl rfl rfl rfl rfl rfl rfl rfl rfl rfl ?_ | refine xt (r := (.agg _)) rfl rfl rfl rfl rfl rfl rfl rfl rfl rfl ?_ | refine xt (r := (.row _)) rfl rfl rfl rfl rfl rfl rfl rfl rfl rfl ?_ | refine xt (r := (.ref _ _ _ _)) rfl rfl rfl rfl rfl rfl rfl rfl rfl rfl ?_) | ((with_reducible refine zeh ?_); first | refine zcx (r := (.ref _ _ _ _)) rfl rfl rfl rfl rfl rfl ?_) | ((with_reducible refine ziC ?_); first | refine ziA rfl rfl rfl rfl rfl ?_ | refine ziO rfl rfl rfl rfl rfl ?_ | refine zit rfl rfl rfl rfl rfl ?_) | ((with_reducible refine zN ?_); first | refine zcl rfl rfl rfl rfl rfl ?_) | ((with_reducible refine zf6 ?_); first | refine zer rfl rfl rfl rfl rfl rfl ?_) | ((with_reducible refine zbh ?_); first | refine za3 rfl rfl rfl rfl rfl rfl rfl ?_) | ((with_reducible refine vc ?_); first | refine vw (r := (.t (.agg _))) rfl rfl rfl rfl rfl rfl rfl ?_) | ((with_reducible refine zi0 ?_); first | refine zel rfl rfl rfl rfl rfl ?_ | refine zbL rfl rfl rfl rfl rfl ?_ | refine zey rfl rfl rfl rfl rfl ?_ | refine zeF rfl rfl rfl rfl rfl ?_ | refine zay rfl rfl rfl rfl rfl rfl ?_ | refine j4 rfl rfl rfl rfl rfl rfl ?_) | ((with_reducible refine zft ?_); first | refine zex rfl rfl rfl rfl rfl ?_) | ((with_reducible refine ziW ?_); first | refine ziz rfl rfl rfl rfl rfl rfl ?_) | ((with_reducible refine ziZ ?_); first | refine ziG rfl rfl rfl rfl rfl rfl ?_)); exact h) : G := h k
theorem wT {G : Prop} (h : G := by repeat first | exact TLe.refl _ | exact TLe.slq _ _ | exact TLe.nil _ | exact TLe.esl _ | refine TLe.agg ?_ | refine TLs.cons ?_ ?_ | exact TLs.nil) : G := h
variable {P : Program} {nt : Nat} {ops : Array Oper} {o : Oper} {rest : List Oper} {env : EnvL} {st : StO} {acc : List SD} {K : EnvL → StO → List SD → Prop} {d : Nat}
theorem zgV {f : Operand} {as : Array Operand} {ts : Array TypeId} {g : FuncId} {caps args : List AV} {S S' : StL} {r r' : AV} {st' : StO} {R1 R2 : StL} {N : List Id} {l : List (Id × Id)} (e : r' = r') (e2 : l = l) (ho : o.op = .call { callee := .value f, args := as, argTypes := ts }) (hf : yD (zm env.get f) = some (g, caps)) [hb : FnB P g] (H0 : Spec P g args S r S')
    (hargs : ArgsLE (as.toList.map (zm env.get) ++ caps) (AV.renL (xq l) args)) (hR1 : S.ren (xq l) = R1) (hst : zf1 st R1) (hlen : (decide (as.size + caps.length = args.length)) = true) (hok : zgh S S' r l = true) (hrr : r.ren (xq l) = r')
    (hR2 : S'.ren (xq l) = R2) (hN : (S'.ids.filter xN).map (xq l) = N) (hfr : yv N env st = true) (hs' : zcK R1 R2 N st = st')
    (hd : o.dst = some d) (hn : (decide (d < nt)) = true) (hg : zl ops o env = true)
    (H : LexP P nt ops rest ((d, r') :: env) st' (⟨true, R1, r', R2, R1.ids, N⟩ :: acc) K) : LexP P nt ops (o :: rest) env st acc K := zht l ho hf H0 hargs hR1 hst hlen hok hrr hR2 hN hfr hs' hd hn hg H
theorem wN {G G' H : Prop} (r : AV) (l : List (Id × Id)) (c : H) (k : G') (p : r = r → l = l → H → G' → G := by intro e e2 c k; exact zgV e e2 rfl rfl c (ArgsLE.refl _) rfl (by first | exact trivial | exact ⟨rfl, trivial⟩ | exact ⟨rfl, rfl, trivial⟩ | exact ⟨rfl, rfl, rfl, trivial⟩ | exact ⟨rfl, rfl, rfl, rfl, trivial⟩ | exact ⟨rfl, rfl, rfl, rfl, rfl, trivial⟩ | exact ⟨rfl, rfl, rfl, rfl, rfl, rfl, trivial⟩ | exact ⟨rfl, rfl, rfl, rfl, rfl, rfl, rfl, trivial⟩) rfl rfl rfl rfl rfl rfl rfl rfl rfl rfl k) : G := p rfl rfl c k
theorem wL {G G' H : Prop} (c : H) (k : G') (p : H → G' → G := by intro c k; exact zgJ rfl rfl c rfl rfl (ArgsLE.refl _) rfl rfl rfl rfl rfl k) : G := p c k
theorem wE {G : Prop} (p : G := by refine zo ?_ (zv (by first | exact trivial | exact ⟨rfl, trivial⟩ | exact ⟨rfl, rfl, trivial⟩ | exact ⟨rfl, rfl, rfl, trivial⟩ | exact ⟨rfl, rfl, rfl, rfl, trivial⟩ | exact ⟨rfl, rfl, rfl, rfl, rfl, trivial⟩ | exact ⟨rfl, rfl, rfl, rfl, rfl, rfl, trivial⟩ | exact ⟨rfl, rfl, rfl, rfl, rfl, rfl, rfl, trivial⟩)); refine zL rfl rfl rfl inferInstance rfl inferInstance rfl ?_ ?_; exact TLe.av wT; exact AVLE.refl _) : G := p
theorem wD {G : Prop} (p : G := by refine zo ?_ (zv (by first | exact trivial | exact ⟨rfl, trivial⟩ | exact ⟨rfl, rfl, trivial⟩ | exact ⟨rfl, rfl, rfl, trivial⟩ | exact ⟨rfl, rfl, rfl, rfl, trivial⟩ | exact ⟨rfl, rfl, rfl, rfl, rfl, trivial⟩ | exact ⟨rfl, rfl, rfl, rfl, rfl, rfl, trivial⟩ | exact ⟨rfl, rfl, rfl, rfl, rfl, rfl, rfl, trivial⟩)); refine xL rfl rfl rfl inferInstance rfl inferInstance rfl ?_; exact TLe.av wT) : G := p
theorem wB {G : Prop} (p : G := by refine zQ (zo ?_ (zv (by first | exact trivial | exact ⟨rfl, trivial⟩ | exact ⟨rfl, rfl, trivial⟩ | exact ⟨rfl, rfl, rfl, trivial⟩ | exact ⟨rfl, rfl, rfl, rfl, trivial⟩ | exact ⟨rfl, rfl, rfl, rfl, rfl, trivial⟩ | exact ⟨rfl, rfl, rfl, rfl, rfl, rfl, trivial⟩ | exact ⟨rfl, rfl, rfl, rfl, rfl, rfl, rfl, trivial⟩))); refine xL rfl rfl rfl inferInstance rfl inferInstance rfl ?_; exact TLe.av wT) : G := p
theorem wI {G G' H : Prop} (c : H) (k : G') (p : H → G' → G := by intro c k; first | exact yI (env0 := []) (st0 := []) c rfl rfl rfl rfl k | exact yI (env0 := [(0, _)]) (st0 := []) c rfl rfl rfl rfl k | exact yI (env0 := [(0, _), (1, _)]) (st0 := []) c rfl rfl rfl rfl k | exact yI (env0 := [(0, _), (1, _), (2, _)]) (st0 := []) c rfl rfl rfl rfl k | exact yI (env0 := [(0, _), (1, _), (2, _), (3, _)]) (st0 := []) c rfl rfl rfl rfl k | exact yI (env0 := [(0, _), (1, _), (2, _), (3, _), (4, _), (5, _), (6, _), (7, _)]) (st0 := []) c rfl rfl rfl rfl k | exact yI (env0 := [(0, _)]) (st0 := [(_, some _)]) c rfl rfl rfl rfl k | exact yI (env0 := [(0, _), (1, _)]) (st0 := [(_, some _)]) c rfl rfl rfl rfl k | exact yI (env0 := [(0, _)]) (st0 := [(_, some _), (_, some _)]) c rfl rfl rfl rfl k) : G := p c k
theorem wIG {G G' H : Prop} (c : H) (k : G') (p : H → G' → G := by intro c k; first | exact yL (env0 := []) (st0 := []) c rfl rfl rfl rfl k | exact yL (env0 := [(0, _)]) (st0 := []) c rfl rfl rfl rfl k | exact yL (env0 := [(0, _), (1, _)]) (st0 := []) c rfl rfl rfl rfl k | exact yL (env0 := [(0, _), (1, _), (2, _)]) (st0 := []) c rfl rfl rfl rfl k | exact yL (env0 := [(0, _)]) (st0 := [(_, some _)]) c rfl rfl rfl rfl k | exact yL (env0 := [(0, _), (1, _)]) (st0 := [(_, some _)]) c rfl rfl rfl rfl k | exact yL (env0 := [(0, _), (1, _)]) (st0 := [(_, some _), (_, some _)]) c rfl rfl rfl rfl k | exact yL (env0 := [(0, _), (1, _), (2, _)]) (st0 := [(_, some _), (_, some _)]) c rfl rfl rfl rfl k) : G := p c k
end Go.AL
