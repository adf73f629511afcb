/- The layer of abstract values, fourth part: ranges over strings and maps, interfaces against nil, laid variables; each under the conditions that its own theorem names. -/
import Derived.Test.YtmidabiehblekaaGreatDoorAl3
import Derived.Maps.RangeRun
import Derived.Lib.LaidTab
import Derived.Lib.LaidU8
set_option linter.unusedVariables false
set_option linter.unusedSimpArgs false
namespace Go.AL
open Go Go.RowKit
section
variable {P : Program} {o : Oper} {ρ : Operand → AV}
def zm5 : T → Option Bool
  | .nili => some true
  | .iface => some false
  | .ifi _ _ _ => some false
  | _ => none
theorem zgX {w : World} {ti : TypeId} {ms : Array (String × TypeId)} (hi : P.underlying ti = some (.interface ms)) : (binOp .neq ti .nilIface .nilIface).run P w = .ok (.bool false) w := by
  have h : ∀ d : Nat, (Op.equalIn (d + 1) ti .nilIface .nilIface).run P w = .ok true w := fun d => by simp [Op.equalIn, run_underlying hi]
  simp only [binOp]
  simp [Op.equal, Op.maxDepth, h 9999]
theorem zaO {w : World} {ti : TypeId} {ms : Array (String × TypeId)} (tp : TypeId) (v : Value) (hi : P.underlying ti = some (.interface ms)) : (binOp .neq ti (.iface tp v) .nilIface).run P w = .ok (.bool true) w := by
  have h : ∀ d : Nat, (Op.equalIn (d + 1) ti (.iface tp v) .nilIface).run P w = .ok false w := fun d => by simp [Op.equalIn, run_underlying hi]
  simp only [binOp]
  simp [Op.equal, Op.maxDepth, h 9999]
theorem zfk {ty yt : TypeId} {ms : Array (String × TypeId)} {x : Operand} {t : T} {b : Bool} (ho : o.op = .binOp .neq ty x (.const .nilIface) yt) (hx : ρ x = .t t) (ht : zm5 t = some b) (tu : TyU P ty (.interface ms)) :
    OpT P o ρ (StL.get []) (.t (.bool !b)) (StL.get []) [] :=
  zY fun h m A w _ hrep => by
    have r1 := hrep x (by simp [ho, Op.operands])
    rw [hx] at r1
    simp only [RepA] at r1
    have r2 : A.eval (.const .nilIface) = .nilIface := rfl
    cases t <;> simp [zm5] at ht
    · subst ht
      simp only [RepT] at r1
      exact ⟨.bool false, by simp [execOp, ho, r1, r2, eqGuard, zgX tu.h], by simp [RepA, RepT]⟩
    · subst ht
      simp only [RepT] at r1
      obtain ⟨t', u, r1⟩ := r1
      exact ⟨.bool true, by simp [execOp, ho, r1, r2, eqGuard, zaO _ _ tu.h], by simp [RepA, RepT]⟩
    · subst ht
      simp only [RepT] at r1
      exact ⟨.bool true, by simp [execOp, ho, r1, r2, eqGuard, zaO _ _ tu.h], by simp [RepA, RepT]⟩
theorem znx {ty : TypeId} {x : Operand} {k0 k : IntKind} {n : Int} (ho : o.op = .makeInterface ty x) (hx : ρ x = .t (.int k n)) (tu : TyU P ty (.int k0)) : OpT P o ρ (StL.get []) (.t (.ifi ty k n)) (StL.get []) [] :=
  zY fun h m A w _ hrep => by
    have r1 := hrep x (by simp [ho, Op.operands])
    rw [hx] at r1
    simp only [RepA, RepT] at r1
    exact ⟨.iface ty (.int k n), by simp [execOp, ho, Instr.makeInterface, run_underlying tu.h, Result.andThen, r1], by simp [RepA, RepT]⟩
theorem zeb {t kt et : TypeId} {x : Operand} {es : List (T × T)} {mid : Id} (id : Id) (ho : o.op = .range t x) (hx : ρ x = .row mid) (tu : TyU P t (.map kt et)) : OpT P o ρ (StL.get [(mid, .dat (.map es))]) (.ref id 0 0 0) (StL.get [(id, .dat (.miter none es))]) [id] := by
  refine OpT.of ?_
  intro h m a w hs hr K Q hK
  have r1 := hr x (by simp [ho, Op.operands])
  rw [hx] at r1
  simp only [RepA] at r1
  obtain ⟨r, ents, clock, e1, e2, e3, e4⟩ := zge hs
  rw [e1] at r1
  obtain ⟨hsep, hlt⟩ := hs.sep mid _ r (yz mid _) (by rw [e1]; rfl)
  have hrun : (execOp a.eval o).run P w = .ok (.value (.pointer (some ⟨w.heap.size, 0, none⟩))) (w.alloc (.mapIter (some r) clock #[] clock)) := by
    simp [execOp, ho, Instr.range, r1.1, run_underlying tu.h, getObj, e2, newObj, Sem.run, Result.andThen]
  let h' : Heap := fun b => if b = r then some (.map ents clock) else h b
  have hh : h.le h' := fun b ob hb => by
    show (if b = r then _ else h b) = _
    split
    · rename_i e; subst e; rw [hsep] at hb; cases hb
    · exact hb
  have himm : ∀ b ob, h' b = some ob → w.heap[b]? = some ob := fun b ob hb => by
    simp only [h'] at hb
    split at hb
    · rename_i e; subst e; cases hb; exact e2
    · exact hs.imm b ob hb
  obtain ⟨s1, s2⟩ := zaf (h := h') (m := m) himm (vj w (.mapIter (some r) clock #[] clock)) (id := id) (v := .pointer (some ⟨w.heap.size, 0, none⟩)) rfl (row := .dat (.miter none es))
    ⟨w.heap.size, .mapIter (some r) clock #[] clock, by rw [zu]; rfl, vk w _, w.heap.size, r, clock, #[], clock, ents, clock, zu _ _ _, rfl, by simp [h'], rfl, rfl, e4, by rw [show (ents.toList.filter fun e => !(#[] : Array Nat).contains e.born) = ents.toList from List.filter_eq_self.2 (fun x _ => by simp)]; exact e3.mono hh, fun k v hk => by cases hk⟩
  have f1 : Foot h m (StL.get [(mid, .dat (.map es))]) w h' m (StL.get []) w := ⟨rfl, rfl, rfl, Nat.le_refl _, fun b hb hn => ⟨rfl, by
      have : b ≠ r := fun e => hn mid _ (yz mid _) (by rw [e1, e]; rfl)
      simp [h', this]⟩, hh, fun id' row b hx => by simp [StL.get] at hx⟩
  unfold Oper.wp
  rw [hrun]
  exact hK _ h' _ _ ⟨w.heap.size, by rw [zu]; rfl, by simp⟩ s1 (f1.trans s2) fun _ => zU
theorem zjj {it : Operand} {id : Id} {k v : T} {left : List (T × T)} (ho : o.op = .entry it) (hit : ρ it = .ref id 0 0 0) : OpT P o ρ (StL.get [(id, .dat (.miter (some (k, v)) left))]) (.tup [.t k, .t v]) (StL.get [(id, .dat (.miter (some (k, v)) left))]) [] :=
  xX fun h m a w hs hr => by
    have r1 := hr it (by simp [ho, Op.operands])
    rw [hit] at r1
    obtain ⟨b, ob, e1, e2, b', bm, since, seen, stepped, ents, clock, e3, e4, e5, e6, e7, hS, hL, hl⟩ := qO hs (yz id _)
    obtain ⟨b1, q1, q2⟩ := r1
    rw [e3] at q1
    cases q1
    rw [e3] at e1
    cases e1
    subst e4
    obtain ⟨e, he, g1, g2, g3⟩ := hl k v rfl
    have hm := hs.imm _ _ e5
    have hf : ents.find? (·.born == e.born) = some e := by rw [← Array.find?_toList]; exact find_born e ents.toList hS.2 he
    refine ⟨.tuple #[e.key, e.val], ?_, #[e.key, e.val], rfl, rfl, ⟨_, rfl, g2⟩, ⟨_, rfl, g3⟩, trivial⟩
    simp [execOp, ho, q2, Instr.entry, getObj, Sem.run, e2, hm, Result.andThen, g1, e7, hf]
end
theorem jh {h : Heap} : ∀ {xs ys : List MapEntry} {es : List (T × T)}, RepEnts h (xs ++ ys) es → ∃ e1 e2, es = e1 ++ e2 ∧ RepEnts h xs e1 ∧ RepEnts h ys e2
  | [], ys, es, H => ⟨[], es, rfl, trivial, H⟩
  | x :: xs, ys, [], H => H.elim
  | x :: xs, ys, (k, v) :: es, H => by
    obtain ⟨e1, e2, rfl, h1, h2⟩ := jh (xs := xs) H.2.2
    exact ⟨(k, v) :: e1, e2, rfl, ⟨H.1, H.2.1, h1⟩, h2⟩
section
variable {P : Program} {nt : Nat} {ops : Array Oper} {o : Oper} {rest : List Oper} {env : EnvL} {st : StO} {acc : List SD} {K : EnvL → StO → List SD → Prop} {d : Nat}
theorem xt {ty yt : TypeId} {ms : Array (String × TypeId)} {x : Operand} {t : T} {b : Bool} (ho : o.op = .binOp .neq ty x (.const .nilIface) yt) (hx : zE env.get x = .t t) (ht : zm5 t = some b) [tu : TyU P ty (.interface ms)] (hd : o.dst = some d) (hn : (decide (d < nt)) = true) (hg : zC ops o env = true)
    (H : LexP P nt ops rest ((d, .t (.bool !b)) :: env) st (⟨true, [], .t (.bool !b), [], [], []⟩ :: acc) K) : LexP P nt ops (o :: rest) env st acc K :=
  yc (zfk ho hx ht tu) hd hn hg H
theorem zfC {ty : TypeId} {x : Operand} {k0 k : IntKind} {n : Int} (ho : o.op = .makeInterface ty x) (hx : zE env.get x = .t (.int k n)) [tu : TyU P ty (.int k0)] (hd : o.dst = some d) (hn : (decide (d < nt)) = true) (hg : zC ops o env = true)
    (H : LexP P nt ops rest ((d, .t (.ifi ty k n)) :: env) st (⟨true, [], .t (.ifi ty k n), [], [], []⟩ :: acc) K) : LexP P nt ops (o :: rest) env st acc K :=
  yc (znx ho hx tu) hd hn hg H
theorem zfn {t kt et : TypeId} {x : Operand} {es : List (T × T)} {mid : Id} (ho : o.op = .range t x) (hx : zE env.get x = .row mid) (hst : StO.get st mid = some (.dat (.map es))) [tu : TyU P t (.map kt et)] (hd : o.dst = some d) (hn : (decide (d < nt)) = true) (hg : zC ops o env = true) (hfr : xg [.loc d] env st = true)
    (H : LexP P nt ops rest ((d, .ref (.loc d) 0 0 0) :: env) ((.loc d, some (.dat (.miter none es))) :: (mid, none) :: st) (⟨true, [(mid, .dat (.map es))], .ref (.loc d) 0 0 0, [(.loc d, .dat (.miter none es))], [mid], [.loc d]⟩ :: acc) K) : LexP P nt ops (o :: rest) env st acc K :=
  LexP.ex ⟨⟨true, [(mid, .dat (.map es))], .ref (.loc d) 0 0 0, [(.loc d, .dat (.miter none es))], [mid], [.loc d]⟩, _, _, ⟨(fun t ht => by rw [hd] at ht; cases ht; exact of_decide_eq_true hn), fun _ => ⟨yT hg, zeb (.loc d) ho hx tu⟩, (fun h => by cases h), (fun x row1 hr => by
      simp only [StL.get] at hr
      split at hr
      · rename_i e; cases hr; rw [← e]; exact hst
      · cases hr), ⟨(fun x h => by simp [StL.ids] at h; exact .inr (by simp [h])), (fun x h h' => by simp [StL.ids] at h; subst h; simp at h'), (fun x h => by simp at h; subst h; rfl)⟩, yO hfr⟩, (by rw [xJ]; unfold yp; rw [hd]), (by
      unfold yG
      funext x
      simp only [StO.get, xO, StL.get]
      by_cases e : .loc d = x
      · simp [e]
      · have : ¬ x = .loc d := fun h => e h.symm
        by_cases e2 : mid = x
        · simp [e, e2, this, StL.ids]
        · have : ¬ x = mid := fun h => e2 h.symm
          simp_all [StL.ids]), H⟩
theorem zg9 {it : Operand} {id : Id} {k v : T} {left : List (T × T)} (ho : o.op = .entry it) (hit : zE env.get it = .ref id 0 0 0) (hst : StO.get st id = some (.dat (.miter (some (k, v)) left))) (hd : o.dst = some d) (hn : (decide (d < nt)) = true) (hg : zC ops o env = true)
    (H : LexP P nt ops rest ((d, .tup [.t k, .t v]) :: env) st (⟨true, [(id, .dat (.miter (some (k, v)) left))], .tup [.t k, .t v], [(id, .dat (.miter (some (k, v)) left))], [], []⟩ :: acc) K) : LexP P nt ops (o :: rest) env st acc K :=
  qk hst (zjj ho hit) hd hn hg H
end
end Go.AL
set_option linter.unusedSimpArgs false
namespace Go.AL
open Go Go.RowKit
class CmpT (P : Program) (t : TypeId) : Prop where
  h : ∃ i, P.info? t = some i ∧ i.comparable = true
theorem CmpT.of {P : Program} {t : TypeId} (h : (P.info? t).map (·.comparable) = some true) : CmpT P t := ⟨by
  cases e : P.info? t with
  | none => rw [e] at h; cases h
  | some i => rw [e] at h; exact ⟨i, rfl, by simpa using h⟩⟩
section
variable {P : Program} {o : Oper} {ρ : Operand → AV}
def qv : Obj → Bool
  | .cells cs _ _ => match cs.toList with
    | [.iface _ _] => true
    | _ => false
  | _ => false
theorem zd9 {w : World} {g : Nat} {ob : Obj} (h : qv ob = true) (hg : w.heap[g]? = some ob) : ∃ t u, w.cell? ⟨g, 0, none⟩ = some (.iface t u) := by
  unfold qv at h
  cases ob with
  | cells cs ty fr =>
    simp only at h
    split at h
    · rename_i t u e
      have : cs = #[.iface t u] := by cases cs; simp at e; simp [e]
      subst this
      exact ⟨t, u, by rw [yI hg]; rfl⟩
    · cases h
  | _ => cases h
def y3 (k : IntKind) (ns : List Int) : Obj → Prop
  | .cells cs _ _ => cs.toList = ns.map (Value.int k)
  | _ => False
end
section
variable {P : Program} {nt : Nat} {ops : Array Oper} {o : Oper} {rest : List Oper} {env : EnvL} {st : StO} {acc : List SD} {K : EnvL → StO → List SD → Prop} {d : Nat}
theorem xr {t : TypeId} {x : Operand} {ops : Array Oper} {d : Option Nat} {ty : TypeId} {pos : String} {after : Array Edge} {g : Option (Nat × Bool)} (H : LexP P nt ops ({ dst := d, op := .makeInterface t x, type := ty, pos := pos, after := after, guard := g } :: rest) env st acc K) : LexP P nt ops ({ dst := d, op := .makeInterface t x, type := ty, pos := pos, after := after, guard := g } :: rest) env st acc K := H
theorem zmQ {t : TypeId} {x : Operand} {ops : Array Oper} {d : Option Nat} {ty : TypeId} {pos : String} {after : Array Edge} {g : Option (Nat × Bool)} (H : LexP P nt ops ({ dst := d, op := .range t x, type := ty, pos := pos, after := after, guard := g } :: rest) env st acc K) : LexP P nt ops ({ dst := d, op := .range t x, type := ty, pos := pos, after := after, guard := g } :: rest) env st acc K := H
theorem zj3 {x : Operand} {ops : Array Oper} {d : Option Nat} {ty : TypeId} {pos : String} {after : Array Edge} {g : Option (Nat × Bool)} (H : LexP P nt ops ({ dst := d, op := .entry x, type := ty, pos := pos, after := after, guard := g } :: rest) env st acc K) : LexP P nt ops ({ dst := d, op := .entry x, type := ty, pos := pos, after := after, guard := g } :: rest) env st acc K := H
end
end Go.AL
set_option linter.unusedSimpArgs false
namespace Go.AL
open Go Go.RowKit
theorem zkn {P : Program} {nt : Nat} {o : Oper} {d : SD} {env : Env} {st : zG} (hdst : ∀ t, o.dst = some t → t < nt) (hsub : ∀ id row, StL.get d.R id = some row → st id = some row) (hdok : DomOK d) (hfr : qG d.N env st)
    {h : Heap} {m : zQ} {a : Act} {w : World} (c : Conc nt h m env st a w) {K : Act → World → Prop} {Q : Exit → Act → World → Prop}
    (hT : Sim h m (StL.get d.R) w → (∀ v h' m' w', RepA h' m' v d.r → Sim h' m' (StL.get d.R') w' → Foot h m (StL.get d.R) w h' m' (StL.get d.R') w' → (∀ id, id ∉ d.N → m' id = m id) → K (a.put o.dst v) w') → wpR P o a w K Q)
    (hK : ∀ a' w' h' m', Conc nt h' m' (yp o d env) (yG d st) a' w' → Since h m st w h' m' (yG d st) w' → a'.defers = a.defers → K a' w') : wpR P o a w K Q := by
  refine hT ?_ ?_
  · exact ⟨c.sim.imm, fun id row hr => c.sim.rows id row (hsub id row hr), fun id row b hr => c.sim.sep id row b (hsub id row hr), fun id id' r r' b h1 h2 => c.sim.inj id id' r r' b (hsub _ _ h1) (hsub _ _ h2)⟩
  · intro v h' m' w' hv hs' hf hm
    obtain ⟨hsim, hfoot⟩ := zcj c.sim hfr hdok hsub hs' hf hm
    refine hK _ _ h' m' ⟨hsim, by rw [zeA]; exact c.size, by rw [ve]; exact c.defers.foot hfoot, fun t => ?_⟩ ⟨hfoot, fun k => hm _ fun hk => by have := hdok.loc _ hk; simp [Id.isLoc] at this⟩ (ve _ _ _)
    rw [zdZ (by rw [c.size]; exact hdst)]
    unfold yp qP
    split
    · exact hv
    · exact RepA.mono hf.grow hm (hfr.1 t) (c.env t)
theorem zji {ents : List MapEntry} {seen : Array Nat} {e : MapEntry} {L1 L2 : List MapEntry} (hn : (ents.map (·.born)).Nodup) (hL : ents.filter (fun x => !seen.contains x.born) = L1 ++ e :: L2) :
    ents.filter (fun x => !(seen.push e.born).contains x.born) = L1 ++ L2 := by
  have h1 : ents.filter (fun x => !(seen.push e.born).contains x.born) = (ents.filter (fun x => !seen.contains x.born)).filter (fun x => !(x.born == e.born)) := by
    rw [List.filter_filter]
    apply List.filter_congr
    intro x _
    have hp : (seen.push e.born).contains x.born = (seen.contains x.born || (x.born == e.born)) := by
      rw [Bool.eq_iff_iff]; simp
    rw [hp]
    cases seen.contains x.born <;> cases (x.born == e.born) <;> rfl
  rw [h1, hL]
  have hsub : ((L1 ++ e :: L2).map (·.born)).Nodup := by
    rw [← hL]
    exact hn.sublist (List.filter_sublist.map _)
  simp only [List.map_append, List.map_cons, List.nodup_append, List.nodup_cons] at hsub
  obtain ⟨k1, ⟨k2, k3⟩, k4⟩ := hsub
  rw [List.filter_append, List.filter_cons]
  have f1 : L1.filter (fun x => !(x.born == e.born)) = L1 := List.filter_eq_self.2 fun x hx => by
    have := k4 x.born (List.mem_map.2 ⟨x, hx, rfl⟩) e.born (by simp)
    simpa using this
  have f2 : L2.filter (fun x => !(x.born == e.born)) = L2 := List.filter_eq_self.2 fun x hx => by
    have : x.born ≠ e.born := fun he => k2 (he ▸ List.mem_map.2 ⟨x, hx, rfl⟩)
    simpa using this
  rw [f1, f2]
  simp
section
variable {P : Program} {nt : Nat}
theorem zcS {id : Nat} {o : Oper} {l : List Oper} {env : EnvL} {st : StO} {it : Operand} {iid : Id} {last : Option (T × T)} {left : List (T × T)} {d : Tmp} {Q : Exit → Env → zG → Prop}
    (ho : o.op = .next it false) (hg : o.guard = none) (hd : o.dst = some d) (hn : (decide (d < nt)) = true) (hit : zE env.get it = .ref iid 0 0 0) (hst : StO.get st iid = some (.dat (.miter last left)))
    (H0 : left = [] → LexP P nt (o :: l).toArray l ((d, .tup [.t (.bool false)]) :: env) st [⟨true, [(iid, .dat (.miter last left))], .tup [.t (.bool false)], [(iid, .dat (.miter last left))], [], []⟩] (fun env' st' _ => Q .normal env'.get st'.get))
    (H1 : ∀ k v l1 l2, left = l1 ++ (k, v) :: l2 → LexP P nt (o :: l).toArray l ((d, .tup [.t (.bool true), .t k, .t v]) :: env) ((iid, some (.dat (.miter (some (k, v)) (l1 ++ l2)))) :: st)
      [⟨true, [(iid, .dat (.miter last left))], .tup [.t (.bool true), .t k, .t v], [(iid, .dat (.miter (some (k, v)) (l1 ++ l2)))], [iid], []⟩] (fun env' st' _ => Q .normal env'.get st'.get)) :
    CodeT P nt (.region id (o :: l).toArray false) env.get st.get Q := by
  refine ⟨fun ro _ h m a w c => wpIn_region ?_⟩
  have hrange : List.range (o :: l).toArray.size = 0 :: List.range' 1 l.length := by
    rw [List.range_eq_range']; simp [List.range'_succ]
  rw [hrange]
  have hget0 : (o :: l).toArray[0]? = some o := by simp
  simp only [wpOpsIn, hget0]
  rw [if_pos (by unfold Region.wanted; rw [hg])]
  have hsubR : ∀ x row', StL.get [(iid, Row.dat (.miter last left))] x = some row' → st.get x = some row' := fun x row' hr => by
    simp only [StL.get] at hr
    split at hr
    · rename_i e; cases hr; rw [← e]; exact hst
    · cases hr
  have hdst : ∀ t, o.dst = some t → t < nt := fun t ht => by rw [hd] at ht; cases ht; exact of_decide_eq_true hn
  obtain ⟨b0, ob, e1, e2, b, bm, since, seen, stepped, ents, clock, e3, e4, e5, e6, e7, hS, hL, hl⟩ := c.sim.rows iid _ hst
  rw [e3] at e1
  cases e1
  subst e4
  have e2 : w.heap[b]? = some (.mapIter (some bm) since seen stepped) := e2
  have hbm := c.sim.imm _ _ e5
  have r1 := c.eval it
  rw [hit] at r1
  obtain ⟨b1, q1, q2⟩ := r1
  rw [e3] at q1
  cases q1
  have q2 : a.eval it = .pointer (some ⟨b, 0, none⟩) := by simpa using q2
  have hLl : ents.toList.filter (fun e => !seen.contains e.born) = (leftOf ents seen).toList := by unfold leftOf; simp
  have hnd : ∀ c', o.op ≠ .defer c' := fun c' => by rw [ho]; simp
  rcases run_next_at (P := P) w o.type b bm since stepped seen ents clock e2 hbm (fun x hx => by rw [e6]; exact hS.1 x hx) (by omega) with ⟨h0, hrun⟩ | ⟨e, he, w1, hal, hrun⟩
  · have hl0 : left = [] := by
      have : (leftOf ents seen).toList = [] := by simpa using h0
      rw [hLl, this] at hL
      cases left with
      | nil => rfl
      | cons x xs => exact hL.elim
    have HL := H0 hl0
    obtain ⟨env', st', accF, k1, ⟨more, k2⟩, k3, k4⟩ := zca (ops := (o :: l).toArray) (k := 1) (fun j => by simp [Nat.add_comm 1 j]) rfl HL
    refine zkn (K := wpOpsIn (ROF ro) 0 P (o :: l).toArray (ziW nt h m st.get a w Q) (List.range' 1 l.length)) (d := ⟨true, [(iid, .dat (.miter last left))], .tup [.t (.bool false)], [(iid, .dat (.miter last left))], [], []⟩) hdst hsubR ⟨fun id h => .inl h, fun id _ _ => rfl, fun id h => by simp at h⟩ (wG _ _) c (fun hs hK => zbA hnd ?_) ?_ ro
    · unfold Oper.wp
      have : (execOp a.eval o).run P w = .ok (.value (.tuple #[.bool false])) w := by simp [execOp, ho, q2, hrun, Result.andThen]
      rw [this]
      exact hK _ h m w ⟨#[.bool false], rfl, rfl, ⟨_, rfl, rfl⟩, trivial⟩ hs (Foot.refl ..) fun _ _ => rfl
    · intro a' w' h' m' c' s' hd'
      have c2 : Conc nt h' m' (EnvL.get ((d, .tup [.t (.bool false)]) :: env)) st.get a' w' := by
        have e' : yp o ⟨true, [(iid, .dat (.miter last left))], .tup [.t (.bool false)], [(iid, .dat (.miter last left))], [], []⟩ env.get = EnvL.get ((d, .tup [.t (.bool false)]) :: env) := by rw [xJ]; unfold yp; rw [hd]
        have e2' : yG ⟨true, [(iid, .dat (.miter last left))], .tup [.t (.bool false)], [(iid, .dat (.miter last left))], [], []⟩ st.get = st.get := by unfold yG; exact zas hst
        rw [e', e2'] at c'; exact c'
      have s2 : Since h m st.get w h' m' st.get w' := by
        have e2' : yG ⟨true, [(iid, .dat (.miter last left))], .tup [.t (.bool false)], [(iid, .dat (.miter last left))], [], []⟩ st.get = st.get := by unfold yG; exact zas hst
        rw [e2'] at s'; exact s'
      exact zgb k4 c2 s2 (fun h2 m2 a2 w2 c3 s3 hd3 => ⟨env'.get, st'.get, h2, m2, k1, c3, s3, Newer.same (hd3.trans hd')⟩) ro
  · have heL : e ∈ ents.toList.filter (fun e => !seen.contains e.born) := by rw [hLl]; exact he
    obtain ⟨L1, L2, hsplit⟩ := List.append_of_mem heL
    have hmem : e ∈ ents.toList := (List.mem_filter.1 heL).1
    have hL' := hL
    rw [hsplit] at hL'
    obtain ⟨l1, l2', el, g1, g2⟩ := jh hL'
    obtain ⟨k, v, l2, rfl, g3, g4, g5⟩ : ∃ k v l2, l2' = (k, v) :: l2 ∧ RepT h e.key k ∧ RepT h e.val v ∧ RepEnts h L2 l2 := by
      cases l2' with
      | nil => exact g2.elim
      | cons x xs => obtain ⟨k, v⟩ := x; exact ⟨k, v, xs, rfl, g2.1, g2.2.1, g2.2.2⟩
    have HL := H1 k v l1 l2 el
    obtain ⟨env', st', accF, k1, ⟨more, k2⟩, k3, k4⟩ := zca (ops := (o :: l).toArray) (k := 1) (fun j => by simp [Nat.add_comm 1 j]) rfl HL
    let D : SD := ⟨true, [(iid, .dat (.miter last left))], .tup [.t (.bool true), .t k, .t v], [(iid, .dat (.miter (some (k, v)) (l1 ++ l2)))], [iid], []⟩
    have eE : yp o D env.get = EnvL.get ((d, .tup [.t (.bool true), .t k, .t v]) :: env) := by rw [xJ]; unfold yp; rw [hd]
    have eS : yG D st.get = StO.get ((iid, some (.dat (.miter (some (k, v)) (l1 ++ l2)))) :: st) := by
      unfold yG
      funext x
      simp only [StO.get, xO, StL.get, D]
      by_cases e : iid = x
      · simp [e]
      · have : ¬ x = iid := fun h => e h.symm
        simp [e, this, StL.ids]
    refine zkn (K := wpOpsIn (ROF ro) 0 P (o :: l).toArray (ziW nt h m st.get a w Q) (List.range' 1 l.length)) (d := D) hdst hsubR ⟨(fun id h => .inl (by simpa [StL.ids, D] using h)), (fun x h h' => by simp [StL.ids, D] at h; subst h; simp [D] at h'), (fun id h => by simp [D] at h)⟩ (wG _ _) c (fun hs hK => zbA hnd ?_) ?_ ro
    · unfold Oper.wp
      have hrun' : (execOp a.eval o).run P w = .ok (.value (.tuple #[.bool true, e.key, e.val])) (Go.ChangeMaps.setBlock w1 b (.mapIter (some bm) since (seen.push e.born) clock)) := by simp [execOp, ho, q2, hrun, Result.andThen]
      rw [hrun']
      have hlt : b < w.heap.size := (Array.getElem?_eq_some_iff.1 e2).1
      have hw : Wrote w (Go.ChangeMaps.setBlock w1 b (.mapIter (some bm) since (seen.push e.born) clock)) b := by
        have hh : w1.heap = w.heap ∧ w1.os = w.os ∧ w1.tape = w.tape ∧ w1.output = w.output := by rcases hal with rfl | rfl <;> exact ⟨rfl, rfl, rfl, rfl⟩
        exact ⟨hh.2.1, hh.2.2.1, hh.2.2.2, by simp [Go.ChangeMaps.setBlock, hh.1], fun k hk => by simp [Go.ChangeMaps.setBlock, hh.1, Array.getElem?_setIfInBounds, Ne.symm hk]⟩
      have hnew : (Go.ChangeMaps.setBlock w1 b (.mapIter (some bm) since (seen.push e.born) clock)).heap[b]? = some (.mapIter (some bm) since (seen.push e.born) clock) := by
        have hh : w1.heap = w.heap := by rcases hal with rfl | rfl <;> rfl
        simp [Go.ChangeMaps.setBlock, hh, Array.getElem?_setIfInBounds, hlt]
      obtain ⟨s1, s2⟩ := jt hs (by rw [e3]; rfl) hw (row' := .dat (.miter (some (k, v)) (l1 ++ l2)))
        ⟨b, _, by rw [e3]; rfl, hnew, b, bm, since, seen.push e.born, clock, ents, clock, e3, rfl, e5, e6, rfl, hS, by rw [zji hS.2 hsplit]; exact vz g1 g5, fun k' v' hk => by
          cases hk
          exact ⟨e, hmem, by simp, g3, g4⟩⟩
      exact hK _ h m _ ⟨#[.bool true, e.key, e.val], rfl, rfl, ⟨_, rfl, rfl⟩, ⟨_, rfl, g3⟩, ⟨_, rfl, g4⟩, trivial⟩ s1 s2 fun _ _ => rfl
    · intro a' w' h' m' c' s' hd'
      rw [eE, eS] at c'
      rw [eS] at s'
      exact zgb k4 c' s' (fun h2 m2 a2 w2 c3 s3 hd3 => ⟨env'.get, st'.get, h2, m2, k1, c3, s3, Newer.same (hd3.trans hd')⟩) ro
end
section
variable {P : Program} {nt : Nat} {ops : Array Oper} {o : Oper} {rest : List Oper} {env : EnvL} {st : StO} {acc : List SD} {K : EnvL → StO → List SD → Prop} {d : Nat}
end
section
variable {P : Program} {nt : Nat} {ops : Array Oper} {o : Oper} {rest : List Oper} {env : EnvL} {st : StO} {acc : List SD} {K : EnvL → StO → List SD → Prop} {d : Nat}
end
section
variable {P : Program} {fn : Func} {env : EnvL} {st : StO}
end
end Go.AL
set_option linter.unusedSimpArgs false
namespace Go.AL
open Go Go.RowKit
section
variable {P : Program} {o : Oper} {ρ : Operand → AV}
end
section
variable {P : Program} {nt : Nat} {ops : Array Oper} {o : Oper} {rest : List Oper} {env : EnvL} {st : StO} {acc : List SD} {K : EnvL → StO → List SD → Prop} {d : Nat}
end
end Go.AL
namespace Go.AL
open Go Go.RowKit Go.ChangeShapes Go.WideShapes Go.ChangeMaps
def zen (B : List Nat) (w : World) : Heap := fun b => if b ∈ B then none else w.heap[b]?
mutual
def T.noG : T → Bool
  | .int .u8 _ => false
  | .int .u64 _ => false
  | .iface => false
  | .ifi _ _ _ => false
  | .agg cs => T.noGL cs
  | .sl sz es => decide (0 < sz) && T.noGL es
  | .slq _ _ => false
  | _ => true
def T.noGL : List T → Bool
  | [] => true
  | x :: xs => x.noG && T.noGL xs
end
def zom (B : List Nat) (w : World) : Prop := ∀ b, b ∈ B → ∀ o u, hcell (xA w) b o = some u → (∃ n, u = .int .u8 n) ∨ (∃ t v, u = .iface t v) ∨ ∃ n, u = .int .u64 n
theorem T.noG_cells {x : T} (h : x.noG = true) : T.noGL x.cells = true := by
  cases x with
  | agg cs => simpa [T.noG, T.cells] using h
  | _ => simp only [T.cells, T.noGL, h, Bool.and_self]
theorem zox {h : Heap} {u : Value} {x : T} (hx : x.noG = true) (hu : (∃ n, u = .int .u8 n) ∨ (∃ t v, u = .iface t v) ∨ ∃ n, u = .int .u64 n) (H : RepT h u x) : False := by
  rcases hu with ⟨n, rfl⟩ | ⟨t, v, rfl⟩ | ⟨n, rfl⟩
  · cases x with
    | int k m => simp only [RepT] at H; cases H; simp [T.noG] at hx
    | _ => simp [RepT] at H
  · cases x with
    | iface => simp [T.noG] at hx
    | ifi a b c => simp [T.noG] at hx
    | _ => simp [RepT] at H
  · cases x with
    | int k m => simp only [RepT] at H; cases H; simp [T.noG] at hx
    | _ => simp [RepT] at H
theorem zf9 {B : List Nat} {w : World} {b : Nat} (hb : ¬ b ∈ B) : hcell (zen B w) b = hcell (xA w) b := by
  funext o
  simp only [hcell, zen, xA, if_neg hb]
mutual
theorem RepT.tabG {B : List Nat} {w : World} (hU : zom B w) : ∀ {x : T} {v : Value}, x.noG = true → RepT (xA w) v x → RepT (zen B w) v x
  | .int _ _, v, _, H => by simpa only [RepT] using H
  | .bool _, v, _, H => by simpa only [RepT] using H
  | .str _, v, _, H => by simpa only [RepT] using H
  | .nilsl, v, _, H => by simpa only [RepT] using H
  | .nilp, v, _, H => by simpa only [RepT] using H
  | .nilf, v, _, H => by simpa only [RepT] using H
  | .esl, v, _, H => by simpa only [RepT] using H
  | .fn _, v, _, H => by simpa only [RepT] using H
  | .nili, v, _, H => by simpa only [RepT] using H
  | .iface, v, _, H => by simpa only [RepT] using H
  | .ifi _ _ _, v, _, H => by simpa only [RepT] using H
  | .slq _ _, v, hx, _ => by simp [T.noG] at hx
  | .agg cs, v, hx, H => by
    simp only [RepT] at H ⊢
    obtain ⟨vs, h1, h2, h3⟩ := H
    exact ⟨vs, h1, h2, RepL.tabG hU (by simpa only [T.noG] using hx) h3⟩
  | .sl sz es, v, hx, H => by
    simp only [RepT] at H ⊢
    simp only [T.noG, Bool.and_eq_true, decide_eq_true_eq] at hx
    obtain ⟨A, n, c, h1, h2, h3, h4, h5⟩ := H
    refine ⟨A, n, c, h1, h2, h3, h4, fun hn => ?_⟩
    obtain ⟨b, o, k1, k2⟩ := h5 hn
    by_cases hb : b ∈ B
    · exfalso
      cases es with
      | nil => simp at h2; exact hn h2
      | cons e es =>
        rw [yU] at k2
        have hc := k2.1.2
        have he := T.noG_cells (show e.noG = true by have := hx.2; simp only [T.noGL, Bool.and_eq_true] at this; exact this.1)
        have hl := k2.1.1
        generalize e.cells = cs at hc he hl
        cases cs with
        | nil => simp at hl; omega
        | cons c0 cs =>
          obtain ⟨⟨u, q1, _, q3⟩, _⟩ := hc
          have hm := hU b hb o u q1
          simp only [T.noGL, Bool.and_eq_true] at he
          exact zox he.1 hm q3
    · exact ⟨b, o, k1, by rw [zf9 hb]; exact RepEs.tabG hU hx.2 k2⟩
theorem RepL.tabG {B : List Nat} {w : World} (hU : zom B w) : ∀ {xs : List T} {g : Nat → Option Value} {o : Nat}, T.noGL xs = true → RepL (xA w) g o xs → RepL (zen B w) g o xs
  | [], _, _, _, _ => trivial
  | x :: xs, g, o, hx, H => by
    simp only [T.noGL, Bool.and_eq_true] at hx
    obtain ⟨⟨u, h1, h2, h3⟩, h4⟩ := H
    exact ⟨⟨u, h1, h2, RepT.tabG hU hx.1 h3⟩, RepL.tabG hU hx.2 h4⟩
theorem RepEs.tabG {B : List Nat} {w : World} (hU : zom B w) : ∀ {xs : List T} {g : Nat → Option Value} {o sz : Nat}, T.noGL xs = true → RepEs (xA w) g o sz xs → RepEs (zen B w) g o sz xs
  | [], _, _, _, _, _ => trivial
  | .agg cs :: xs, g, o, sz, hx, H => by
    simp only [T.noGL, T.noG, Bool.and_eq_true] at hx
    simp only [RepEs] at H ⊢
    exact ⟨⟨H.1.1, RepL.tabG hU hx.1 H.1.2⟩, RepEs.tabG hU hx.2 H.2⟩
  | .int a b :: xs, g, o, sz, hx, H => by
    simp only [T.noGL, Bool.and_eq_true] at hx
    simp only [RepEs] at H ⊢
    obtain ⟨⟨h0, u, h1, h2, h3⟩, h4⟩ := H
    exact ⟨⟨h0, u, h1, h2, RepT.tabG hU hx.1 h3⟩, RepEs.tabG hU hx.2 h4⟩
  | .bool b :: xs, g, o, sz, hx, H => by
    simp only [T.noGL, Bool.and_eq_true] at hx
    simp only [RepEs] at H ⊢
    obtain ⟨⟨h0, u, h1, h2, h3⟩, h4⟩ := H
    exact ⟨⟨h0, u, h1, h2, RepT.tabG hU hx.1 h3⟩, RepEs.tabG hU hx.2 h4⟩
  | .str b :: xs, g, o, sz, hx, H => by
    simp only [T.noGL, Bool.and_eq_true] at hx
    simp only [RepEs] at H ⊢
    obtain ⟨⟨h0, u, h1, h2, h3⟩, h4⟩ := H
    exact ⟨⟨h0, u, h1, h2, RepT.tabG hU hx.1 h3⟩, RepEs.tabG hU hx.2 h4⟩
  | .sl a b :: xs, g, o, sz, hx, H => by
    simp only [T.noGL, Bool.and_eq_true] at hx
    simp only [RepEs] at H ⊢
    obtain ⟨⟨h0, u, h1, h2, h3⟩, h4⟩ := H
    exact ⟨⟨h0, u, h1, h2, RepT.tabG hU hx.1 h3⟩, RepEs.tabG hU hx.2 h4⟩
  | .nilsl :: xs, g, o, sz, hx, H => by
    simp only [T.noGL, Bool.and_eq_true] at hx
    simp only [RepEs] at H ⊢
    obtain ⟨⟨h0, u, h1, h2, h3⟩, h4⟩ := H
    exact ⟨⟨h0, u, h1, h2, RepT.tabG hU hx.1 h3⟩, RepEs.tabG hU hx.2 h4⟩
  | .nilp :: xs, g, o, sz, hx, H => by
    simp only [T.noGL, Bool.and_eq_true] at hx
    simp only [RepEs] at H ⊢
    obtain ⟨⟨h0, u, h1, h2, h3⟩, h4⟩ := H
    exact ⟨⟨h0, u, h1, h2, RepT.tabG hU hx.1 h3⟩, RepEs.tabG hU hx.2 h4⟩
  | .nilf :: xs, g, o, sz, hx, H => by
    simp only [T.noGL, Bool.and_eq_true] at hx
    simp only [RepEs] at H ⊢
    obtain ⟨⟨h0, u, h1, h2, h3⟩, h4⟩ := H
    exact ⟨⟨h0, u, h1, h2, RepT.tabG hU hx.1 h3⟩, RepEs.tabG hU hx.2 h4⟩
  | .esl :: xs, g, o, sz, hx, H => by
    simp only [T.noGL, Bool.and_eq_true] at hx
    simp only [RepEs] at H ⊢
    obtain ⟨⟨h0, u, h1, h2, h3⟩, h4⟩ := H
    exact ⟨⟨h0, u, h1, h2, RepT.tabG hU hx.1 h3⟩, RepEs.tabG hU hx.2 h4⟩
  | .fn f :: xs, g, o, sz, hx, H => by
    simp only [T.noGL, Bool.and_eq_true] at hx
    simp only [RepEs] at H ⊢
    obtain ⟨⟨h0, u, h1, h2, h3⟩, h4⟩ := H
    exact ⟨⟨h0, u, h1, h2, RepT.tabG hU hx.1 h3⟩, RepEs.tabG hU hx.2 h4⟩
  | .nili :: xs, g, o, sz, hx, H => by
    simp only [T.noGL, Bool.and_eq_true] at hx
    simp only [RepEs] at H ⊢
    obtain ⟨⟨h0, u, h1, h2, h3⟩, h4⟩ := H
    exact ⟨⟨h0, u, h1, h2, RepT.tabG hU hx.1 h3⟩, RepEs.tabG hU hx.2 h4⟩
  | .iface :: xs, g, o, sz, hx, H => by
    simp only [T.noGL, Bool.and_eq_true] at hx
    simp only [RepEs] at H ⊢
    obtain ⟨⟨h0, u, h1, h2, h3⟩, h4⟩ := H
    exact ⟨⟨h0, u, h1, h2, RepT.tabG hU hx.1 h3⟩, RepEs.tabG hU hx.2 h4⟩
  | .ifi _ _ _ :: xs, g, o, sz, hx, H => by
    simp only [T.noGL, Bool.and_eq_true] at hx
    simp only [RepEs] at H ⊢
    obtain ⟨⟨h0, u, h1, h2, h3⟩, h4⟩ := H
    exact ⟨⟨h0, u, h1, h2, RepT.tabG hU hx.1 h3⟩, RepEs.tabG hU hx.2 h4⟩
  | .slq _ _ :: xs, g, o, sz, hx, H => by simp [T.noGL, T.noG] at hx
end
def zcC : Nat → List (Nat × Obj) → StL
  | _, [] => []
  | k, x :: G => (.par k, .dat (.fix x.1 x.2)) :: zcC (k + 1) G
def zhi (k : Nat) (G : List (Nat × Obj)) : zQ := fun id => match id with
  | .par n => if k ≤ n then (match G[n - k]? with | some x => .pointer (some ⟨x.1, 0, none⟩) | none => undef) else undef
  | _ => undef
theorem vW : ∀ {k : Nat} {G : List (Nat × Obj)} {id : Id} {row : Row}, StL.get (zcC k G) id = some row → ∃ i x, G[i]? = some x ∧ id = .par (k + i) ∧ row = .dat (.fix x.1 x.2)
  | k, [], id, row, h => by simp [zcC, StL.get] at h
  | k, x :: G, id, row, h => by
    simp only [zcC, StL.get] at h
    split at h
    · rename_i e
      exact ⟨0, x, rfl, e.symm, (Option.some.inj h).symm⟩
    · obtain ⟨i, y, h1, h2, h3⟩ := vW h
      exact ⟨i + 1, y, by simpa using h1, by rw [h2, Nat.add_assoc, Nat.add_comm 1], h3⟩
theorem zhc : ∀ {k : Nat} {G : List (Nat × Obj)} {i : Nat} {x : Nat × Obj}, G[i]? = some x → StL.get (zcC k G) (.par (k + i)) = some (.dat (.fix x.1 x.2))
  | k, y :: G, 0, x, h => by
    simp at h
    subst h
    simp [zcC, StL.get]
  | k, y :: G, i + 1, x, h => by
    have := zhc (k := k + 1) (G := G) (i := i) (x := x) (by simpa using h)
    simp only [zcC, StL.get]
    rw [if_neg (by simp), show k + (i + 1) = k + 1 + i by omega]
    exact this
theorem qL {k : Nat} {G : List (Nat × Obj)} {i : Nat} {x : Nat × Obj} (h : G[i]? = some x) : zhi k G (.par (k + i)) = .pointer (some ⟨x.1, 0, none⟩) := by
  simp only [zhi]
  rw [if_pos (by omega), show k + i - k = i by omega, h]
theorem zop {w : World} {k : Nat} {G : List (Nat × Obj)} (hG : ∀ x ∈ G, w.heap[x.1]? = some x.2) (hn : (G.map (·.1)).Nodup) : Sim (zen (G.map (·.1)) w) (zhi k G) (StL.get (zcC k G)) w := by
  refine ⟨fun b o h => ?_, fun id row h => ?_, fun id row b h hb => ?_, fun id id' r r' b h h' hb hb' => ?_⟩
  · simp only [zen] at h
    split at h
    · cases h
    · exact h
  · obtain ⟨i, x, h1, rfl, rfl⟩ := vW h
    have e := qL (k := k) h1
    exact ⟨x.1, x.2, by rw [e]; rfl, hG x (List.mem_of_getElem? h1), e, rfl⟩
  · obtain ⟨i, x, h1, rfl, rfl⟩ := vW h
    rw [qL h1] at hb
    simp only [blk, Option.some.injEq] at hb
    subst hb
    have hm := List.mem_of_getElem? h1
    refine ⟨?_, (Array.getElem?_eq_some_iff.1 (hG x hm)).1⟩
    simp only [zen]
    rw [if_pos (List.mem_map.2 ⟨x, hm, rfl⟩)]
  · obtain ⟨i, x, h1, rfl, rfl⟩ := vW h
    obtain ⟨j, y, k1, rfl, rfl⟩ := vW h'
    rw [qL h1] at hb
    rw [qL k1] at hb'
    simp only [blk, Option.some.injEq] at hb hb'
    have hi : (G.map (·.1))[i]? = some b := by rw [List.getElem?_map, h1]; simp [hb]
    have hj : (G.map (·.1))[j]? = some b := by rw [List.getElem?_map, k1]; simp [hb']
    have li := (List.getElem?_eq_some_iff.1 hi).1
    have : i = j := (List.getElem?_inj li hn).1 (hi.trans hj.symm)
    rw [this]
theorem Spec.callsG {P : Program} {f : FuncId} {args : List AV} {b : Bool} {k : Nat} {G : List (Nat × Obj)} (S : Spec P f args (zcC k G) (.t (.bool b)) (zcC k G)) {vs : Array Value} {w : World} (hG : ∀ x ∈ G, w.heap[x.1]? = some x.2) (hnd : (G.map (·.1)).Nodup) (hn : vs.size = args.length) (hr : RepAs (zen (G.map (·.1)) w) (zhi k G) (fun j => vs[j]?) 0 args) :
    Calls P f vs w fun e w' => e = .returned (.bool b) ∧ Below w.heap.size w w' := by
  refine (S.run _ _ vs w (zop hG hnd) hn hr).mono ?_
  rintro e w' ⟨v, h', m', rfl, hv, hs, hf⟩
  refine ⟨by simp only [RepA, RepT] at hv; rw [hv], hf.foot.os, hf.foot.tape, hf.foot.output, hf.foot.size, fun q hq => ?_⟩
  by_cases hm : q ∈ G.map (·.1)
  · obtain ⟨x, hx, rfl⟩ := List.mem_map.1 hm
    obtain ⟨i, hi⟩ := List.mem_iff_getElem?.1 hx
    obtain ⟨b', o, k1, k2, k3, k4⟩ := hs.rows (.par (k + i)) _ (zhc hi)
    rw [k3] at k1
    simp only [blk, Option.some.injEq] at k1
    subst k1
    rw [k2, k4, hG x hx]
  · refine (hf.foot.keep q hq (fun id row h hb => ?_)).1
    obtain ⟨i, x, h1, rfl, rfl⟩ := vW h
    rw [qL h1] at hb
    simp only [blk, Option.some.injEq] at hb
    exact hm (List.mem_map.2 ⟨x, List.mem_of_getElem? h1, hb⟩)
open Go.Lib in
theorem zkK {P : Program} {W : World} {name : String} {g : Nat} {cs : Array Value} (hg : P.globalNamed name = some g) (hv : W.var? P name = some cs) : ∃ t fr, W.heap[g]? = some (.cells cs t fr) := by
  simp only [World.var?, hg, Option.bind_some] at hv
  split at hv
  · rename_i e
    cases hv
    exact ⟨_, _, e⟩
  · cases hv
open Go.Lib in
theorem zmd {P : Program} {W : World} {name nm : String} {d : DataW Unit} {g t : Nat} {ms : Array (String × TypeId)} (hg : P.globalNamed name = some g) (hty : (P.globals[g]?).map (·.type) = some t) (ht : P.underlying t = some (.interface ms)) (h : VarReads P W name (.iface nm d)) :
    ∃ o, W.heap[g]? = some o ∧ qv o = true ∧ ∀ j u, hcell (xA W) g j = some u → ∃ t v, u = .iface t v := by
  obtain ⟨g', t', cs, fuel, p, hg', hty', hvar, hd⟩ := h
  obtain rfl := Option.some.inj (hg.symm.trans hg')
  obtain rfl := Option.some.inj (hty.symm.trans hty')
  obtain ⟨t2, fr, ho⟩ := zkK hg hvar
  have key : ∃ u v, cs.toList = [.iface u v] := by
    cases fuel with
    | zero => simp [DataW.trod] at hd
    | succ fuel =>
      simp only [DataW.trod, ht] at hd
      split at hd <;> first | cases hd | skip
      all_goals first | exact ⟨_, _, rfl⟩ | (rename_i h1 h2; first | cases h1 | skip)
      all_goals simp_all
  obtain ⟨u, v, e⟩ := key
  refine ⟨_, ho, by simp only [qv, e], fun j x hx => ?_⟩
  rw [xh] at hx
  rw [yI ho] at hx
  have : cs = #[.iface u v] := by cases cs; simp at e; simp [e]
  subst this
  cases j with
  | zero => simp at hx; exact ⟨u, v, hx.symm⟩
  | succ j => simp at hx
open Go.Lib in
theorem zoa {P : Program} {W : World} {name : String} {k : IntKind} {zs : List Int} {g t e : Nat} {n : Nat} (hg : P.globalNamed name = some g) (hty : (P.globals[g]?).map (·.type) = some t) (ht : P.underlying t = some (.array n e)) (he : P.underlying e = some (.int k)) (hce : P.cellsOf e = 1) (hct : P.cellsOf t = n) (h : VarReads P W name (tabData k zs)) :
    ∃ o, W.heap[g]? = some o ∧ y3 k zs o ∧ ∀ j u, hcell (xA W) g j = some u → ∃ n, u = .int k n := by
  obtain ⟨g', t', cs, fuel, p, hg', hty', hvar, hd⟩ := h
  obtain rfl := Option.some.inj (hg.symm.trans hg')
  obtain rfl := Option.some.inj (hty.symm.trans hty')
  obtain ⟨t2, fr, ho⟩ := zkK hg hvar
  have hc := cells_of_tab ht he hce hct hd
  refine ⟨_, ho, hc, fun j x hx => ?_⟩
  rw [xh] at hx
  rw [yI ho] at hx
  have h2 : cs.toList[j]? = some x := by simpa using hx
  rw [hc, List.getElem?_map] at h2
  obtain ⟨z, _, rfl⟩ := Option.map_eq_some_iff.1 h2
  exact ⟨z, rfl⟩
theorem zhV (f : Int → T) (hf : ∀ n, (f n).noG = true) : ∀ l : List Int, T.noGL (l.map f) = true
  | [] => rfl
  | x :: xs => by simp [T.noGL, hf, zhV f hf xs]
theorem zmx (l : List Int) : T.noG (.sl 1 (l.map (T.int .i64))) = true := by
  simp [T.noG, zhV (T.int .i64) (fun _ => rfl) l]
theorem zhd : ∀ l : List ByteArray, T.noGL (l.map .str) = true
  | [] => rfl
  | x :: xs => by simp [T.noGL, T.noG, zhd xs]
theorem RepT.int_anyG {h h' : Heap} {v : Value} {k : IntKind} {n : Int} (z : RepT h v (.int k n)) : RepT h' v (.int k n) := by simpa only [RepT] using z
theorem RepT.str_anyG {h h' : Heap} {v : Value} {n : ByteArray} (z : RepT h v (.str n)) : RepT h' v (.str n) := by simpa only [RepT] using z
end Go.AL
set_option linter.unusedSimpArgs false
namespace Go.AL
open Go Go.RowKit
section
variable {P : Program} {o : Oper} {ρ : Operand → AV}
end
section
variable {P : Program} {nt : Nat} {ops : Array Oper} {o : Oper} {rest : List Oper} {env : EnvL} {st : StO} {acc : List SD} {K : EnvL → StO → List SD → Prop} {d : Nat}
end
end Go.AL
set_option linter.unusedSimpArgs false
namespace Go.AL
open Go Go.RowKit
theorem OpT.frz {P : Program} {o : Oper} {ρ : Operand → AV} {id : Id} {e : TypeId} {sz : Nat} {es : List T} (H : OpT P o ρ (StL.get []) (.row id) (StL.get [(id, .slt e sz es)]) [id]) : OpT P o ρ (StL.get []) (.t (.sl sz es)) (StL.get []) [] := by
  intro h m a w hs hr K Q hK
  refine H h m a w hs hr K Q fun v h1 m1 w1 hv hs1 hf hN => ?_
  have hve : v = m1 id := hv.1
  subst hve
  obtain ⟨xs, k1, k2⟩ := hs1.rows id _ (yz id _)
  let h2 : Heap := fun b => if blk (m1 id) = some b then w1.heap[b]? else h1 b
  have hh : h1.le h2 := fun b ob hb => by
    show (if blk (m1 id) = some b then w1.heap[b]? else h1 b) = some ob
    split
    · exact hs1.imm b ob hb
    · exact hb
  have himm : ∀ b ob, h2 b = some ob → w1.heap[b]? = some ob := fun b ob hb => by
    simp only [h2] at hb
    split at hb
    · exact hb
    · exact hs1.imm b ob hb
  have hx : RepT h2 (m1 id) (.sl sz es) := by
    simp only [RepT]
    rcases k1.2 with ⟨hv, hn⟩ | ⟨g, cap, cur, lo, hi, hv, hg, hf, hnc, hcm, hcs, ht⟩
    · exact ⟨none, 0, 0, hv, hn.symm, Nat.le_refl _, ⟨Nat.zero_le _, fun _ => rfl⟩, fun h => absurd rfl h⟩
    · refine ⟨_, _, cap, hv, rfl, hnc, ⟨hcm, fun h => by cases h⟩, fun _ => ⟨g, 0, rfl, RepEs.mono hh (fun j u hu => ?_) k2⟩⟩
      have hb : h2 g = some (.cells cur e (lo, hi)) := by
        show (if blk (m1 id) = some g then w1.heap[g]? else h1 g) = _
        rw [hv]
        simp [blk, hg]
      simp only [hcell, hb]
      rw [← ht, List.getElem?_take] at hu
      split at hu
      · simpa using hu
      · cases hu
  refine hK _ h2 m w1 (by simpa [RepA] using hx) ⟨himm, fun _ _ hx => by simp [StL.get] at hx, fun _ _ _ hx => by simp [StL.get] at hx, fun _ _ _ _ _ hx => by simp [StL.get] at hx⟩
    ⟨hf.os, hf.tape, hf.output, hf.size, fun b hb hn => ⟨(hf.keep b hb hn).1, ?_⟩, fun b ob hb => hh b ob (hf.grow b ob hb), fun _ _ _ hx => by simp [StL.get] at hx⟩ fun _ _ => rfl
  show (if blk (m1 id) = some b then w1.heap[b]? else h1 b) = h b
  rw [if_neg fun e => ?_]
  · exact (hf.keep b hb hn).2
  · rcases hf.fresh id _ b (yz id _) e with h3 | ⟨_, _, h3, _⟩
    · omega
    · simp [StL.get] at h3
section
variable {P : Program} {nt : Nat} {ops : Array Oper} {o : Oper} {rest : List Oper} {env : EnvL} {st : StO} {acc : List SD} {K : EnvL → StO → List SD → Prop} {d : Nat}
theorem kK {t elem : TypeId} {len : Nat} {parts : Array (Nat × Operand)} {sz bytes : Nat} {z : Value} {es : List T} (ho : o.op = .buildSlice t len parts) [tu : TyU P t (.slice elem)] [ti : TyI P elem sz bytes z]
    (hes : zgt 0 (parts.toList.map (fun p => (p.1, zE env.get p.2))) = some es) (hside : (decide (es.length = len) && (es.all (fun e => decide (e.cells.length = sz)) && (decide (z.cells.size = sz) && (decide (0 < sz) && (z.cells.toList.all Value.oneCell' && decide (len * sz ≤ 16777216)))))) = true)
    (hd : o.dst = some d) (hn : (decide (d < nt)) = true) (hg : zC ops o env = true)
    (H : LexP P nt ops rest ((d, .t (.sl sz es)) :: env) st (⟨true, [], .t (.sl sz es), [], [], []⟩ :: acc) K) : LexP P nt ops (o :: rest) env st acc K := by
  simp only [Bool.and_eq_true, decide_eq_true_eq, List.all_eq_true] at hside
  obtain ⟨s1, s2, s3, s4, s5, s6⟩ := hside
  have e := zdf hes
  subst s1
  have f := zeq (sz := sz) es [] 0 (by simp) s2
  simp only [List.nil_append] at f
  exact yc (OpT.frz (kL (.loc d) ho tu ti s3 s4 s5 s6 (zb8 _ _ 0 e s2 (by simp)) f rfl s2)) hd hn hg H
end
end Go.AL
set_option linter.unusedSimpArgs false
namespace Go.AL
open Go Go.RowKit
section
variable {P : Program} {o : Oper} {ρ : Operand → AV}
end
section
variable {P : Program} {nt : Nat} {ops : Array Oper} {o : Oper} {rest : List Oper} {env : EnvL} {st : StO} {acc : List SD} {K : EnvL → StO → List SD → Prop} {d : Nat}
end
end Go.AL
set_option linter.unusedSimpArgs false
namespace Go.AL
open Go Go.RowKit
section
variable {P : Program} {o : Oper} {ρ : Operand → AV}
end
section
variable {P : Program} {nt : Nat} {ops : Array Oper} {o : Oper} {rest : List Oper} {env : EnvL} {st : StO} {acc : List SD} {K : EnvL → StO → List SD → Prop} {d : Nat}
end
end Go.AL
set_option linter.unusedSimpArgs false
namespace Go.AL
open Go Go.RowKit
section
variable {P : Program} {nt : Nat} {ops : Array Oper} {o : Oper} {rest : List Oper} {env : EnvL} {st : StO} {acc : List SD} {K : EnvL → StO → List SD → Prop} {d : Nat}
end
end Go.AL
set_option linter.unusedSimpArgs false
namespace Go.AL
open Go Go.RowKit
end Go.AL
set_option linter.unusedSimpArgs false
namespace Go.AL
open Go Go.RowKit
section
variable {P : Program} {o : Oper} {ρ : Operand → AV} {w : World} {h : Heap} {m : zQ}
end
section
variable {P : Program} {nt : Nat} {ops : Array Oper} {o : Oper} {rest : List Oper} {env : EnvL} {st : StO} {acc : List SD} {K : EnvL → StO → List SD → Prop} {d : Nat}
end
end Go.AL
namespace Go.AL
open Go Go.RowKit
section
variable {P : Program} {nt : Nat} {ops : Array Oper} {o : Oper} {rest : List Oper} {env : EnvL} {st : StO} {acc : List SD} {K : EnvL → StO → List SD → Prop} {d : Nat}
end
end Go.AL
set_option linter.unusedSimpArgs false
namespace Go.AL
open Go Go.RowKit
theorem zcJ {P : Program} {o : Oper} {ρ : Operand → AV} {t elem : TypeId} {x y : Operand} {id : Id} {s0 len eb : Nat} {ez : Value} {k : IntKind} {hh : Int} (ho : o.op = .slice t x none (some y) none) (hx : ρ x = .ref id 0 s0 0) (hy : ρ y = .t (.int k hh)) (tu : TyU P t (.array len elem)) (te : TyI P elem 1 eb ez) (hm : len ≤ maxLen)
    (h0 : 0 ≤ hh) (h2 : hh ≤ (len : Int)) : OpT P o ρ (StL.get []) (.view id hh.toNat len) (StL.get []) [] :=
  zY fun h m A w _ hr => by
    have r1 := hr x (by simp [ho, Op.operands])
    have r2 := hr y (by simp [ho, Op.operands])
    rw [hx] at r1
    rw [hy] at r2
    obtain ⟨b, q1, q2⟩ := r1
    have q2 : A.eval x = .pointer (some ⟨b, 0, none⟩) := by simpa using q2
    simp only [RepA, RepT] at r2
    have hb : (Instr.sliceBounds false len len none (some (A.eval y)) none).run P w = .ok (0, hh.toNat, len) w := by
      simp [Instr.sliceBounds, xB (P := P) (w := w) (y := len) r2 h0 (by omega)]
    refine ⟨.slice (some ⟨b, 0, none⟩) hh.toNat len, by simp [execOp, ho, q2, Instr.sliceAt, run_underlying tu.h, Instr.sureAddr, hb, y4 te, wu], ?_⟩
    exact ⟨b, q1, rfl⟩
section
variable {P : Program} {nt : Nat} {ops : Array Oper} {o : Oper} {rest : List Oper} {env : EnvL} {st : StO} {acc : List SD} {K : EnvL → StO → List SD → Prop} {d : Nat}
theorem zd1 {t elem : TypeId} {x y : Operand} {id : Id} {s0 len eb : Nat} {ez : Value} {k : IntKind} {hh : Int} (ho : o.op = .slice t x none (some y) none) (hx : zE env.get x = .ref id 0 s0 0) (hy : zE env.get y = .t (.int k hh)) [tu : TyU P t (.array len elem)] [te : TyI P elem 1 eb ez] (hm : (decide (len ≤ maxLen)) = true) (hd : o.dst = some d) (hn : (decide (d < nt)) = true) (hg : zC ops o env = true)
    (h0 : 0 ≤ hh) (h2 : hh ≤ (len : Int))
    (H : LexP P nt ops rest ((d, .view id hh.toNat len) :: env) st (⟨true, [], .view id hh.toNat len, [], [], []⟩ :: acc) K) : LexP P nt ops (o :: rest) env st acc K :=
  yc (zcJ ho hx hy tu te (of_decide_eq_true hm) h0 h2) hd hn hg H
theorem zcH {s x : Operand} {t t2 elem e2 aty : TypeId} {id id2 : Id} {sz bytes n c : Nat} {z : Value} {xs ys : List T} (ho : o.op = .call { callee := .builtin .append, args := #[s, x], argTypes := #[t, t2] }) (hs1 : zE env.get s = .row id) (hx : zE env.get x = .view id2 n c) [tu : TyU P t (.slice elem)] [ti : TyI P elem sz bytes z] [tu2 : TyU P t2 (.slice e2)]
    (hst : StO.get st id = some (.slt elem sz xs)) (hst2 : StO.get st id2 = some (.arr aty sz ys)) (hside : (decide (z.cells.size = sz) && (decide (0 < sz) && decide (id ≠ id2))) = true)
    (hd : o.dst = some d) (hn : (decide (d < nt)) = true) (hg : zC ops o env = true) (hfr : xg [.loc d] env st = true)
    (hl : n ≤ ys.length) (hb : (xs.length + n) * bytes ≤ 140737488355328) (hm : xs.length + n ≤ 9223372036854775807)
    (H : LexP P nt ops rest ((d, .row (.loc d)) :: env) ((.loc d, some (.slt elem sz (xs ++ ys.take n))) :: (id, none) :: st) (⟨true, [(id, .slt elem sz xs), (id2, .arr aty sz ys)], .row (.loc d), [(.loc d, .slt elem sz (xs ++ ys.take n)), (id2, .arr aty sz ys)], [id], [.loc d]⟩ :: acc) K) : LexP P nt ops (o :: rest) env st acc K := by
  simp only [Bool.and_eq_true, decide_eq_true_eq] at hside
  have hne := jd hfr hst
  have hne2 := jd hfr hst2
  have hlen : (ys.take n).length = n := by rw [List.length_take]; omega
  refine jO (R := [(id, .slt elem sz xs), (id2, .arr aty sz ys)]) (R' := [(.loc d, .slt elem sz (xs ++ ys.take n)), (id2, .arr aty sz ys)]) (N := [.loc d]) (W := [id]) (r := .row (.loc d)) ?_ hd (of_decide_eq_true hn) (yT hg) ?_ ?_ ?_ ?_ hfr ?_ H
  · exact j9 (R2 := [(id2, .arr aty sz ys)]) (.loc d) ho hs1 tu ti tu2 (by rw [hx]; exact .view hl) hside.1 hside.2.1 (by simp [StL.ids, hside.2.2]) (by simp [StL.ids, hne2]) (by rw [hlen]; exact hb) (by rw [hlen]; exact hm)
  · intro y hy; simp at hy; rcases hy with rfl | rfl
    · exact hst
    · exact hst2
  · intro j hj; simp [StL.ids] at hj; rcases hj with rfl | rfl
    · exact .inr (by simp)
    · exact .inl (by simp [StL.ids])
  · intro j hj hj'; simp [StL.ids] at hj; simp at hj'; rcases hj with rfl | rfl
    · exact absurd rfl hj'
    · simp [StL.get, hne2, hside.2.2]
  · intro j hj; simp at hj; rw [hj]; rfl
  · funext y
    show StO.get ((.loc d, some (.slt elem sz (xs ++ ys.take n))) :: (id, none) :: st) y = StO.get ((.loc d, some (.slt elem sz (xs ++ ys.take n))) :: (id2, some (.arr aty sz ys)) :: (id, none) :: (id2, none) :: (.loc d, none) :: st) y
    simp only [StO.get]
    by_cases e1 : Id.loc d = y
    · simp [e1]
    · by_cases e2 : id2 = y
      · subst e2; simp [hne2, hside.2.2, hst2]
      · simp [e1, e2]
end
section
variable {P : Program} {nt : Nat} {ops : Array Oper} {o : Oper} {rest : List Oper} {env : EnvL} {st : StO} {acc : List SD} {K : EnvL → StO → List SD → Prop} {d : Nat}
theorem x4 {t kt et : TypeId} {x ix : Operand} {id : Id} {es : List (T × T)} {k zT y : T} {kd : TypeDesc} {sz bytes : Nat} {z : Value} (ho : o.op = .lookup t x ix true) (hx : zE env.get x = .row id) (hk : zE env.get ix = .t k) [tu : TyU P t (.map kt et)] [td : TyU P kt kd] [ti : TyI P et sz bytes z]
    (hst : StO.get st id = some (.dat (.map es))) (hy : kg es k = some y) (hz : ∀ h, RepT h z zT) (hkey : xW kd k = true) (hd : o.dst = some d) (hn : (decide (d < nt)) = true) (hg : zC ops o env = true) (hes : xp kd es = true)
    (H : LexP P nt ops rest ((d, .tup [.t y, .t (.bool true)]) :: env) st (⟨true, [(id, .dat (.map es))], .tup [.t y, .t (.bool true)], [(id, .dat (.map es))], [], []⟩ :: acc) K) : LexP P nt ops (o :: rest) env st acc K := by
  refine zaT ho hx hk hz hst hkey hd hn hg hes ?_
  rw [hy]; exact H
theorem vb {t kt et : TypeId} {x ix : Operand} {id : Id} {es : List (T × T)} {k zT : T} {kd : TypeDesc} {sz bytes : Nat} {z : Value} (ho : o.op = .lookup t x ix true) (hx : zE env.get x = .row id) (hk : zE env.get ix = .t k) [tu : TyU P t (.map kt et)] [td : TyU P kt kd] [ti : TyI P et sz bytes z]
    (hst : StO.get st id = some (.dat (.map es))) (hy : kg es k = none) (hz : ∀ h, RepT h z zT) (hkey : xW kd k = true) (hd : o.dst = some d) (hn : (decide (d < nt)) = true) (hg : zC ops o env = true) (hes : xp kd es = true)
    (H : LexP P nt ops rest ((d, .tup [.t zT, .t (.bool false)]) :: env) st (⟨true, [(id, .dat (.map es))], .tup [.t zT, .t (.bool false)], [(id, .dat (.map es))], [], []⟩ :: acc) K) : LexP P nt ops (o :: rest) env st acc K := by
  refine zaT ho hx hk hz hst hkey hd hn hg hes ?_
  rw [hy]; exact H
end
theorem Spec.nilArgS {P : Program} {f : FuncId} {rest : List AV} {S1 S' : StL} {r : AV} {e sz : Nat} (H : Spec P f (.row (.par 0) :: rest) ((.par 0, .slt e sz []) :: S1) r S') (hc : AV.cleanL [.par 0] rest = true) (hS1 : (S1.all fun x => !decide (x.1 = .par 0) && x.2.clean [.par 0]) = true) (hS : (S'.all fun x => !decide (x.1 = .par 0) && x.2.clean [.par 0]) = true) (hr : r.clean [.par 0] = true) : Spec P f (.t .nilsl :: rest) S1 r S' := by
  refine ⟨fun h m vs w hs hn hrep => ?_⟩
  have hm1 : ∀ y, y ∉ [Id.par 0] → zV m (.par 0) (.slice none 0 0) y = m y := fun y => zU
  obtain ⟨⟨u, k1, k2⟩, k3⟩ := hrep
  simp only [RepA, RepT] at k2
  subst k2
  simp only [List.all_eq_true, Bool.and_eq_true, Bool.not_eq_true', decide_eq_false_iff_not] at hS hS1
  have hS1' : ∀ y row, StL.get S1 y = some row → y ∉ [Id.par 0] ∧ row.clean [.par 0] = true := fun y row hy => by
    have := hS1 _ (StL.get_mem hy)
    exact ⟨by simpa using this.1, this.2⟩
  have hget : ∀ y row, StL.get ((Id.par 0, Row.slt e sz []) :: S1) y = some row → (y = .par 0 ∧ row = .slt e sz []) ∨ (y ∉ [Id.par 0] ∧ StL.get S1 y = some row) := fun y row hy => by
    simp only [StL.get] at hy
    split at hy
    · rename_i e; exact .inl ⟨e.symm, (Option.some.inj hy).symm⟩
    · exact .inr ⟨(hS1' y row hy).1, hy⟩
  have hs1 : Sim h (zV m (.par 0) (.slice none 0 0)) (StL.get ((.par 0, Row.slt e sz []) :: S1)) w := by
    refine ⟨hs.imm, fun y row hy => ?_, fun y row b hy hb => ?_, fun y y' r r' b hy hy' hb hb' => ?_⟩
    · rcases hget y row hy with ⟨rfl, rfl⟩ | ⟨q1, q2⟩
      · exact ⟨[], by rw [zu]; exact ⟨by simp, .inl ⟨rfl, rfl⟩⟩, by simp [RepEs]⟩
      · exact SimRow.mono (N := [.par 0]) (fun _ _ hu => hu) hm1 q1 (hS1' y row q2).2 (fun _ _ => rfl) (hs.rows y row q2)
    · rcases hget y row hy with ⟨rfl, rfl⟩ | ⟨q1, q2⟩
      · rw [zu] at hb; simp [blk] at hb
      · rw [hm1 y q1] at hb; exact hs.sep y row b q2 hb
    · rcases hget y r hy with ⟨rfl, rfl⟩ | ⟨q1, q2⟩
      · rw [zu] at hb; simp [blk] at hb
      · rcases hget y' r' hy' with ⟨rfl, rfl⟩ | ⟨q3, q4⟩
        · rw [zu] at hb'; simp [blk] at hb'
        · rw [hm1 y q1] at hb
          rw [hm1 y' q3] at hb'
          exact hs.inj y y' r r' b q2 q4 hb hb'
  have hrep1 : RepAs h (zV m (.par 0) (.slice none 0 0)) (fun j => vs[j]?) 0 (.row (.par 0) :: rest) :=
    ⟨⟨_, k1, by simp only [RepA]; exact ⟨by rw [zu], rfl⟩⟩, RepAs.mono (fun _ _ hu => hu) hm1 (fun _ _ hu => hu) hc k3⟩
  refine (H.run h _ vs w hs1 hn hrep1).mono ?_
  rintro ee w' ⟨v, h', m', e1, e2, e3, e4⟩
  let m2 := zV m' (.par 0) (m (.par 0))
  have hmm : ∀ y, y ∉ [Id.par 0] → m2 y = m' y := fun y => zU
  have hS2 : ∀ y row, StL.get S' y = some row → y ∉ [Id.par 0] ∧ row.clean [.par 0] = true := fun y row hy => by
    have := hS _ (StL.get_mem hy)
    exact ⟨by simpa using this.1, this.2⟩
  refine ⟨v, h', m2, e1, RepA.mono (fun _ _ hu => hu) hmm hr e2, ⟨e3.imm, fun y row hy => ?_, fun y row b hy hb => ?_, fun y y' r r' b hy hy' hb hb' => ?_⟩, ⟨⟨e4.foot.os, e4.foot.tape, e4.foot.output, e4.foot.size, fun b hlt hn2 => e4.foot.keep b hlt fun y row hy hbk => ?_, e4.foot.grow, fun y row b hy hbk => ?_⟩, fun k => ?_⟩⟩
  · exact SimRow.mono (N := [.par 0]) (fun _ _ hu => hu) hmm (hS2 y row hy).1 (hS2 y row hy).2 (fun _ _ => rfl) (e3.rows y row hy)
  · rw [hmm y (hS2 y row hy).1] at hb; exact e3.sep y row b hy hb
  · rw [hmm y (hS2 y r hy).1] at hb
    rw [hmm y' (hS2 y' r' hy').1] at hb'
    exact e3.inj y y' r r' b hy hy' hb hb'
  · rcases hget y row hy with ⟨rfl, rfl⟩ | ⟨q1, q2⟩
    · rw [zu] at hbk; simp [blk] at hbk
    · rw [hm1 y q1] at hbk; exact hn2 y row q2 hbk
  · rw [hmm y (hS2 y row hy).1] at hbk
    rcases e4.foot.fresh y row b hy hbk with h1 | ⟨y', row', q1, q2⟩
    · exact .inl h1
    · rcases hget y' row' q1 with ⟨rfl, rfl⟩ | ⟨q3, q4⟩
      · rw [zu] at q2; simp [blk] at q2
      · rw [hm1 y' q3] at q2; exact .inr ⟨y', row', q4, q2⟩
  · by_cases hk : Id.par k = .par 0
    · rw [hk]; simp only [m2]; rw [zu]
    · rw [hmm _ (by simpa using hk), e4.par k, hm1 _ (by simpa using hk)]
section
variable {P : Program} {fn : Func} {env : EnvL} {st : StO}
end
end Go.AL
