/- The layer of abstract values, fourth part: ranges over strings and maps, interfaces against nil, laid variables; each under the conditions that its own theorem names. -/
import Derived.Test.YtmidabiehblekaaGreatDoorAl3
import Derived.Maps.RangeRun
import Derived.Lib.LaidTab
import Derived.Lib.LaidU8
set_option linter.unusedVariables false
set_option linter.unusedSimpArgs false
namespace Go.AL
open Go Go.RowKit
section
variable {P : Program} {o : Oper} {ρ : Operand → AV}
def zbU : T → Option Bool
  | .nili => some true
  | .iface => some false
  | .ifi _ _ _ => some false
  | _ => none
theorem jv {w : World} {ti : TypeId} {ms : Array (String × TypeId)} (hi : P.underlying ti = some (.interface ms)) : (binOp .eql ti .nilIface .nilIface).run P w = .ok (.bool true) w := by
  have h : ∀ d : Nat, (Op.equalIn (d + 1) ti .nilIface .nilIface).run P w = .ok true w := fun d => by simp [Op.equalIn, run_underlying hi]
  simp only [binOp]
  simp [Op.equal, Op.maxDepth, h 9999]
theorem wZ {w : World} {ti : TypeId} {ms : Array (String × TypeId)} (tp : TypeId) (v : Value) (hi : P.underlying ti = some (.interface ms)) : (binOp .eql ti (.iface tp v) .nilIface).run P w = .ok (.bool false) w := by
  have h : ∀ d : Nat, (Op.equalIn (d + 1) ti (.iface tp v) .nilIface).run P w = .ok false w := fun d => by simp [Op.equalIn, run_underlying hi]
  simp only [binOp]
  simp [Op.equal, Op.maxDepth, h 9999]
theorem zar {w : World} {ti : TypeId} {ms : Array (String × TypeId)} (hi : P.underlying ti = some (.interface ms)) : (binOp .neq ti .nilIface .nilIface).run P w = .ok (.bool false) w := by
  have h : ∀ d : Nat, (Op.equalIn (d + 1) ti .nilIface .nilIface).run P w = .ok true w := fun d => by simp [Op.equalIn, run_underlying hi]
  simp only [binOp]
  simp [Op.equal, Op.maxDepth, h 9999]
theorem vA {w : World} {ti : TypeId} {ms : Array (String × TypeId)} (tp : TypeId) (v : Value) (hi : P.underlying ti = some (.interface ms)) : (binOp .neq ti (.iface tp v) .nilIface).run P w = .ok (.bool true) w := by
  have h : ∀ d : Nat, (Op.equalIn (d + 1) ti (.iface tp v) .nilIface).run P w = .ok false w := fun d => by simp [Op.equalIn, run_underlying hi]
  simp only [binOp]
  simp [Op.equal, Op.maxDepth, h 9999]
theorem ja {ty yt : TypeId} {ms : Array (String × TypeId)} {x : Operand} {t : T} {b : Bool} (ho : o.op = .binOp .eql ty x (.const .nilIface) yt) (hx : ρ x = .t t) (ht : zbU t = some b) (tu : TyU P ty (.interface ms)) :
    OpT P o ρ (StL.get []) (.t (.bool b)) (StL.get []) [] :=
  zt fun h m A w _ hrep => by
    have r1 := hrep x (by simp [ho, Op.operands])
    rw [hx] at r1
    simp only [RepA] at r1
    have r2 : A.eval (.const .nilIface) = .nilIface := rfl
    cases t <;> simp [zbU] at ht
    · subst ht
      simp only [RepT] at r1
      exact ⟨.bool true, by simp [execOp, ho, r1, r2, eqGuard, jv tu.h], by simp [RepA, RepT]⟩
    · subst ht
      simp only [RepT] at r1
      obtain ⟨t', u, r1⟩ := r1
      exact ⟨.bool false, by simp [execOp, ho, r1, r2, eqGuard, wZ _ _ tu.h], by simp [RepA, RepT]⟩
    · subst ht
      simp only [RepT] at r1
      exact ⟨.bool false, by simp [execOp, ho, r1, r2, eqGuard, wZ _ _ tu.h], by simp [RepA, RepT]⟩
theorem jm {ty yt : TypeId} {ms : Array (String × TypeId)} {x : Operand} {t : T} {b : Bool} (ho : o.op = .binOp .neq ty x (.const .nilIface) yt) (hx : ρ x = .t t) (ht : zbU t = some b) (tu : TyU P ty (.interface ms)) :
    OpT P o ρ (StL.get []) (.t (.bool !b)) (StL.get []) [] :=
  zt fun h m A w _ hrep => by
    have r1 := hrep x (by simp [ho, Op.operands])
    rw [hx] at r1
    simp only [RepA] at r1
    have r2 : A.eval (.const .nilIface) = .nilIface := rfl
    cases t <;> simp [zbU] at ht
    · subst ht
      simp only [RepT] at r1
      exact ⟨.bool false, by simp [execOp, ho, r1, r2, eqGuard, zar tu.h], by simp [RepA, RepT]⟩
    · subst ht
      simp only [RepT] at r1
      obtain ⟨t', u, r1⟩ := r1
      exact ⟨.bool true, by simp [execOp, ho, r1, r2, eqGuard, vA _ _ tu.h], by simp [RepA, RepT]⟩
    · subst ht
      simp only [RepT] at r1
      exact ⟨.bool true, by simp [execOp, ho, r1, r2, eqGuard, vA _ _ tu.h], by simp [RepA, RepT]⟩
theorem zfe {ty : TypeId} {x : Operand} {k0 k : IntKind} {n : Int} (ho : o.op = .makeInterface ty x) (hx : ρ x = .t (.int k n)) (tu : TyU P ty (.int k0)) : OpT P o ρ (StL.get []) (.t (.ifi ty k n)) (StL.get []) [] :=
  zt fun h m A w _ hrep => by
    have r1 := hrep x (by simp [ho, Op.operands])
    rw [hx] at r1
    simp only [RepA, RepT] at r1
    exact ⟨.iface ty (.int k n), by simp [execOp, ho, Instr.makeInterface, run_underlying tu.h, Result.andThen, r1], by simp [RepA, RepT]⟩
end
section
variable {P : Program} {nt : Nat} {ops : Array Oper} {o : Oper} {rest : List Oper} {env : EnvL} {st : StO} {acc : List SD} {K : EnvL → StO → List SD → Prop} {d : Nat}
theorem zao {ty yt : TypeId} {ms : Array (String × TypeId)} {x : Operand} {t : T} {b : Bool} (ho : o.op = .binOp .eql ty x (.const .nilIface) yt) (hx : zk env.get x = .t t) (ht : zbU t = some b) [tu : TyU P ty (.interface ms)] (hd : o.dst = some d) (hn : (decide (d < nt)) = true) (hg : zj ops o env = true)
    (H : LexP P nt ops rest ((d, .t (.bool b)) :: env) st (⟨true, [], .t (.bool b), [], [], []⟩ :: acc) K) : LexP P nt ops (o :: rest) env st acc K :=
  zw (ja ho hx ht tu) hd hn hg H
theorem qI {ty yt : TypeId} {ms : Array (String × TypeId)} {x : Operand} {t : T} {b : Bool} (ho : o.op = .binOp .neq ty x (.const .nilIface) yt) (hx : zk env.get x = .t t) (ht : zbU t = some b) [tu : TyU P ty (.interface ms)] (hd : o.dst = some d) (hn : (decide (d < nt)) = true) (hg : zj ops o env = true)
    (H : LexP P nt ops rest ((d, .t (.bool !b)) :: env) st (⟨true, [], .t (.bool !b), [], [], []⟩ :: acc) K) : LexP P nt ops (o :: rest) env st acc K :=
  zw (jm ho hx ht tu) hd hn hg H
theorem zf0 {ty : TypeId} {x : Operand} {k0 k : IntKind} {n : Int} (ho : o.op = .makeInterface ty x) (hx : zk env.get x = .t (.int k n)) [tu : TyU P ty (.int k0)] (hd : o.dst = some d) (hn : (decide (d < nt)) = true) (hg : zj ops o env = true)
    (H : LexP P nt ops rest ((d, .t (.ifi ty k n)) :: env) st (⟨true, [], .t (.ifi ty k n), [], [], []⟩ :: acc) K) : LexP P nt ops (o :: rest) env st acc K :=
  zw (zfe ho hx tu) hd hn hg H
end
end Go.AL
set_option linter.unusedVariables false
set_option linter.unusedSimpArgs false
namespace Go.AL
open Go Go.RowKit
class CmpT (P : Program) (t : TypeId) : Prop where
  h : ∃ i, P.info? t = some i ∧ i.comparable = true
theorem CmpT.of {P : Program} {t : TypeId} (h : (P.info? t).map (·.comparable) = some true) : CmpT P t := ⟨by
  cases e : P.info? t with
  | none => rw [e] at h; cases h
  | some i => rw [e] at h; exact ⟨i, rfl, by simpa using h⟩⟩
section
variable {P : Program} {o : Oper} {ρ : Operand → AV}
def xq : Obj → Bool
  | .cells cs _ _ => match cs.toList with
    | [.iface _ _] => true
    | _ => false
  | _ => false
theorem kN {w : World} {g : Nat} {ob : Obj} (h : xq ob = true) (hg : w.heap[g]? = some ob) : ∃ t u, w.cell? ⟨g, 0, none⟩ = some (.iface t u) := by
  unfold xq at h
  cases ob with
  | cells cs ty fr =>
    simp only at h
    split at h
    · rename_i t u e
      have : cs = #[.iface t u] := by cases cs; simp at e; simp [e]
      subst this
      exact ⟨t, u, by rw [zI hg]; rfl⟩
    · cases h
  | _ => cases h
def z6 (k : IntKind) (ns : List Int) : Obj → Prop
  | .cells cs _ _ => cs.toList = ns.map (Value.int k)
  | _ => False
theorem wX {t elem : TypeId} {len g : Nat} {ix : Operand} {id : Id} {sz : Nat} {k : IntKind} {i : Int} {bytes : Nat} {z : Value} {ob : Obj} (ho : o.op = .indexAddr t (.global g) ix) (hi : ρ ix = .t (.int k i)) (tu : TyU P t (.array len elem)) (ti : TyI P elem sz bytes z) (h0 : 0 ≤ i) (h1 : i < (len : Int)) :
    OpT P o ρ (StL.get [(id, .dat (.fix g ob))]) (.ref id i.toNat sz 0) (StL.get [(id, .dat (.fix g ob))]) [] :=
  yg fun h m a w hs hr => by
    have r2 := hr ix (by simp [ho, Op.operands])
    rw [hi] at r2
    simp only [RepA, RepT] at r2
    obtain ⟨b, ob', e1, e2, e3, e4⟩ := yR hs (zC id _)
    refine ⟨.pointer (some ⟨g, i.toNat * sz, none⟩), ?_, g, by rw [e3]; rfl, by simp⟩
    have e5 : a.eval (.global g) = .pointer (some ⟨g, 0, none⟩) := rfl
    simp [execOp, ho, e5, r2, Instr.indexAt, asIntOf, run_underlying tu.h, Instr.sureAddr, h0, h1, zO ti, ya]
theorem jt {ty : TypeId} {p : Operand} {g i : Nat} {id : Id} {ob : Obj} {d : TypeDesc} {k : IntKind} {ns : List Int} {n : Int} (ho : o.op = .load ty p) (hp : ρ p = .ref id i 1 0) (tu : TyU P ty d) (hd : z7 d = false) (hob : z6 k ns ob) (hn : ns[i]? = some n) : OpT P o ρ (StL.get [(id, .dat (.fix g ob))]) (.t (.int k n)) (StL.get [(id, .dat (.fix g ob))]) [] :=
  yg fun h m a w hs hr => by
    have r1 := hr p (by simp [ho, Op.operands])
    rw [hp] at r1
    obtain ⟨b1, q1, q2⟩ := r1
    obtain ⟨b, ob', e1, e2, e3, e4⟩ := yR hs (zC id _)
    rw [e3] at e1 q1
    cases e1
    cases q1
    subst e4
    cases ob' with
    | cells cs ty' fr =>
      have hc : w.cell? ⟨g, i, none⟩ = some (.int k n) := by
        rw [zI e2]
        have : cs.toList[i]? = some (.int k n) := by rw [show cs.toList = _ from hob, List.getElem?_map, hn]; rfl
        simpa using this
      have := yC (P := P) tu hd (a := ⟨g, i, none⟩) (w := w) hc
      have q3 : a.eval p = .pointer (some ⟨g, i, none⟩) := by simpa using q2
      exact ⟨.int k n, by simp [execOp, ho, q3, yH, this], by simp [RepA, RepT]⟩
    | _ => exact hob.elim
end
section
variable {P : Program} {nt : Nat} {ops : Array Oper} {o : Oper} {rest : List Oper} {env : EnvL} {st : StO} {acc : List SD} {K : EnvL → StO → List SD → Prop} {d : Nat}
theorem vm {t elem : TypeId} {len g : Nat} {ix : Operand} {sz : Nat} {k : IntKind} {i : Int} {bytes : Nat} {z : Value} {ob : Obj} (id : Id) (ho : o.op = .indexAddr t (.global g) ix) (hi : zk env.get ix = .t (.int k i)) [tu : TyU P t (.array len elem)] [ti : TyI P elem sz bytes z] (hst : StO.get st id = some (.dat (.fix g ob))) (hd : o.dst = some d) (hn : (decide (d < nt)) = true) (hg : zj ops o env = true) (h0 : 0 ≤ i) (h1 : i < (len : Int))
    (H : LexP P nt ops rest ((d, .ref id i.toNat sz 0) :: env) st (⟨true, [(id, .dat (.fix g ob))], .ref id i.toNat sz 0, [(id, .dat (.fix g ob))], [], []⟩ :: acc) K) : LexP P nt ops (o :: rest) env st acc K :=
  xb hst (wX ho hi tu ti h0 h1) hd hn hg H
theorem zaG {ty : TypeId} {p : Operand} {g i : Nat} {id : Id} {ob : Obj} {td : TypeDesc} {k : IntKind} {ns : List Int} {n : Int} (hob : z6 k ns ob) (ho : o.op = .load ty p) (hp : zk env.get p = .ref id i 1 0) [tu : TyU P ty td] (hda : z7 td = false) (hst : StO.get st id = some (.dat (.fix g ob))) (hd : o.dst = some d) (hn : (decide (d < nt)) = true) (hg : zj ops o env = true) (hi : ns[i]? = some n)
    (H : LexP P nt ops rest ((d, .t (.int k n)) :: env) st (⟨true, [(id, .dat (.fix g ob))], .t (.int k n), [(id, .dat (.fix g ob))], [], []⟩ :: acc) K) : LexP P nt ops (o :: rest) env st acc K :=
  xb hst (jt ho hp tu hda hob hi) hd hn hg H
theorem qd {t : TypeId} {x : Operand} {ops : Array Oper} {d : Option Nat} {ty : TypeId} {pos : String} {after : Array Edge} {g : Option (Nat × Bool)} (H : LexP P nt ops ({ dst := d, op := .makeInterface t x, type := ty, pos := pos, after := after, guard := g } :: rest) env st acc K) : LexP P nt ops ({ dst := d, op := .makeInterface t x, type := ty, pos := pos, after := after, guard := g } :: rest) env st acc K := H
end
end Go.AL
set_option linter.unusedVariables false
set_option linter.unusedSimpArgs false
namespace Go.AL
open Go Go.RowKit
section
variable {P : Program} {nt : Nat}
end
section
variable {P : Program} {nt : Nat} {ops : Array Oper} {o : Oper} {rest : List Oper} {env : EnvL} {st : StO} {acc : List SD} {K : EnvL → StO → List SD → Prop} {d : Nat}
end
theorem qT {P : Program} {o : Oper} {ρ : Operand → AV} {t elem aty : TypeId} {x : Operand} {id : Id} {s0 : Nat} {lo hi : Option Operand} {len eb : Nat} {ez : Value} {es : List T} {l hh : Int} (ho : o.op = .slice t x lo hi none) (hx : ρ x = .ref id 0 s0 0) (tu : TyU P t (.array len elem)) (te : TyI P elem 1 eb ez) (hlo : yj ρ lo 0 l) (hhi : yj ρ hi (len : Int) hh) (hl : es.length = len) (hm : len ≤ maxLen)
    (h0 : 0 ≤ l) (h1 : l ≤ hh) (h2 : hh ≤ (len : Int)) :
    OpT P o ρ (StL.get [(id, .arr aty 1 es)]) (.t (.sl 1 ((es.take hh.toNat).drop l.toNat))) (StL.get []) [] := by
  refine OpT.of ?_
  intro h m a w hs hr K Q hK
  have r1 := hr x (by simp [ho, Op.operands])
  rw [hx] at r1
  obtain ⟨b1, q1, q2⟩ := r1
  obtain ⟨b, arr, e1, e2, e3, e4⟩ := yR hs (zC id _)
  rw [e1] at q1
  cases q1
  have q2 : a.eval x = .pointer (some ⟨b, 0, none⟩) := by simpa using q2
  have e2 : w.heap[b]? = some (.cells arr aty (0, 0)) := e2
  obtain ⟨hsep, hlt⟩ := hs.sep id _ b (zC id _) (by rw [e1]; rfl)
  have hb := yZ (P := P) (w := w) (isS := false) (len := len) (cap := len) hlo hhi (fun y hy => hr y (by simp [ho, Op.operands]; simp at hy; rcases hy with hy | hy <;> simp [hy])) h0 h1 h2
  let h' : Heap := fun k => if k = b then some (.cells arr aty (0, 0)) else h k
  have hh' : h.le h' := fun k ob hk => by
    show (if k = b then _ else h k) = _
    split
    · rename_i e; subst e; rw [hsep] at hk; cases hk
    · exact hk
  have himm : ∀ k ob, h' k = some ob → w.heap[k]? = some ob := fun k ob hk => by
    simp only [h'] at hk
    split at hk
    · rename_i e; subst e; cases hk; exact e2
    · exact hs.imm k ob hk
  have hrun : (execOp a.eval o).run P w = .ok (.value (.slice (some (if len = l.toNat then ⟨b, 0, none⟩ else (⟨b, 0, none⟩ : Addr).add (l.toNat * 1))) (hh.toNat - l.toNat) (len - l.toNat))) w := by
    simp [execOp, ho, q2, Instr.sliceAt, run_underlying tu.h, Instr.sureAddr, hb, zO te]
  unfold Oper.wp
  rw [hrun]
  refine hK _ h' m w ?_ ⟨himm, fun _ _ hx => by simp [StL.get] at hx, fun _ _ _ hx => by simp [StL.get] at hx, fun _ _ _ _ _ hx => by simp [StL.get] at hx⟩
    ⟨rfl, rfl, rfl, Nat.le_refl _, fun k hk hn => ⟨rfl, by
      have : k ≠ b := fun e => hn id _ (zC id _) (by rw [e1, e]; rfl)
      simp [h', this]⟩, hh', fun _ _ _ hx => by simp [StL.get] at hx⟩ fun _ _ => rfl
  simp only [RepA, RepT]
  have yU : RepEs h' (yU h' b) 0 1 es := RepEs.mono hh' (fun j u hu => by simpa [yU, h'] using hu) e4
  refine ⟨_, _, _, rfl, by simp; omega, by omega, ⟨by omega, fun hA => by cases hA⟩, fun hne => ⟨b, 0 + l.toNat * 1, ?_, vg (yW yU)⟩⟩
  rw [if_neg (by omega)]
  simp [ya]
section
variable {P : Program} {nt : Nat} {ops : Array Oper} {o : Oper} {rest : List Oper} {env : EnvL} {st : StO} {acc : List SD} {K : EnvL → StO → List SD → Prop} {d : Nat}
theorem kT {t elem aty : TypeId} {x : Operand} {id : Id} {s0 : Nat} {lo hi : Option Operand} {len eb : Nat} {ez : Value} {es : List T} {l hh : Int} (ho : o.op = .slice t x lo hi none) (hx : zk env.get x = .ref id 0 s0 0) (hst : StO.get st id = some (.arr aty 1 es)) [tu : TyU P t (.array len elem)] [te : TyI P elem 1 eb ez] (hlo : yj (zk env.get) lo 0 l) (hhi : yj (zk env.get) hi (len : Int) hh) (hm : (decide (len ≤ maxLen)) = true) (hd : o.dst = some d) (hn : (decide (d < nt)) = true) (hg : zj ops o env = true) (hfr : zX [] env st = true) (hl : es.length = len)
    (h0 : 0 ≤ l) (h1 : l ≤ hh) (h2 : hh ≤ (len : Int))
    (H : LexP P nt ops rest ((d, .t (.sl 1 ((es.take hh.toNat).drop l.toNat))) :: env) (jK [(id, .arr aty 1 es)] [] [] st) (⟨true, [(id, .arr aty 1 es)], .t (.sl 1 ((es.take hh.toNat).drop l.toNat)), [], [id], []⟩ :: acc) K) : LexP P nt ops (o :: rest) env st acc K := by
  refine zeQ (W := [id]) (N := []) (qT ho hx tu te hlo hhi hl (of_decide_eq_true hm) h0 h1 h2) hd (of_decide_eq_true hn) (zM hg) (fun y hy => ?_) (fun i hi => by simp [StL.ids] at hi) (fun i hi hw => by simp [StL.ids] at hi; simp [hi] at hw) (fun i hi => by simp at hi) hfr H
  simp only [List.mem_singleton] at hy
  subst hy; exact hst
end
end Go.AL
set_option linter.unusedVariables false
namespace Go.AL
open Go Go.RowKit
section
variable {P : Program} {fn : Func} {env : EnvL} {st : StO}
end
end Go.AL
set_option linter.unusedVariables false
set_option linter.unusedSimpArgs false
namespace Go.AL
open Go Go.RowKit
def xc (P : Program) (ty : TypeId) : T → Prop
  | .int k _ => P.underlying ty = some (.int k)
  | .str _ => P.underlying ty = some .string
  | .bool _ => P.underlying ty = some .bool
  | _ => False
def tEq : T → T → Bool
  | .int _ a, .int _ b => a == b
  | .str a, .str b => decide (a = b)
  | .bool a, .bool b => a == b
  | _, _ => false
def zch (P : Program) : List Field → Nat → List T → List T → Prop
  | [], _, [], [] => True
  | f :: fs, i, x :: xs, y :: ys => f.name ≠ "_" ∧ f.offset = i ∧ xc P f.type x ∧ xc P f.type y ∧ zch P fs (i + 1) xs ys
  | _, _, _, _ => False
def zca : List T → List T → Bool
  | x :: xs, y :: ys => tEq x y && zca xs ys
  | _, _ => true
section
variable {P : Program} {o : Oper} {ρ : Operand → AV}
theorem za4 {ty : TypeId} {x y : T} {u v : Value} {h : Heap} {w : World} (d : Nat) (hx : xc P ty x) (hy : xc P ty y) (r1 : RepT h u x) (r2 : RepT h v y) : (Op.equalIn (d + 1) ty u v).run P w = .ok (tEq x y) w := by
  cases x <;> simp only [xc] at hx
  · cases y <;> simp only [xc] at hy
    · rw [hx] at hy
      cases hy
      simp only [RepT] at r1 r2
      subst r1; subst r2
      simp [Op.equalIn, run_underlying hx, tEq]
    · rw [hx] at hy; cases hy
    · rw [hx] at hy; cases hy
  · cases y <;> simp only [xc] at hy
    · rw [hx] at hy; cases hy
    · simp only [RepT] at r1 r2
      subst r1; subst r2
      simp [Op.equalIn, run_underlying hx, tEq]
    · rw [hx] at hy; cases hy
  · cases y <;> simp only [xc] at hy
    · rw [hx] at hy; cases hy
    · rw [hx] at hy; cases hy
    · simp only [RepT] at r1 r2
      subst r1; subst r2
      simp [Op.equalIn, run_underlying hx, tEq, zfX]
theorem wJ {ty : TypeId} {x : T} {u : Value} {vs : Array Value} {i : Nat} {w : World} (hx : xc P ty x) (hu : vs[i]? = some u) : (part ty vs i).run P w = .ok u w := by
  have ha : (isAgg ty).run P w = .ok false w := by
    cases x <;> simp only [xc] at hx <;> exact xg (d := _) ⟨hx⟩
  simp [part, ha, hu]
theorem xN {h : Heap} {w : World} {v1 v2 : Array Value} (d : Nat) : ∀ (fs : List Field) (i : Nat) (xs ys : List T), zch P fs i xs ys → RepL h (fun j => v1[j]?) i xs → RepL h (fun j => v2[j]?) i ys →
    (forIn fs ((none : Option Bool), ()) fun f __s => (if f.name = "_" then pure (ForInStep.yield ((none : Option Bool), ())) else do
      let __do_lift ← part f.type v1 f.offset
      let __do_lift_1 ← part f.type v2 f.offset
      let __do_lift ← Op.equalIn (d + 1) f.type __do_lift __do_lift_1
      if __do_lift = false then pure (ForInStep.done (some false, ())) else pure (ForInStep.yield (none, ())) : Sem (ForInStep (Option Bool × Unit)))).run P w = .ok (if zca xs ys then (none, ()) else (some false, ())) w
  | [], i, [], [], _, _, _ => by simp [zca]
  | [], _, _ :: _, _, H, _, _ => H.elim
  | [], _, [], _ :: _, H, _, _ => H.elim
  | _ :: _, _, [], _, H, _, _ => H.elim
  | _ :: _, _, _ :: _, [], H, _, _ => H.elim
  | f :: fs, i, x :: xs, y :: ys, H, ⟨⟨u, u1, _, u2⟩, u3⟩, ⟨⟨v, w1, _, w2⟩, w3⟩ => by
    obtain ⟨hn, ho, hx, hy, hr⟩ := H
    have ih := xN (w := w) d fs (i + 1) xs ys hr u3 w3
    subst ho
    rw [List.forIn_cons]
    simp only [if_neg hn, Sem.run_bind, wJ hx u1, wJ hy w1, za4 d hx hy u2 w2, Result.andThen_ok]
    cases he : tEq x y with
    | true =>
      simp only [Bool.true_eq_false, if_false, Sem.run_pure, Result.andThen_ok]
      rw [ih, zca, he, Bool.true_and]
    | false =>
      simp [zca, he]
theorem zdc {ty : TypeId} {fs : Array Field} {xs ys : List T} {v1 v2 : Array Value} {h : Heap} {w : World} (tu : TyU P ty (.struct fs)) (hq : P.stoodInHeld ty = false) (hf : zch P fs.toList 0 xs ys) (r1 : RepL h (fun j => v1[j]?) 0 xs) (r2 : RepL h (fun j => v2[j]?) 0 ys) :
    (Op.equalIn Op.maxDepth ty (.agg v1) (.agg v2)).run P w = .ok (zca xs ys) w := by
  have key : ∀ d : Nat, (Op.equalIn (d + 2) ty (.agg v1) (.agg v2)).run P w = .ok (zca xs ys) w := fun d => by
    have hk := xN (P := P) (w := w) d fs.toList 0 xs ys hf r1 r2
    unfold Op.equalIn
    simp only [Sem.run_bind, run_underlying tu.h, Result.andThen_ok]
    simp only [Array.forIn_toList] at hk
    simp [hq]
    rw [hk]
    cases zca xs ys <;> simp
  exact key 9998
theorem zcF {ty yt : TypeId} {x y : Operand} {fs : Array Field} {xs ys : List T} (ho : o.op = .binOp .neq ty x y yt) (hx : ρ x = .t (.agg xs)) (hy : ρ y = .t (.agg ys)) (tu : TyU P ty (.struct fs)) (hf : zch P fs.toList 0 xs ys) (hq : zf2 P ty = true) :
    OpT P o ρ (StL.get []) (.t (.bool !(zca xs ys))) (StL.get []) [] :=
  zt fun h m A w _ hrep => by
    have r1 := hrep x (by simp [ho, Op.operands])
    have r2 := hrep y (by simp [ho, Op.operands])
    rw [hx] at r1
    rw [hy] at r2
    simp only [RepA, RepT] at r1 r2
    obtain ⟨v1, a1, a2, a3⟩ := r1
    obtain ⟨v2, b1, b2, b3⟩ := r2
    simp only [zf2, Bool.and_eq_true, Bool.not_eq_true'] at hq
    have hk := zdc (w := w) tu hq.1 hf a3 b3
    refine ⟨.bool !(zca xs ys), ?_, by simp [RepA, RepT]⟩
    simp [execOp, ho, a1, b1, binOp, eqGuard, hq.2, Op.equal, hk, Result.andThen]
end
section
variable {P : Program} {nt : Nat} {ops : Array Oper} {o : Oper} {rest : List Oper} {env : EnvL} {st : StO} {acc : List SD} {K : EnvL → StO → List SD → Prop} {d : Nat}
theorem zbA {ty yt : TypeId} {x y : Operand} {fs : Array Field} {xs ys : List T} {b : Bool} (hf : zch P fs.toList 0 xs ys) (hq : zf2 P ty = true) (hb : zca xs ys = b) (ho : o.op = .binOp .neq ty x y yt) (hx : zk env.get x = .t (.agg xs)) (hy : zk env.get y = .t (.agg ys)) [tu : TyU P ty (.struct fs)] (hd : o.dst = some d) (hn : (decide (d < nt)) = true) (hg : zj ops o env = true)
    (H : LexP P nt ops rest ((d, .t (.bool !b)) :: env) st (⟨true, [], .t (.bool !b), [], [], []⟩ :: acc) K) : LexP P nt ops (o :: rest) env st acc K := by
  subst hb
  exact zw (zcF ho hx hy tu hf hq) hd hn hg H
end
end Go.AL
set_option linter.unusedVariables false
namespace Go.AL
open Go Go.RowKit Go.ChangeShapes Go.WideShapes Go.ChangeMaps
def kF (B : List Nat) (w : World) : Heap := fun b => if b ∈ B then none else w.heap[b]?
mutual
def T.noG : T → Bool
  | .int .u8 _ => false
  | .int .u64 _ => false
  | .iface => false
  | .ifi _ _ _ => false
  | .agg cs => T.noGL cs
  | .sl sz es => decide (0 < sz) && T.noGL es
  | .slq _ _ => false
  | _ => true
def T.noGL : List T → Bool
  | [] => true
  | x :: xs => x.noG && T.noGL xs
end
def zf3 (B : List Nat) (w : World) : Prop := ∀ b, b ∈ B → ∀ o u, yU (yA w) b o = some u → (∃ n, u = .int .u8 n) ∨ (∃ t v, u = .iface t v) ∨ ∃ n, u = .int .u64 n
theorem T.noG_cells {x : T} (h : x.noG = true) : T.noGL x.cells = true := by
  cases x with
  | agg cs => simpa [T.noG, T.cells] using h
  | _ => simp only [T.cells, T.noGL, h, Bool.and_self]
theorem zgj {h : Heap} {u : Value} {x : T} (hx : x.noG = true) (hu : (∃ n, u = .int .u8 n) ∨ (∃ t v, u = .iface t v) ∨ ∃ n, u = .int .u64 n) (H : RepT h u x) : False := by
  rcases hu with ⟨n, rfl⟩ | ⟨t, v, rfl⟩ | ⟨n, rfl⟩
  · cases x with
    | int k m => simp only [RepT] at H; cases H; simp [T.noG] at hx
    | _ => simp [RepT] at H
  · cases x with
    | iface => simp [T.noG] at hx
    | ifi a b c => simp [T.noG] at hx
    | _ => simp [RepT] at H
  · cases x with
    | int k m => simp only [RepT] at H; cases H; simp [T.noG] at hx
    | _ => simp [RepT] at H
theorem zay {B : List Nat} {w : World} {b : Nat} (hb : ¬ b ∈ B) : yU (kF B w) b = yU (yA w) b := by
  funext o
  simp only [yU, kF, yA, if_neg hb]
mutual
theorem RepT.tabG {B : List Nat} {w : World} (hU : zf3 B w) : ∀ {x : T} {v : Value}, x.noG = true → RepT (yA w) v x → RepT (kF B w) v x
  | .int _ _, v, _, H => by simpa only [RepT] using H
  | .bool _, v, _, H => by simpa only [RepT] using H
  | .str _, v, _, H => by simpa only [RepT] using H
  | .nilsl, v, _, H => by simpa only [RepT] using H
  | .nilp, v, _, H => by simpa only [RepT] using H
  | .nilf, v, _, H => by simpa only [RepT] using H
  | .esl, v, _, H => by simpa only [RepT] using H
  | .fn _, v, _, H => by simpa only [RepT] using H
  | .nili, v, _, H => by simpa only [RepT] using H
  | .iface, v, _, H => by simpa only [RepT] using H
  | .ifi _ _ _, v, _, H => by simpa only [RepT] using H
  | .slq _ _, v, hx, _ => by simp [T.noG] at hx
  | .agg cs, v, hx, H => by
    simp only [RepT] at H ⊢
    obtain ⟨vs, h1, h2, h3⟩ := H
    exact ⟨vs, h1, h2, RepL.tabG hU (by simpa only [T.noG] using hx) h3⟩
  | .sl sz es, v, hx, H => by
    simp only [RepT] at H ⊢
    simp only [T.noG, Bool.and_eq_true, decide_eq_true_eq] at hx
    obtain ⟨A, n, c, h1, h2, h3, h4, h5⟩ := H
    refine ⟨A, n, c, h1, h2, h3, h4, fun hn => ?_⟩
    obtain ⟨b, o, k1, k2⟩ := h5 hn
    by_cases hb : b ∈ B
    · exfalso
      cases es with
      | nil => simp at h2; exact hn h2
      | cons e es =>
        rw [zA] at k2
        have hc := k2.1.2
        have he := T.noG_cells (show e.noG = true by have := hx.2; simp only [T.noGL, Bool.and_eq_true] at this; exact this.1)
        have hl := k2.1.1
        generalize e.cells = cs at hc he hl
        cases cs with
        | nil => simp at hl; omega
        | cons c0 cs =>
          obtain ⟨⟨u, q1, _, q3⟩, _⟩ := hc
          have hm := hU b hb o u q1
          simp only [T.noGL, Bool.and_eq_true] at he
          exact zgj he.1 hm q3
    · exact ⟨b, o, k1, by rw [zay hb]; exact RepEs.tabG hU hx.2 k2⟩
theorem RepL.tabG {B : List Nat} {w : World} (hU : zf3 B w) : ∀ {xs : List T} {g : Nat → Option Value} {o : Nat}, T.noGL xs = true → RepL (yA w) g o xs → RepL (kF B w) g o xs
  | [], _, _, _, _ => trivial
  | x :: xs, g, o, hx, H => by
    simp only [T.noGL, Bool.and_eq_true] at hx
    obtain ⟨⟨u, h1, h2, h3⟩, h4⟩ := H
    exact ⟨⟨u, h1, h2, RepT.tabG hU hx.1 h3⟩, RepL.tabG hU hx.2 h4⟩
theorem RepEs.tabG {B : List Nat} {w : World} (hU : zf3 B w) : ∀ {xs : List T} {g : Nat → Option Value} {o sz : Nat}, T.noGL xs = true → RepEs (yA w) g o sz xs → RepEs (kF B w) g o sz xs
  | [], _, _, _, _, _ => trivial
  | .agg cs :: xs, g, o, sz, hx, H => by
    simp only [T.noGL, T.noG, Bool.and_eq_true] at hx
    simp only [RepEs] at H ⊢
    exact ⟨⟨H.1.1, RepL.tabG hU hx.1 H.1.2⟩, RepEs.tabG hU hx.2 H.2⟩
  | .int a b :: xs, g, o, sz, hx, H => by
    simp only [T.noGL, Bool.and_eq_true] at hx
    simp only [RepEs] at H ⊢
    obtain ⟨⟨h0, u, h1, h2, h3⟩, h4⟩ := H
    exact ⟨⟨h0, u, h1, h2, RepT.tabG hU hx.1 h3⟩, RepEs.tabG hU hx.2 h4⟩
  | .bool b :: xs, g, o, sz, hx, H => by
    simp only [T.noGL, Bool.and_eq_true] at hx
    simp only [RepEs] at H ⊢
    obtain ⟨⟨h0, u, h1, h2, h3⟩, h4⟩ := H
    exact ⟨⟨h0, u, h1, h2, RepT.tabG hU hx.1 h3⟩, RepEs.tabG hU hx.2 h4⟩
  | .str b :: xs, g, o, sz, hx, H => by
    simp only [T.noGL, Bool.and_eq_true] at hx
    simp only [RepEs] at H ⊢
    obtain ⟨⟨h0, u, h1, h2, h3⟩, h4⟩ := H
    exact ⟨⟨h0, u, h1, h2, RepT.tabG hU hx.1 h3⟩, RepEs.tabG hU hx.2 h4⟩
  | .sl a b :: xs, g, o, sz, hx, H => by
    simp only [T.noGL, Bool.and_eq_true] at hx
    simp only [RepEs] at H ⊢
    obtain ⟨⟨h0, u, h1, h2, h3⟩, h4⟩ := H
    exact ⟨⟨h0, u, h1, h2, RepT.tabG hU hx.1 h3⟩, RepEs.tabG hU hx.2 h4⟩
  | .nilsl :: xs, g, o, sz, hx, H => by
    simp only [T.noGL, Bool.and_eq_true] at hx
    simp only [RepEs] at H ⊢
    obtain ⟨⟨h0, u, h1, h2, h3⟩, h4⟩ := H
    exact ⟨⟨h0, u, h1, h2, RepT.tabG hU hx.1 h3⟩, RepEs.tabG hU hx.2 h4⟩
  | .nilp :: xs, g, o, sz, hx, H => by
    simp only [T.noGL, Bool.and_eq_true] at hx
    simp only [RepEs] at H ⊢
    obtain ⟨⟨h0, u, h1, h2, h3⟩, h4⟩ := H
    exact ⟨⟨h0, u, h1, h2, RepT.tabG hU hx.1 h3⟩, RepEs.tabG hU hx.2 h4⟩
  | .nilf :: xs, g, o, sz, hx, H => by
    simp only [T.noGL, Bool.and_eq_true] at hx
    simp only [RepEs] at H ⊢
    obtain ⟨⟨h0, u, h1, h2, h3⟩, h4⟩ := H
    exact ⟨⟨h0, u, h1, h2, RepT.tabG hU hx.1 h3⟩, RepEs.tabG hU hx.2 h4⟩
  | .esl :: xs, g, o, sz, hx, H => by
    simp only [T.noGL, Bool.and_eq_true] at hx
    simp only [RepEs] at H ⊢
    obtain ⟨⟨h0, u, h1, h2, h3⟩, h4⟩ := H
    exact ⟨⟨h0, u, h1, h2, RepT.tabG hU hx.1 h3⟩, RepEs.tabG hU hx.2 h4⟩
  | .fn f :: xs, g, o, sz, hx, H => by
    simp only [T.noGL, Bool.and_eq_true] at hx
    simp only [RepEs] at H ⊢
    obtain ⟨⟨h0, u, h1, h2, h3⟩, h4⟩ := H
    exact ⟨⟨h0, u, h1, h2, RepT.tabG hU hx.1 h3⟩, RepEs.tabG hU hx.2 h4⟩
  | .nili :: xs, g, o, sz, hx, H => by
    simp only [T.noGL, Bool.and_eq_true] at hx
    simp only [RepEs] at H ⊢
    obtain ⟨⟨h0, u, h1, h2, h3⟩, h4⟩ := H
    exact ⟨⟨h0, u, h1, h2, RepT.tabG hU hx.1 h3⟩, RepEs.tabG hU hx.2 h4⟩
  | .iface :: xs, g, o, sz, hx, H => by
    simp only [T.noGL, Bool.and_eq_true] at hx
    simp only [RepEs] at H ⊢
    obtain ⟨⟨h0, u, h1, h2, h3⟩, h4⟩ := H
    exact ⟨⟨h0, u, h1, h2, RepT.tabG hU hx.1 h3⟩, RepEs.tabG hU hx.2 h4⟩
  | .ifi _ _ _ :: xs, g, o, sz, hx, H => by
    simp only [T.noGL, Bool.and_eq_true] at hx
    simp only [RepEs] at H ⊢
    obtain ⟨⟨h0, u, h1, h2, h3⟩, h4⟩ := H
    exact ⟨⟨h0, u, h1, h2, RepT.tabG hU hx.1 h3⟩, RepEs.tabG hU hx.2 h4⟩
  | .slq _ _ :: xs, g, o, sz, hx, H => by simp [T.noGL, T.noG] at hx
end
def qP : Nat → List (Nat × Obj) → StL
  | _, [] => []
  | k, x :: G => (.par k, .dat (.fix x.1 x.2)) :: qP (k + 1) G
def zbn (k : Nat) (G : List (Nat × Obj)) : zu := fun id => match id with
  | .par n => if k ≤ n then (match G[n - k]? with | some x => .pointer (some ⟨x.1, 0, none⟩) | none => undef) else undef
  | _ => undef
theorem xm : ∀ {k : Nat} {G : List (Nat × Obj)} {id : Id} {row : Row}, StL.get (qP k G) id = some row → ∃ i x, G[i]? = some x ∧ id = .par (k + i) ∧ row = .dat (.fix x.1 x.2)
  | k, [], id, row, h => by simp [qP, StL.get] at h
  | k, x :: G, id, row, h => by
    simp only [qP, StL.get] at h
    split at h
    · rename_i e
      exact ⟨0, x, rfl, e.symm, (Option.some.inj h).symm⟩
    · obtain ⟨i, y, h1, h2, h3⟩ := xm h
      exact ⟨i + 1, y, by simpa using h1, by rw [h2, Nat.add_assoc, Nat.add_comm 1], h3⟩
theorem zbr : ∀ {k : Nat} {G : List (Nat × Obj)} {i : Nat} {x : Nat × Obj}, G[i]? = some x → StL.get (qP k G) (.par (k + i)) = some (.dat (.fix x.1 x.2))
  | k, y :: G, 0, x, h => by
    simp at h
    subst h
    simp [qP, StL.get]
  | k, y :: G, i + 1, x, h => by
    have := zbr (k := k + 1) (G := G) (i := i) (x := x) (by simpa using h)
    simp only [qP, StL.get]
    rw [if_neg (by simp), show k + (i + 1) = k + 1 + i by omega]
    exact this
theorem xH {k : Nat} {G : List (Nat × Obj)} {i : Nat} {x : Nat × Obj} (h : G[i]? = some x) : zbn k G (.par (k + i)) = .pointer (some ⟨x.1, 0, none⟩) := by
  simp only [zbn]
  rw [if_pos (by omega), show k + i - k = i by omega, h]
theorem zgg {w : World} {k : Nat} {G : List (Nat × Obj)} (hG : ∀ x ∈ G, w.heap[x.1]? = some x.2) (hn : (G.map (·.1)).Nodup) : Sim (kF (G.map (·.1)) w) (zbn k G) (StL.get (qP k G)) w := by
  refine ⟨fun b o h => ?_, fun id row h => ?_, fun id row b h hb => ?_, fun id id' r r' b h h' hb hb' => ?_⟩
  · simp only [kF] at h
    split at h
    · cases h
    · exact h
  · obtain ⟨i, x, h1, rfl, rfl⟩ := xm h
    have e := xH (k := k) h1
    exact ⟨x.1, x.2, by rw [e]; rfl, hG x (List.mem_of_getElem? h1), e, rfl⟩
  · obtain ⟨i, x, h1, rfl, rfl⟩ := xm h
    rw [xH h1] at hb
    simp only [blk, Option.some.injEq] at hb
    subst hb
    have hm := List.mem_of_getElem? h1
    refine ⟨?_, (Array.getElem?_eq_some_iff.1 (hG x hm)).1⟩
    simp only [kF]
    rw [if_pos (List.mem_map.2 ⟨x, hm, rfl⟩)]
  · obtain ⟨i, x, h1, rfl, rfl⟩ := xm h
    obtain ⟨j, y, k1, rfl, rfl⟩ := xm h'
    rw [xH h1] at hb
    rw [xH k1] at hb'
    simp only [blk, Option.some.injEq] at hb hb'
    have hi : (G.map (·.1))[i]? = some b := by rw [List.getElem?_map, h1]; simp [hb]
    have hj : (G.map (·.1))[j]? = some b := by rw [List.getElem?_map, k1]; simp [hb']
    have li := (List.getElem?_eq_some_iff.1 hi).1
    have : i = j := (List.getElem?_inj li hn).1 (hi.trans hj.symm)
    rw [this]
theorem Spec.callsG {P : Program} {f : FuncId} {args : List AV} {b : Bool} {k : Nat} {G : List (Nat × Obj)} (S : Spec P f args (qP k G) (.t (.bool b)) (qP k G)) {vs : Array Value} {w : World} (hG : ∀ x ∈ G, w.heap[x.1]? = some x.2) (hnd : (G.map (·.1)).Nodup) (hn : vs.size = args.length) (hr : RepAs (kF (G.map (·.1)) w) (zbn k G) (fun j => vs[j]?) 0 args) :
    Calls P f vs w fun e w' => e = .returned (.bool b) ∧ Below w.heap.size w w' := by
  refine (S.run _ _ vs w (zgg hG hnd) hn hr).mono ?_
  rintro e w' ⟨v, h', m', rfl, hv, hs, hf⟩
  refine ⟨by simp only [RepA, RepT] at hv; rw [hv], hf.foot.os, hf.foot.tape, hf.foot.output, hf.foot.size, fun q hq => ?_⟩
  by_cases hm : q ∈ G.map (·.1)
  · obtain ⟨x, hx, rfl⟩ := List.mem_map.1 hm
    obtain ⟨i, hi⟩ := List.mem_iff_getElem?.1 hx
    obtain ⟨b', o, k1, k2, k3, k4⟩ := hs.rows (.par (k + i)) _ (zbr hi)
    rw [k3] at k1
    simp only [blk, Option.some.injEq] at k1
    subst k1
    rw [k2, k4, hG x hx]
  · refine (hf.foot.keep q hq (fun id row h hb => ?_)).1
    obtain ⟨i, x, h1, rfl, rfl⟩ := xm h
    rw [xH h1] at hb
    simp only [blk, Option.some.injEq] at hb
    exact hm (List.mem_map.2 ⟨x, List.mem_of_getElem? h1, hb⟩)
open Go.Lib in
theorem zdB {P : Program} {W : World} {name : String} {g : Nat} {cs : Array Value} (hg : P.globalNamed name = some g) (hv : W.var? P name = some cs) : ∃ t fr, W.heap[g]? = some (.cells cs t fr) := by
  simp only [World.var?, hg, Option.bind_some] at hv
  split at hv
  · rename_i e
    cases hv
    exact ⟨_, _, e⟩
  · cases hv
open Go.Lib in
theorem zep {P : Program} {W : World} {name nm : String} {d : DataW Unit} {g t : Nat} {ms : Array (String × TypeId)} (hg : P.globalNamed name = some g) (hty : (P.globals[g]?).map (·.type) = some t) (ht : P.underlying t = some (.interface ms)) (h : VarReads P W name (.iface nm d)) :
    ∃ o, W.heap[g]? = some o ∧ xq o = true ∧ ∀ j u, yU (yA W) g j = some u → ∃ t v, u = .iface t v := by
  obtain ⟨g', t', cs, fuel, p, hg', hty', hvar, hd⟩ := h
  obtain rfl := Option.some.inj (hg.symm.trans hg')
  obtain rfl := Option.some.inj (hty.symm.trans hty')
  obtain ⟨t2, fr, ho⟩ := zdB hg hvar
  have key : ∃ u v, cs.toList = [.iface u v] := by
    cases fuel with
    | zero => simp [DataW.trod] at hd
    | succ fuel =>
      simp only [DataW.trod, ht] at hd
      split at hd <;> first | cases hd | skip
      all_goals first | exact ⟨_, _, rfl⟩ | (rename_i h1 h2; first | cases h1 | skip)
      all_goals simp_all
  obtain ⟨u, v, e⟩ := key
  refine ⟨_, ho, by simp only [xq, e], fun j x hx => ?_⟩
  rw [xJ] at hx
  rw [zI ho] at hx
  have : cs = #[.iface u v] := by cases cs; simp at e; simp [e]
  subst this
  cases j with
  | zero => simp at hx; exact ⟨u, v, hx.symm⟩
  | succ j => simp at hx
open Go.Lib in
theorem zev {P : Program} {W : World} {name : String} {k : IntKind} {zs : List Int} {g t e : Nat} {n : Nat} (hg : P.globalNamed name = some g) (hty : (P.globals[g]?).map (·.type) = some t) (ht : P.underlying t = some (.array n e)) (he : P.underlying e = some (.int k)) (hce : P.cellsOf e = 1) (hct : P.cellsOf t = n) (h : VarReads P W name (tabData k zs)) :
    ∃ o, W.heap[g]? = some o ∧ z6 k zs o ∧ ∀ j u, yU (yA W) g j = some u → ∃ n, u = .int k n := by
  obtain ⟨g', t', cs, fuel, p, hg', hty', hvar, hd⟩ := h
  obtain rfl := Option.some.inj (hg.symm.trans hg')
  obtain rfl := Option.some.inj (hty.symm.trans hty')
  obtain ⟨t2, fr, ho⟩ := zdB hg hvar
  have hc := cells_of_tab ht he hce hct hd
  refine ⟨_, ho, hc, fun j x hx => ?_⟩
  rw [xJ] at hx
  rw [zI ho] at hx
  have h2 : cs.toList[j]? = some x := by simpa using hx
  rw [hc, List.getElem?_map] at h2
  obtain ⟨z, _, rfl⟩ := Option.map_eq_some_iff.1 h2
  exact ⟨z, rfl⟩
theorem zbo (f : Int → T) (hf : ∀ n, (f n).noG = true) : ∀ l : List Int, T.noGL (l.map f) = true
  | [] => rfl
  | x :: xs => by simp [T.noGL, hf, zbo f hf xs]
theorem zeC (l : List Int) : T.noG (.sl 1 (l.map (T.int .i64))) = true := by
  simp [T.noG, zbo (T.int .i64) (fun _ => rfl) l]
theorem zbC : ∀ l : List ByteArray, T.noGL (l.map .str) = true
  | [] => rfl
  | x :: xs => by simp [T.noGL, T.noG, zbC xs]
end Go.AL
set_option linter.unusedVariables false
set_option linter.unusedSimpArgs false
namespace Go.AL
open Go Go.RowKit
theorem qH {h : Heap} : ∀ {xs : List MapEntry} {es : List (T × T)}, RepEnts h xs es → xs.length = es.length
  | [], [], _ => rfl
  | [], _ :: _, H => H.elim
  | _ :: _, [], H => H.elim
  | x :: xs, (k, v) :: es, H => by
    have := qH H.2.2
    simp [this]
section
variable {P : Program} {o : Oper} {ρ : Operand → AV}
theorem zaj {t kt et : TypeId} {x : Operand} {id : Id} {es : List (T × T)} (ho : o.op = .call { callee := .builtin .len, args := #[x], argTypes := #[t] }) (hx : ρ x = .row id) (tu : TyU P t (.map kt et)) :
    OpT P o ρ (StL.get [(id, .dat (.map es))]) (.t (.int .i64 (es.length : Int))) (StL.get [(id, .dat (.map es))]) [] :=
  yg fun h m A w hs hrep => by
    have r1 := hrep x (by simp [ho, Op.operands, Call.operands])
    rw [hx] at r1
    obtain ⟨r, ents, clock, e1, e2, e3, e4⟩ := zaB hs
    have hl := qH e3
    refine ⟨.int .i64 (es.length : Int), ?_, by simp [RepA, RepT]⟩
    simp only [RepA] at r1
    rw [e1] at r1
    have hl2 : ents.size = es.length := by rw [← hl]; simp
    simp [execOp, ho, resolve, invoke, builtin, Builtin.len_, run_underlying tu.h, r1.1, goInt, getObj, Sem.run, e2, Result.andThen, hl2]
end
section
variable {P : Program} {nt : Nat} {ops : Array Oper} {o : Oper} {rest : List Oper} {env : EnvL} {st : StO} {acc : List SD} {K : EnvL → StO → List SD → Prop} {d : Nat}
theorem ku {t : TypeId} {x : Operand} {id : Id} {kt et : TypeId} {es : List (T × T)} (ho : o.op = .call { callee := .builtin .len, args := #[x], argTypes := #[t] }) (hx : zk env.get x = .row id) (hst : StO.get st id = some (.dat (.map es))) [tu : TyU P t (.map kt et)] (hd : o.dst = some d) (hn : (decide (d < nt)) = true) (hg : zj ops o env = true)
    (H : LexP P nt ops rest ((d, .t (.int .i64 (es.length : Int))) :: env) st (⟨true, [(id, .dat (.map es))], .t (.int .i64 (es.length : Int)), [(id, .dat (.map es))], [], []⟩ :: acc) K) : LexP P nt ops (o :: rest) env st acc K :=
  xb hst (zaj ho hx tu) hd hn hg H
end
end Go.AL
set_option linter.unusedVariables false
set_option linter.unusedSimpArgs false
namespace Go.AL
open Go Go.RowKit
theorem OpT.frz {P : Program} {o : Oper} {ρ : Operand → AV} {id : Id} {e : TypeId} {sz : Nat} {es : List T} (H : OpT P o ρ (StL.get []) (.row id) (StL.get [(id, .slt e sz es)]) [id]) : OpT P o ρ (StL.get []) (.t (.sl sz es)) (StL.get []) [] := by
  intro h m a w hs hr K Q hK
  refine H h m a w hs hr K Q fun v h1 m1 w1 hv hs1 hf hN => ?_
  have hve : v = m1 id := hv.1
  subst hve
  obtain ⟨xs, k1, k2⟩ := hs1.rows id _ (zC id _)
  let h2 : Heap := fun b => if blk (m1 id) = some b then w1.heap[b]? else h1 b
  have hh : h1.le h2 := fun b ob hb => by
    show (if blk (m1 id) = some b then w1.heap[b]? else h1 b) = some ob
    split
    · exact hs1.imm b ob hb
    · exact hb
  have himm : ∀ b ob, h2 b = some ob → w1.heap[b]? = some ob := fun b ob hb => by
    simp only [h2] at hb
    split at hb
    · exact hb
    · exact hs1.imm b ob hb
  have hx : RepT h2 (m1 id) (.sl sz es) := by
    simp only [RepT]
    rcases k1.2 with ⟨hv, hn⟩ | ⟨g, cap, cur, lo, hi, hv, hg, hf, hnc, hcm, hcs, ht⟩
    · exact ⟨none, 0, 0, hv, hn.symm, Nat.le_refl _, ⟨Nat.zero_le _, fun _ => rfl⟩, fun h => absurd rfl h⟩
    · refine ⟨_, _, cap, hv, rfl, hnc, ⟨hcm, fun h => by cases h⟩, fun _ => ⟨g, 0, rfl, RepEs.mono hh (fun j u hu => ?_) k2⟩⟩
      have hb : h2 g = some (.cells cur e (lo, hi)) := by
        show (if blk (m1 id) = some g then w1.heap[g]? else h1 g) = _
        rw [hv]
        simp [blk, hg]
      simp only [yU, hb]
      rw [← ht, List.getElem?_take] at hu
      split at hu
      · simpa using hu
      · cases hu
  refine hK _ h2 m w1 (by simpa [RepA] using hx) ⟨himm, fun _ _ hx => by simp [StL.get] at hx, fun _ _ _ hx => by simp [StL.get] at hx, fun _ _ _ _ _ hx => by simp [StL.get] at hx⟩
    ⟨hf.os, hf.tape, hf.output, hf.size, fun b hb hn => ⟨(hf.keep b hb hn).1, ?_⟩, fun b ob hb => hh b ob (hf.grow b ob hb), fun _ _ _ hx => by simp [StL.get] at hx⟩ fun _ _ => rfl
  show (if blk (m1 id) = some b then w1.heap[b]? else h1 b) = h b
  rw [if_neg fun e => ?_]
  · exact (hf.keep b hb hn).2
  · rcases hf.fresh id _ b (zC id _) e with h3 | ⟨_, _, h3, _⟩
    · omega
    · simp [StL.get] at h3
section
variable {P : Program} {nt : Nat} {ops : Array Oper} {o : Oper} {rest : List Oper} {env : EnvL} {st : StO} {acc : List SD} {K : EnvL → StO → List SD → Prop} {d : Nat}
theorem zV {t elem : TypeId} {len : Nat} {parts : Array (Nat × Operand)} {sz bytes : Nat} {z : Value} {es : List T} (ho : o.op = .buildSlice t len parts) [tu : TyU P t (.slice elem)] [ti : TyI P elem sz bytes z]
    (hes : za1 0 (parts.toList.map (fun p => (p.1, zk env.get p.2))) = some es) (hside : (decide (es.length = len) && (es.all (fun e => decide (e.cells.length = sz)) && (decide (z.cells.size = sz) && (decide (0 < sz) && (z.cells.toList.all Value.oneCell' && decide (len * sz ≤ 16777216)))))) = true)
    (hd : o.dst = some d) (hn : (decide (d < nt)) = true) (hg : zj ops o env = true)
    (H : LexP P nt ops rest ((d, .t (.sl sz es)) :: env) st (⟨true, [], .t (.sl sz es), [], [], []⟩ :: acc) K) : LexP P nt ops (o :: rest) env st acc K := by
  simp only [Bool.and_eq_true, decide_eq_true_eq, List.all_eq_true] at hside
  obtain ⟨s1, s2, s3, s4, s5, s6⟩ := hside
  have e := kg hes
  subst s1
  have f := kp (sz := sz) es [] 0 (by simp) s2
  simp only [List.nil_append] at f
  exact zw (OpT.frz (wd (.loc d) ho tu ti s3 s4 s5 s6 (vZ _ _ 0 e s2 (by simp)) f rfl s2)) hd hn hg H
end
end Go.AL
set_option linter.unusedVariables false
set_option linter.unusedSimpArgs false
namespace Go.AL
open Go Go.RowKit
section
variable {P : Program} {o : Oper} {ρ : Operand → AV}
theorem ki {t elem : TypeId} {x y u : Operand} {sz : Nat} {es : List T} {k k' : IntKind} {hh mm : Int} {bytes : Nat} {z : Value} (ho : o.op = .slice t x none (some y) (some u)) (hx : ρ x = .t (.sl sz es)) (hy : ρ y = .t (.int k hh)) (hu : ρ u = .t (.int k' mm)) (tu : TyU P t (.slice elem)) (ti : TyI P elem sz bytes z)
    (h0 : 0 ≤ hh) (h1 : hh ≤ mm) (h2 : mm ≤ (es.length : Int)) :
    OpT P o ρ (StL.get []) (.t (.sl sz (es.take hh.toNat))) (StL.get []) [] :=
  zt fun h m A w _ hrep => by
    have r1 := hrep x (by simp [ho, Op.operands])
    have r2 := hrep y (by simp [ho, Op.operands])
    have r3 := hrep u (by simp [ho, Op.operands])
    rw [hx] at r1
    rw [hy] at r2
    rw [hu] at r3
    simp only [RepA, RepT] at r1 r2 r3
    obtain ⟨B, n, c, e1, e2, e3, e4, e5⟩ := r1
    have hb : (Instr.sliceBounds true n c none (some (A.eval y)) (some (A.eval u))).run P w = .ok (0, hh.toNat, mm.toNat) w := by
      simp [Instr.sliceBounds, yc (P := P) (w := w) (y := c) r3 (by omega) (by omega), yc (P := P) (w := w) (y := mm.toNat) r2 h0 (by omega)]
    refine ⟨.slice (if mm.toNat = 0 then B else B.map (·.add (0 * sz))) (hh.toNat - 0) (mm.toNat - 0), by simp [execOp, ho, Instr.sliceAt, Instr.slice, run_underlying tu.h, e1, hb, zO ti], ?_⟩
    simp only [RepA, RepT]
    refine ⟨_, _, _, rfl, by simp; omega, by omega, ⟨by omega, fun hA => ?_⟩, fun hne => ?_⟩
    · split at hA
      · omega
      · cases B with
        | none => have := e4.2 rfl; omega
        | some a => cases hA
    obtain ⟨b, q, rfl, e6⟩ := e5 (by omega)
    refine ⟨b, q + 0 * sz, ?_, by rw [Nat.zero_mul, Nat.add_zero]; exact yW e6⟩
    rw [if_neg (by omega)]
    simp [ya]
end
section
variable {P : Program} {nt : Nat} {ops : Array Oper} {o : Oper} {rest : List Oper} {env : EnvL} {st : StO} {acc : List SD} {K : EnvL → StO → List SD → Prop} {d : Nat}
theorem jq {t elem : TypeId} {x y u : Operand} {sz : Nat} {es : List T} {k k' : IntKind} {hh mm : Int} {bytes : Nat} {z : Value} (ho : o.op = .slice t x none (some y) (some u)) (hx : zk env.get x = .t (.sl sz es)) (hy : zk env.get y = .t (.int k hh)) (hu : zk env.get u = .t (.int k' mm)) [tu : TyU P t (.slice elem)] [ti : TyI P elem sz bytes z] (hd : o.dst = some d) (hn : (decide (d < nt)) = true) (hg : zj ops o env = true)
    (h0 : 0 ≤ hh) (h1 : hh ≤ mm) (h2 : mm ≤ (es.length : Int))
    (H : LexP P nt ops rest ((d, .t (.sl sz (es.take hh.toNat))) :: env) st (⟨true, [], .t (.sl sz (es.take hh.toNat)), [], [], []⟩ :: acc) K) : LexP P nt ops (o :: rest) env st acc K :=
  zw (ki ho hx hy hu tu ti h0 h1 h2) hd hn hg H
end
end Go.AL
set_option linter.unusedVariables false
set_option linter.unusedSimpArgs false
namespace Go.AL
open Go Go.RowKit
section
variable {P : Program} {o : Oper} {ρ : Operand → AV}
end
section
variable {P : Program} {nt : Nat} {ops : Array Oper} {o : Oper} {rest : List Oper} {env : EnvL} {st : StO} {acc : List SD} {K : EnvL → StO → List SD → Prop} {d : Nat}
end
end Go.AL
set_option linter.unusedVariables false
set_option linter.unusedSimpArgs false
namespace Go.AL
open Go Go.RowKit
section
variable {P : Program} {nt : Nat} {ops : Array Oper} {o : Oper} {rest : List Oper} {env : EnvL} {st : StO} {acc : List SD} {K : EnvL → StO → List SD → Prop} {d : Nat}
end
end Go.AL
set_option linter.unusedVariables false
set_option linter.unusedSimpArgs false
namespace Go.AL
open Go Go.RowKit
end Go.AL
set_option linter.unusedVariables false
set_option linter.unusedSimpArgs false
namespace Go.AL
open Go Go.RowKit
section
variable {P : Program} {o : Oper} {ρ : Operand → AV} {w : World} {h : Heap} {m : zu}
end
section
variable {P : Program} {nt : Nat} {ops : Array Oper} {o : Oper} {rest : List Oper} {env : EnvL} {st : StO} {acc : List SD} {K : EnvL → StO → List SD → Prop} {d : Nat}
end
end Go.AL
set_option linter.unusedVariables false
namespace Go.AL
open Go Go.RowKit
section
variable {P : Program} {nt : Nat} {ops : Array Oper} {o : Oper} {rest : List Oper} {env : EnvL} {st : StO} {acc : List SD} {K : EnvL → StO → List SD → Prop} {d : Nat}
end
end Go.AL
set_option linter.unusedVariables false
set_option linter.unusedSimpArgs false
namespace Go.AL
open Go Go.RowKit
section
variable {P : Program} {nt : Nat} {ops : Array Oper} {o : Oper} {rest : List Oper} {env : EnvL} {st : StO} {acc : List SD} {K : EnvL → StO → List SD → Prop} {d : Nat}
end
end Go.AL
set_option linter.unusedVariables false
namespace Go.AL
open Go Go.RowKit
section
variable {P : Program} {nt : Nat} {ops : Array Oper} {o : Oper} {rest : List Oper} {env : EnvL} {st : StO} {acc : List SD} {K : EnvL → StO → List SD → Prop} {d : Nat}
end
end Go.AL
set_option linter.unusedVariables false
namespace Go.AL
open Go Go.RowKit
end Go.AL
