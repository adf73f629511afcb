/- The layer of abstract values, second part: the laws of single operations; each under the conditions that its own theorem names. -/
import Derived.Test.YtmidabiehblekaaGreatDoorAl1
import Derived.Laws.Strings
import Derived.Lib.ConvBytes
import Derived.Laws.BytesArg
set_option linter.unusedVariables false
set_option linter.unusedSimpArgs false
namespace Go.AL
open Go Go.RowKit
section
variable {P : Program} {o : Oper} {ρ : Operand → AV} {h : Heap} {m : zQ} {w : World}
theorem zbU {s : TypeId} {fields : Array Field} {k : Nat} {fd : Field} {size bytes : Nat} {z : Value} (tu : TyU P s (.struct fields)) (hf : fields[k]? = some fd) (ti : TyI P fd.type size bytes z) (hs : size ≠ 0) (b q : Nat) :
    (Instr.fieldAt s (.pointer (some ⟨b, q, none⟩)) k).run P w = .ok (.pointer (some ⟨b, q + fd.offset, none⟩)) w := by
  simp [Instr.fieldAt, run_underlying tu.h, hf, Instr.sureAddr, fieldPlace, y4 ti, hs, wu]
theorem zaw {s : TypeId} {x : Operand} {k : Nat} {id : Id} {i sz off : Nat} {fields : Array Field} {fd : Field} {size bytes : Nat} {z : Value} (ho : o.op = .fieldAddr s x k) (hx : ρ x = .ref id i sz off) (tu : TyU P s (.struct fields)) (hf : fields[k]? = some fd) (ti : TyI P fd.type size bytes z) (hs : size ≠ 0) :
    OpT P o ρ (StL.get []) (.ref id i sz (off + fd.offset)) (StL.get []) [] :=
  zY fun h m a w _ hr => by
    have h1 := hr x (by simp [ho, Op.operands])
    rw [hx] at h1
    obtain ⟨b, hb, e⟩ := h1
    exact ⟨.pointer (some ⟨b, i * sz + off + fd.offset, none⟩), by simp [execOp, ho, e, zbU tu hf ti hs], b, hb, by rw [Nat.add_assoc]⟩
theorem za8 {s : TypeId} {x : Operand} {k : Nat} {e : T} {off : Nat} {fields : Array Field} {fd : Field} {size bytes : Nat} {z : Value} (ho : o.op = .fieldAddr s x k) (hx : ρ x = .tp e off) (tu : TyU P s (.struct fields)) (hf : fields[k]? = some fd) (ti : TyI P fd.type size bytes z) (hs : size ≠ 0) :
    OpT P o ρ (StL.get []) (.tp e (off + fd.offset)) (StL.get []) [] :=
  zY fun h m a w _ hr => by
    have h1 := hr x (by simp [ho, Op.operands])
    rw [hx] at h1
    obtain ⟨b, q, e1, e2⟩ := h1
    exact ⟨.pointer (some ⟨b, q + off + fd.offset, none⟩), by simp [execOp, ho, e1, zbU tu hf ti hs], b, q, by rw [Nat.add_assoc], e2⟩
theorem vS {t elem : TypeId} {size bytes : Nat} {z : Value} (tu : TyU P t (.slice elem)) (ti : TyI P elem size bytes z) {b q n c : Nat} {k : IntKind} {i : Int} (h0 : 0 ≤ i) (h1 : i < (n : Int)) :
    (Instr.indexAt t (.slice (some ⟨b, q, none⟩) n c) (.int k i)).run P w = .ok (.pointer (some ⟨b, q + i.toNat * size, none⟩)) w := by
  simp [Instr.indexAt, asIntOf, run_underlying tu.h, h0, h1, y4 ti, wu]
theorem toNat_lt {i : Int} {n : Nat} (h0 : 0 ≤ i) (h1 : i < (n : Int)) : i.toNat < n := by omega
theorem za7 {t elem : TypeId} {x ix : Operand} {sz : Nat} {es : List T} {k : IntKind} {i : Int} {bytes : Nat} {z : Value} (ho : o.op = .indexAddr t x ix) (hx : ρ x = .t (.sl sz es)) (hi : ρ ix = .t (.int k i)) (tu : TyU P t (.slice elem)) (ti : TyI P elem sz bytes z) (h0 : 0 ≤ i) (h1 : i < (es.length : Int)) :
    OpT P o ρ (StL.get []) (.tp (es.getD i.toNat .nilp) 0) (StL.get []) [] :=
  zY fun h m a w _ hr => by
    have r1 := hr x (by simp [ho, Op.operands])
    have r2 := hr ix (by simp [ho, Op.operands])
    rw [hx] at r1
    rw [hi] at r2
    simp only [RepA, RepT] at r1 r2
    obtain ⟨A, n, c, e1, e2, e3, e4, e5⟩ := r1
    have hn : n ≠ 0 := by omega
    obtain ⟨b, q, rfl, e6⟩ := e5 hn
    have hlt := toNat_lt h0 h1
    have hget : es[i.toNat]? = some (es.getD i.toNat .nilp) := by simp [List.getD_eq_getElem?_getD, hlt]
    obtain ⟨k1, k2⟩ := wv e6 hget
    have hrun := vS (P := P) (w := w) tu ti (b := b) (q := q) (n := n) (c := c) (k := k) h0 (by rw [e2]; exact h1)
    exact ⟨.pointer (some ⟨b, q + i.toNat * sz, none⟩), by simp [execOp, ho, e1, r2, hrun], b, q + i.toNat * sz, by simp, k2⟩
theorem zab {t elem : TypeId} {x ix : Operand} {id : Id} {e : TypeId} {sz : Nat} {es : List T} {k : IntKind} {i : Int} {bytes : Nat} {z : Value} (ho : o.op = .indexAddr t x ix) (hx : ρ x = .row id) (hi : ρ ix = .t (.int k i)) (tu : TyU P t (.slice elem)) (ti : TyI P elem sz bytes z) (h0 : 0 ≤ i) (h1 : i < (es.length : Int)) :
    OpT P o ρ (StL.get [(id, .slt e sz es)]) (.ref id i.toNat sz 0) (StL.get [(id, .slt e sz es)]) [] :=
  xX fun h m a w hs hr => by
    have r1 := hr x (by simp [ho, Op.operands])
    have r2 := hr ix (by simp [ho, Op.operands])
    rw [hx] at r1
    rw [hi] at r2
    simp only [RepA, RepT] at r1 r2
    obtain ⟨xs, ⟨k1, k2⟩, k3⟩ := qO hs (yz id _)
    rcases k2 with ⟨_, hn⟩ | ⟨g, cap, cur, lo, hi', hv, hg, _⟩
    · omega
    · have hrun := vS (P := P) (w := w) tu ti (b := g) (q := 0) (n := es.length) (c := cap) (k := k) h0 h1
      exact ⟨.pointer (some ⟨g, 0 + i.toNat * sz, none⟩), by simp [execOp, ho, r1.1, r2, hv, hrun], g, by rw [hv]; rfl, by simp⟩
def bAt (s : ByteArray) (i : Int) : Int := ((s.data.toList.getD i.toNat 0).toNat : Int)
theorem zew {t : TypeId} {x ix : Operand} {s : ByteArray} {k : IntKind} {i : Int} (ho : o.op = .index t x ix) (hx : ρ x = .t (.str s)) (hi : ρ ix = .t (.int k i)) (tu : TyU P t .string) (h0 : 0 ≤ i) (h1 : i < (s.size : Int)) :
    OpT P o ρ (StL.get []) (.t (.int .u8 (bAt s i))) (StL.get []) [] :=
  zY fun h m a w _ hr => by
    have r1 := hr x (by simp [ho, Op.operands])
    have r2 := hr ix (by simp [ho, Op.operands])
    rw [hx] at r1
    rw [hi] at r2
    simp only [RepA, RepT] at r1 r2
    have hlt := toNat_lt h0 h1
    have hget : s[i.toNat]? = some s[i.toNat] := by simp [hlt]
    have hb : bAt s i = (s[i.toNat].toNat : Int) := by
      unfold bAt
      have hl : i.toNat < s.data.toList.length := by rw [Array.length_toList]; exact hlt
      rw [List.getD_eq_getElem?_getD, List.getElem?_eq_getElem hl]
      rfl
    refine ⟨.int .u8 (bAt s i), ?_, by simp [RepA, RepT]⟩
    simp [execOp, ho, r1, r2, Instr.index, asIntOf, run_underlying tu.h, h0, hget, hb]
def znr : BinOp → IntKind → Int → Int → Option T
  | .add, k, a, b => some (.int k (k.wrap (a + b)))
  | .sub, k, a, b => some (.int k (k.wrap (a - b)))
  | .mul, k, a, b => some (.int k (k.wrap (a * b)))
  | .and, k, a, b => some (.int k (k.wrap (BitVec.ofInt k.bits a &&& BitVec.ofInt k.bits b).toNat))
  | .or, k, a, b => some (.int k (k.wrap (BitVec.ofInt k.bits a ||| BitVec.ofInt k.bits b).toNat))
  | .xor, k, a, b => some (.int k (k.wrap (BitVec.ofInt k.bits a ^^^ BitVec.ofInt k.bits b).toNat))
  | .andNot, k, a, b => some (.int k (k.wrap (BitVec.ofInt k.bits a &&& ~~~ BitVec.ofInt k.bits b).toNat))
  | .eql, k, a, b => some (.bool (decide (a = b)))
  | .neq, k, a, b => some (.bool (!decide (a = b)))
  | .lss, k, a, b => some (.bool (decide (a < b)))
  | .leq, k, a, b => some (.bool (decide (a ≤ b)))
  | .gtr, k, a, b => some (.bool (decide (b < a)))
  | .geq, k, a, b => some (.bool (decide (b ≤ a)))
  | _, _, _, _ => none
theorem zjJ {op : BinOp} {ty yt : TypeId} {x y : Operand} {k : IntKind} {a b : Int} {r : T} (ho : o.op = .binOp op ty x y yt) (hx : ρ x = .t (.int k a)) (hy : ρ y = .t (.int k b)) (hr : znr op k a b = some r) :
    OpT P o ρ (StL.get []) (.t r) (StL.get []) [] :=
  zY fun h m A w _ hrep => by
    have r1 := hrep x (by simp [ho, Op.operands])
    have r2 := hrep y (by simp [ho, Op.operands])
    rw [hx] at r1
    rw [hy] at r2
    simp only [RepA, RepT] at r1 r2
    cases op <;> simp only [znr, Option.some.injEq, reduceCtorEq] at hr
    case eql =>
      subst hr
      refine ⟨.bool (a == b), by simp [execOp, ho, r1, r2, binOp, eqGuard, Op.intCmp], ?_⟩
      have : (a == b) = decide (a = b) := by by_cases e : a = b <;> simp [e]
      simp [RepA, RepT, this]
    case neq =>
      subst hr
      refine ⟨.bool (a != b), by simp [execOp, ho, r1, r2, binOp, eqGuard, Op.intCmp], ?_⟩
      have : (a != b) = !decide (a = b) := by by_cases e : a = b <;> simp [e]
      simp [RepA, RepT, this]
    all_goals
      subst hr
      refine ⟨_, by simp [execOp, ho, r1, r2, binOp, eqGuard, Op.intArith, Op.intBits, Op.intCmp]; rfl, ?_⟩
      simp [RepA, RepT]
theorem zm4 {ty yt : TypeId} {x y : Operand} {k : IntKind} {a b : Int} (ho : o.op = .binOp .quo ty x y yt) (hx : ρ x = .t (.int k a)) (hy : ρ y = .t (.int k b)) (hb : b ≠ 0) :
    OpT P o ρ (StL.get []) (.t (.int k (k.wrap (a.tdiv b)))) (StL.get []) [] :=
  zY fun h m A w _ hrep => by
    have r1 := hrep x (by simp [ho, Op.operands])
    have r2 := hrep y (by simp [ho, Op.operands])
    rw [hx] at r1
    rw [hy] at r2
    simp only [RepA, RepT] at r1 r2
    exact ⟨.int k (k.wrap (a.tdiv b)), by simp [execOp, ho, r1, r2, binOp, eqGuard, Op.intDiv, hb], by simp [RepA, RepT]⟩
theorem zmt {ty yt : TypeId} {x y : Operand} {k : IntKind} {a b : Int} (ho : o.op = .binOp .rem ty x y yt) (hx : ρ x = .t (.int k a)) (hy : ρ y = .t (.int k b)) (hb : b ≠ 0) :
    OpT P o ρ (StL.get []) (.t (.int k (a.tmod b))) (StL.get []) [] :=
  zY fun h m A w _ hrep => by
    have r1 := hrep x (by simp [ho, Op.operands])
    have r2 := hrep y (by simp [ho, Op.operands])
    rw [hx] at r1
    rw [hy] at r2
    simp only [RepA, RepT] at r1 r2
    exact ⟨.int k (a.tmod b), by simp [execOp, ho, r1, r2, binOp, eqGuard, Op.intDiv, hb], by simp [RepA, RepT]⟩
theorem zm7 {ty yt : TypeId} {x y : Operand} {k yk : IntKind} {a b : Int} (ho : o.op = .binOp .shl ty x y yt) (hx : ρ x = .t (.int k a)) (hy : ρ y = .t (.int yk b)) (hb : 0 ≤ b) :
    OpT P o ρ (StL.get []) (.t (.int k (k.wrap (a * 2 ^ min b.toNat k.bits)))) (StL.get []) [] :=
  zY fun h m A w _ hrep => by
    have r1 := hrep x (by simp [ho, Op.operands])
    have r2 := hrep y (by simp [ho, Op.operands])
    rw [hx] at r1
    rw [hy] at r2
    simp only [RepA, RepT] at r1 r2
    have hb' : ¬ (b < 0) := by omega
    exact ⟨.int k (k.wrap (a * 2 ^ min b.toNat k.bits)), by simp [execOp, ho, r1, r2, binOp, eqGuard, Op.shift, hb'], by simp [RepA, RepT]⟩
theorem znh {ty yt : TypeId} {x y : Operand} {k yk : IntKind} {a b : Int} (ho : o.op = .binOp .shr ty x y yt) (hx : ρ x = .t (.int k a)) (hy : ρ y = .t (.int yk b)) (hb : 0 ≤ b) :
    OpT P o ρ (StL.get []) (.t (.int k (a / (2 ^ min b.toNat k.bits)))) (StL.get []) [] :=
  zY fun h m A w _ hrep => by
    have r1 := hrep x (by simp [ho, Op.operands])
    have r2 := hrep y (by simp [ho, Op.operands])
    rw [hx] at r1
    rw [hy] at r2
    simp only [RepA, RepT] at r1 r2
    have hb' : ¬ (b < 0) := by omega
    have hpos : (0 : Int) ≤ 2 ^ min b.toNat k.bits := Int.pow_nonneg (by omega)
    exact ⟨.int k (a / (2 ^ min b.toNat k.bits)), by simp [execOp, ho, r1, r2, binOp, eqGuard, Op.shift, hb', Int.fdiv_eq_ediv_of_nonneg _ hpos], by simp [RepA, RepT]⟩
theorem zmV {ty : TypeId} {x : Operand} {b : Bool} (ho : o.op = .unOp .not ty x) (hx : ρ x = .t (.bool b)) : OpT P o ρ (StL.get []) (.t (.bool (!b))) (StL.get []) [] :=
  zY fun h m A w _ hrep => by
    have r1 := hrep x (by simp [ho, Op.operands])
    rw [hx] at r1
    simp only [RepA, RepT] at r1
    exact ⟨.bool (!b), by simp [execOp, ho, r1, Op.unary], by simp [RepA, RepT]⟩
theorem znu {ty : TypeId} {x : Operand} {k : IntKind} {n : Int} (ho : o.op = .unOp .neg ty x) (hx : ρ x = .t (.int k n)) : OpT P o ρ (StL.get []) (.t (.int k (k.wrap (0 - n)))) (StL.get []) [] :=
  zY fun h m A w _ hrep => by
    have r1 := hrep x (by simp [ho, Op.operands])
    rw [hx] at r1
    simp only [RepA, RepT] at r1
    exact ⟨.int k (k.wrap (0 - n)), by simp [execOp, ho, r1, Op.unary, Op.intArith], by simp [RepA, RepT]⟩
theorem znf {ty : TypeId} {x : Operand} {k : IntKind} {n : Int} (ho : o.op = .unOp .xor ty x) (hx : ρ x = .t (.int k n)) : OpT P o ρ (StL.get []) (.t (.int k (k.wrap (BitVec.ofInt k.bits (if k.signed then -1 else k.max) ^^^ BitVec.ofInt k.bits n).toNat))) (StL.get []) [] :=
  zY fun h m A w _ hrep => by
    have r1 := hrep x (by simp [ho, Op.operands])
    rw [hx] at r1
    simp only [RepA, RepT] at r1
    exact ⟨_, by simp [execOp, ho, r1, Op.unary, Op.intBits]; rfl, by simp [RepA, RepT]⟩
theorem ze3 {src dst : TypeId} {x : Operand} {d : TypeDesc} {k k' : IntKind} {n : Int} (ho : o.op = .convert src dst x) (hx : ρ x = .t (.int k n)) (ts : TyU P src d) (td : TyU P dst (.int k')) : OpT P o ρ (StL.get []) (.t (.int k' (k'.wrap n))) (StL.get []) [] :=
  zY fun h m A w _ hrep => by
    have r1 := hrep x (by simp [ho, Op.operands])
    rw [hx] at r1
    simp only [RepA, RepT] at r1
    exact ⟨.int k' (k'.wrap n), by simp [execOp, ho, r1, convert, run_underlying ts.h, run_underlying td.h, Conv.intToInt], by simp [RepA, RepT]⟩
theorem zhX (x y : ByteArray) : (x.toList == y.toList) = decide (x = y) := by
  have key : x.toList = y.toList ↔ x = y := by
    constructor
    · intro e
      have e' : x.data.toList = y.data.toList := by rw [← Go.ByteArray.toList_eq, ← Go.ByteArray.toList_eq]; exact e
      cases x; cases y
      congr
      exact Array.toList_inj.1 e'
    · intro e; rw [e]
  by_cases e : x = y
  · subst e; simp
  · have : ¬ x.toList = y.toList := fun h => e (key.1 h)
    simp [e, this]
end
end Go.AL
set_option linter.unusedSimpArgs false
namespace Go.AL
open Go Go.RowKit
section
variable {P : Program} {o : Oper} {ρ : Operand → AV} {h : Heap} {m : zQ} {w : World}
theorem zib {ty yt : TypeId} {x y : Operand} {s t : ByteArray} (ho : o.op = .binOp .add ty x y yt) (hx : ρ x = .t (.str s)) (hy : ρ y = .t (.str t)) (hl : s.size + t.size ≤ 9223372036854775807) :
    OpT P o ρ (StL.get []) (.t (.str (s ++ t))) (StL.get []) [] :=
  zY fun h m A w _ hrep => by
    have r1 := hrep x (by simp [ho, Op.operands])
    have r2 := hrep y (by simp [ho, Op.operands])
    rw [hx] at r1
    rw [hy] at r2
    simp only [RepA, RepT] at r1 r2
    have hl' : ¬ (((s.size + t.size : Nat) : Int) > IntKind.i64.max) := by simp [IntKind.max, IntKind.signed, IntKind.bits]; omega
    exact ⟨.string (s ++ t), by simp only [execOp, ho, r1, r2, binOp, eqGuard, Op.stringOp, hl', if_false]; rfl, by simp [RepA, RepT]⟩
theorem zh5 {ty yt : TypeId} {x y : Operand} {s t : ByteArray} (ho : o.op = .binOp .eql ty x y yt) (hx : ρ x = .t (.str s)) (hy : ρ y = .t (.str t)) :
    OpT P o ρ (StL.get []) (.t (.bool (decide (s = t)))) (StL.get []) [] :=
  zY fun h m A w _ hrep => by
    have r1 := hrep x (by simp [ho, Op.operands])
    have r2 := hrep y (by simp [ho, Op.operands])
    rw [hx] at r1
    rw [hy] at r2
    simp only [RepA, RepT] at r1 r2
    exact ⟨.bool (s.toList == t.toList), by simp [execOp, ho, r1, r2, binOp, eqGuard, Op.stringOp], by rw [zhX]; simp [RepA, RepT]⟩
theorem zi2 {ty yt : TypeId} {x y : Operand} {s t : ByteArray} (ho : o.op = .binOp .neq ty x y yt) (hx : ρ x = .t (.str s)) (hy : ρ y = .t (.str t)) :
    OpT P o ρ (StL.get []) (.t (.bool (!decide (s = t)))) (StL.get []) [] :=
  zY fun h m A w _ hrep => by
    have r1 := hrep x (by simp [ho, Op.operands])
    have r2 := hrep y (by simp [ho, Op.operands])
    rw [hx] at r1
    rw [hy] at r2
    simp only [RepA, RepT] at r1 r2
    exact ⟨.bool (!(s.toList == t.toList)), by simp [execOp, ho, r1, r2, binOp, eqGuard, Op.stringOp], by rw [zhX]; simp [RepA, RepT]⟩
theorem kG {ty : TypeId} (tu : TyU P ty .bool) (a b : Bool) : (Op.equal ty (.bool a) (.bool b)).run P w = .ok (a == b) w := by
  have key : ∀ d : Nat, (Op.equalIn (d + 1) ty (.bool a) (.bool b)).run P w = .ok (a == b) w := fun d => by
    simp [Op.equalIn, run_underlying tu.h]
  exact key 9999
theorem zgF {ty yt : TypeId} {x y : Operand} {a b : Bool} (ho : o.op = .binOp .eql ty x y yt) (hx : ρ x = .t (.bool a)) (hy : ρ y = .t (.bool b)) (tu : TyU P ty .bool) :
    OpT P o ρ (StL.get []) (.t (.bool (a == b))) (StL.get []) [] :=
  zY fun h m A w _ hrep => by
    have r1 := hrep x (by simp [ho, Op.operands])
    have r2 := hrep y (by simp [ho, Op.operands])
    rw [hx] at r1
    rw [hy] at r2
    simp only [RepA, RepT] at r1 r2
    exact ⟨.bool (a == b), by simp [execOp, ho, r1, r2, binOp, eqGuard, kG tu], by simp [RepA, RepT]⟩
theorem zgs {ty yt : TypeId} {x y : Operand} {a b : Bool} (ho : o.op = .binOp .neq ty x y yt) (hx : ρ x = .t (.bool a)) (hy : ρ y = .t (.bool b)) (tu : TyU P ty .bool) :
    OpT P o ρ (StL.get []) (.t (.bool (!(a == b)))) (StL.get []) [] :=
  zY fun h m A w _ hrep => by
    have r1 := hrep x (by simp [ho, Op.operands])
    have r2 := hrep y (by simp [ho, Op.operands])
    rw [hx] at r1
    rw [hy] at r2
    simp only [RepA, RepT] at r1 r2
    exact ⟨.bool (!(a == b)), by simp [execOp, ho, r1, r2, binOp, eqGuard, kG tu], by simp [RepA, RepT]⟩
theorem zeN {g : Nat → Option Value} : ∀ {xs : List AV} {o j : Nat} {x : AV}, RepAs h m g o xs → xs[j]? = some x → ∃ u, g (o + j) = some u ∧ RepA h m u x
  | [], _, _, _, _, hx => by simp at hx
  | y :: ys, o, j, x, H, hx => by
    simp only [RepAs] at H
    cases j with
    | zero => simp at hx; subst hx; exact H.1
    | succ j =>
      simp at hx
      have := zeN H.2 hx
      rwa [show o + 1 + j = o + (j + 1) from by omega] at this
theorem zgE {x : Operand} {i : Nat} {vs : List AV} {y : AV} (ho : o.op = .extract x i) (hx : ρ x = .tup vs) (hy : vs[i]? = some y) : OpT P o ρ (StL.get []) y (StL.get []) [] :=
  zY fun h m A w _ hrep => by
    have r1 := hrep x (by simp [ho, Op.operands])
    rw [hx] at r1
    obtain ⟨us, e1, e2, e3⟩ := r1
    obtain ⟨u, k1, k2⟩ := zeN e3 hy
    simp only [Nat.zero_add] at k1
    exact ⟨u, by simp [execOp, ho, e1, Instr.extract, k1], k2⟩
theorem zbl {f : Operand → Value} {ρ : Operand → AV} : ∀ {l : List Operand} {g : Nat → Option Value} {q : Nat}, (∀ j x, l[j]? = some x → g (q + j) = some (f x)) → (∀ x ∈ l, RepA h m (f x) (ρ x)) → RepAs h m g q (l.map ρ)
  | [], _, _, _, _ => by simp [RepAs]
  | x :: l, g, q, hg, hr => by
    simp only [List.map_cons, RepAs]
    refine ⟨⟨f x, hg 0 x rfl, hr x (by simp)⟩, zbl (fun j y hy => ?_) fun y hy => hr y (by simp [hy])⟩
    have := hg (j + 1) y (by simpa using hy)
    rwa [show q + (j + 1) = q + 1 + j from by omega] at this
theorem zfT {f : FuncId} {caps : Array Operand} (ho : o.op = .makeFunc (.func f) #[] caps) : OpT P o ρ (StL.get []) (.fn f (caps.toList.map ρ)) (StL.get []) [] :=
  zY fun h m A w _ hrep => by
    refine ⟨.func (.func f) #[] (caps.map A.eval), by simp [execOp, ho, Instr.makeFunc], caps.map A.eval, rfl, by simp, ?_⟩
    refine zbl (f := A.eval) (fun j x hx => ?_) fun x hx => hrep x (by simp [ho, Op.operands]; simpa using hx)
    simp at hx
    simp [hx]
theorem za5 {g : Nat → Option Value} : ∀ {as bs : List AV} {o : Nat}, RepAs h m g o (as ++ bs) ↔ RepAs h m g o as ∧ RepAs h m g (o + as.length) bs
  | [], bs, o => by simp [RepAs]
  | a :: as, bs, o => by
    simp only [List.cons_append, RepAs, za5 (as := as), List.length_cons, and_assoc]
    rw [show o + (as.length + 1) = o + 1 + as.length from by omega]
theorem kT {g g' : Nat → Option Value} {d : Nat} (hg : ∀ j u, g j = some u → g' (j + d) = some u) : ∀ {ts : List AV} {o : Nat}, RepAs h m g o ts → RepAs h m g' (o + d) ts
  | [], _, _ => by simp [RepAs]
  | t :: ts, o, H => by
    simp only [RepAs] at H ⊢
    obtain ⟨⟨u, h1, h3⟩, h4⟩ := H
    exact ⟨⟨u, hg _ _ h1, h3⟩, by rw [show o + d + 1 = o + 1 + d from by omega]; exact kT hg h4⟩
def xn : AV → Option (FuncId × List AV)
  | .t (.fn g) => some (g, [])
  | .fn g caps => some (g, caps)
  | _ => none
def ArgsLE (xs ys : List AV) : Prop := ∀ h m g o, RepAs h m g o xs → RepAs h m g o ys
theorem ArgsLE.refl (xs : List AV) : ArgsLE xs xs := fun _ _ _ _ H => H
theorem ArgsLE.of_eq {xs ys : List AV} (e : xs = ys) : ArgsLE xs ys := e ▸ ArgsLE.refl xs
def AVLE (x y : AV) : Prop := ∀ h m v, RepA h m v x → RepA h m v y
theorem ArgsLE.nil : ArgsLE [] [] := ArgsLE.refl []
theorem ArgsLE.cons {x y : AV} {xs ys : List AV} (h1 : AVLE x y) (h2 : ArgsLE xs ys) : ArgsLE (x :: xs) (y :: ys) := fun h m g o H => by
  simp only [RepAs] at H ⊢
  obtain ⟨⟨u, k1, k2⟩, k3⟩ := H
  exact ⟨⟨u, k1, h1 h m u k2⟩, h2 h m g (o + 1) k3⟩
theorem zhl {f : Operand} {as : Array Operand} {ts : Array TypeId} {g : FuncId} {caps args : List AV} {S S' : StL} {r : AV} (σ : Id → Id) (ho : o.op = .call { callee := .value f, args := as, argTypes := ts }) (hf : xn (ρ f) = some (g, caps)) (hb : FnB P g)
    (H : Spec P g args S r S') (ok : CallOK S S' r σ) (hlen : as.size + caps.length = args.length) (hargs : ArgsLE (as.toList.map ρ ++ caps) (AV.renL σ args)) :
    OpT P o ρ (StL.get (S.ren σ)) (r.ren σ) (StL.get (S'.ren σ)) ((S'.ids.filter xd).map σ) := by
  refine OpT.of ?_
  intro h m a w hs hr K Q hK
  have r1 := hr f (by simp [ho, Op.operands, Call.operands])
  have hcall : ∃ cv : Array Value, a.eval f = .func (.func g) #[] cv ∧ cv.size = caps.length ∧ RepAs h m (fun j => cv[j]?) 0 caps := by
    cases e : ρ f with
    | t y =>
      cases y with
      | fn g' =>
        rw [e] at hf r1
        simp only [xn, Option.some.injEq, Prod.mk.injEq] at hf
        simp only [RepA, RepT] at r1
        obtain ⟨rfl, rfl⟩ := hf
        exact ⟨#[], r1, rfl, by simp [RepAs]⟩
      | _ => rw [e] at hf; simp [xn] at hf
    | fn g' cs =>
      rw [e] at hf r1
      simp only [xn, Option.some.injEq, Prod.mk.injEq] at hf
      obtain ⟨rfl, rfl⟩ := hf
      exact r1
    | _ => rw [e] at hf; simp [xn] at hf
  obtain ⟨cv, e1, e2, e3⟩ := hcall
  have hrun : (execOp a.eval o).run P w = .ok (.enter g (as.map a.eval ++ cv)) w := by
    simp [execOp, ho, resolve, e1, Deferred.ofValue, invoke, zaB hb.h]
  have hrep : RepAs h m (fun j => (as.map a.eval ++ cv)[j]?) 0 (as.toList.map ρ ++ caps) := by
    rw [za5]
    constructor
    · refine zbl (f := a.eval) (fun j x hx => ?_) fun x hx => hr x (by simp [ho, Op.operands, Call.operands]; right; simpa using hx)
      have hj : j < as.size := by
        rcases Nat.lt_or_ge j as.size with h | h
        · exact h
        · simp [h] at hx
      simp at hx
      simp [Array.getElem?_append_left, hj]
      rw [Array.getElem?_eq_getElem hj] at hx
      cases hx
      rfl
    · have := kT (g' := fun j => (as.map a.eval ++ cv)[j]?) (d := as.size) (fun j u hu => by
        rw [Array.getElem?_append_right (by simp)]
        simpa using hu) e3
      simpa using this
  have hsz : (as.map a.eval ++ cv).size = args.length := by simp [e2, hlen]
  have hc := zdV H ok hs hsz (hargs h m _ 0 hrep)
  unfold Oper.wp
  rw [hrun]
  refine Calls.mono hc ?_
  rintro e w' ⟨v, h', m', rfl, k1, k2, k3, k4⟩
  exact hK v h' m' w' k1 k2 k3 k4
theorem zh1 {t rt : TypeId} {x : Operand} {sz : Nat} {es : List T} {e : TypeId} (ho : o.op = .call { callee := .builtin .len, args := #[x], argTypes := #[t] }) (hx : ρ x = .t (.sl sz es)) (tu : TyU P t (.slice e)) :
    OpT P o ρ (StL.get []) (.t (.int .i64 (es.length : Int))) (StL.get []) [] :=
  zY fun h m A w _ hrep => by
    have r1 := hrep x (by simp [ho, Op.operands, Call.operands])
    rw [hx] at r1
    simp only [RepA, RepT] at r1
    obtain ⟨B, n, c, e1, e2, _⟩ := r1
    refine ⟨.int .i64 (es.length : Int), ?_, by simp [RepA, RepT]⟩
    simp [execOp, ho, resolve, invoke, builtin, Builtin.len_, run_underlying tu.h, e1, goInt, e2]
theorem zgL {t : TypeId} {x : Operand} {s : ByteArray} (ho : o.op = .call { callee := .builtin .len, args := #[x], argTypes := #[t] }) (hx : ρ x = .t (.str s)) (tu : TyU P t .string) :
    OpT P o ρ (StL.get []) (.t (.int .i64 (s.size : Int))) (StL.get []) [] :=
  zY fun h m A w _ hrep => by
    have r1 := hrep x (by simp [ho, Op.operands, Call.operands])
    rw [hx] at r1
    simp only [RepA, RepT] at r1
    refine ⟨.int .i64 (s.size : Int), ?_, by simp [RepA, RepT]⟩
    simp [execOp, ho, resolve, invoke, builtin, Builtin.len_, run_underlying tu.h, r1, goInt]
theorem zgA {t : TypeId} {x : Operand} {id : Id} {e e' : TypeId} {sz : Nat} {es : List T} (ho : o.op = .call { callee := .builtin .len, args := #[x], argTypes := #[t] }) (hx : ρ x = .row id) (tu : TyU P t (.slice e)) :
    OpT P o ρ (StL.get [(id, .slt e' sz es)]) (.t (.int .i64 (es.length : Int))) (StL.get [(id, .slt e' sz es)]) [] :=
  xX fun h m A w hs hrep => by
    have r1 := hrep x (by simp [ho, Op.operands, Call.operands])
    rw [hx] at r1
    obtain ⟨xs, ⟨k1, k2⟩, k3⟩ := qO hs (yz id _)
    have hv : ∃ A c, m id = .slice A es.length c := by
      rcases k2 with ⟨hv, hn⟩ | ⟨g, cap, cur, lo, hi', hv, _⟩
      · exact ⟨none, 0, by rw [hv, hn]⟩
      · exact ⟨_, cap, hv⟩
    obtain ⟨B, c, hv⟩ := hv
    refine ⟨.int .i64 (es.length : Int), ?_, by simp [RepA, RepT]⟩
    simp [execOp, ho, resolve, invoke, builtin, Builtin.len_, run_underlying tu.h, r1.1, hv, goInt]
end
end Go.AL
set_option linter.unusedSimpArgs false
namespace Go.AL
open Go Go.RowKit
section
variable {P : Program} {o : Oper} {ρ : Operand → AV} {h : Heap} {m : zQ} {w : World}
def qB (ρ : Operand → AV) : Option Operand → Int → Int → Prop
  | none, d, l => l = d
  | some x, _, l => ∃ k, ρ x = .t (.int k l)
theorem xB {v : Value} {k : IntKind} {i : Int} {y : Nat} {code : BoundsCode} (hv : v = .int k i) (h0 : 0 ≤ i) (h1 : i ≤ (y : Int)) : (Instr.sliceBound v y code).run P w = .ok i.toNat w := by
  subst hv
  simp [Instr.sliceBound, asIntOf, h0, h1]
theorem zcv {isS : Bool} {len cap : Nat} {lo hi : Option Operand} {a : Act} {l hh : Int} (hlo : qB ρ lo 0 l) (hhi : qB ρ hi (len : Int) hh) (hr : ∀ x ∈ lo.toList ++ hi.toList, RepA h m (a.eval x) (ρ x)) (h0 : 0 ≤ l) (h1 : l ≤ hh) (h2 : hh ≤ (cap : Int)) :
    (Instr.sliceBounds isS len cap (lo.map a.eval) (hi.map a.eval) none).run P w = .ok (l.toNat, hh.toNat, cap) w := by
  have hle : l ≤ (hh.toNat : Int) := by omega
  cases lo with
  | none =>
    simp only [qB] at hlo
    subst hlo
    cases hi with
    | none =>
      simp only [qB] at hhi
      subst hhi
      simp [Instr.sliceBounds]
    | some y =>
      obtain ⟨k, hk⟩ := hhi
      have e := hr y (by simp)
      rw [hk] at e
      simp only [RepA, RepT] at e
      simp [Instr.sliceBounds, xB e (by omega) h2]
  | some x =>
    obtain ⟨k, hk⟩ := hlo
    have e := hr x (by simp)
    rw [hk] at e
    simp only [RepA, RepT] at e
    cases hi with
    | none =>
      simp only [qB] at hhi
      subst hhi
      simp only [Int.toNat_natCast] at hle
      simp [Instr.sliceBounds, xB e h0 hle]
    | some y =>
      obtain ⟨k', hk'⟩ := hhi
      have e' := hr y (by simp)
      rw [hk'] at e'
      simp only [RepA, RepT] at e'
      simp [Instr.sliceBounds, xB e' (by omega) h2, xB e h0 hle]
theorem zey {t : TypeId} {x : Operand} {lo hi : Option Operand} {s : ByteArray} {l hh : Int} (ho : o.op = .slice t x lo hi none) (hx : ρ x = .t (.str s)) (tu : TyU P t .string) (hlo : qB ρ lo 0 l) (hhi : qB ρ hi (s.size : Int) hh) (h0 : 0 ≤ l) (h1 : l ≤ hh) (h2 : hh ≤ (s.size : Int)) :
    OpT P o ρ (StL.get []) (.t (.str (s.extract l.toNat hh.toNat))) (StL.get []) [] :=
  zY fun h m A w _ hrep => by
    have r1 := hrep x (by simp [ho, Op.operands])
    rw [hx] at r1
    simp only [RepA, RepT] at r1
    have hb := zcv (P := P) (w := w) (isS := false) (len := s.size) (cap := s.size) hlo hhi (fun y hy => hrep y (by simp [ho, Op.operands]; simp at hy; rcases hy with hy | hy <;> simp [hy])) h0 h1 h2
    exact ⟨.string (s.extract l.toNat hh.toNat), by simp [execOp, ho, Instr.sliceAt, Instr.slice, run_underlying tu.h, r1, hb], by simp [RepA, RepT]⟩
theorem zah {g : Nat → Option Value} {sz : Nat} : ∀ {es : List T} {o k : Nat}, RepEs h g o sz es → RepEs h g o sz (es.take k)
  | [], _, _, _ => by simp [RepEs]
  | e :: es, o, 0, H => by simp [RepEs]
  | e :: es, o, k + 1, H => by
    rw [List.take_succ_cons, yU]
    rw [yU] at H
    exact ⟨H.1, zah H.2⟩
def zev : List AV → List (Nat × AV) → List AV
  | cs, [] => cs
  | cs, (off, x) :: ps => zev (yP cs off x.cells) ps
theorem zfP (cs : Array Value) (off : Nat) : ∀ (vs : List Value) (k : Nat), off + k + vs.length ≤ cs.size → ((vs.zipIdx k).foldl (fun cs x => cs.setIfInBounds (off + x.2) x.1) cs).toList = yP cs.toList (off + k) vs := by
  intro vs
  induction vs generalizing cs with
  | nil => intro k _; simp [yP]
  | cons v vs ih =>
    intro k hk
    simp only [List.zipIdx_cons, List.foldl_cons]
    rw [ih _ (k + 1) (by simp at hk ⊢; omega)]
    apply List.ext_getElem?
    intro j
    simp only [List.length_cons] at hk
    rw [vf (by simp; omega), vf (by simp; omega)]
    simp only [Array.toList_setIfInBounds, List.getElem?_set, Array.length_toList, List.length_cons]
    by_cases c1 : j < off + k
    · rw [if_pos (by omega), if_neg (by omega), if_pos c1]
    · by_cases c2 : off + k = j
      · subst c2
        rw [if_pos (by omega), if_pos rfl, if_pos (by omega), if_neg c1, if_pos (by omega)]
        simp
      · rw [if_neg (by omega), if_neg c1, if_neg c2]
        by_cases c3 : j < off + k + (vs.length + 1)
        · rw [if_pos (by omega), if_pos c3]
          obtain ⟨q, rfl⟩ : ∃ q, j = off + k + 1 + q := ⟨j - (off + k + 1), by omega⟩
          rw [show off + k + 1 + q - (off + (k + 1)) = q from by omega, show off + k + 1 + q - (off + k) = q + 1 from by omega]
          simp
        · rw [if_neg (by omega), if_neg c3]
theorem ze9 {vs : List Value} {us : List Value} {cs xs : List AV} {off : Nat} (hl : vs.length = cs.length) (hu : us.length = xs.length) (hfit : off + xs.length ≤ cs.length) (H1 : RepAL h m (fun j => vs[j]?) 0 cs) (H2 : RepAL h m (fun j => us[j]?) 0 xs) :
    RepAL h m (fun j => (yP vs off us)[j]?) 0 (yP cs off xs) := by
  have hget := fun j => vf (cs := vs) (xs := us) (off := off) (by omega) j
  have ht : (cs.take off).length = off := by simp; omega
  show RepAL h m _ 0 (cs.take off ++ xs ++ cs.drop (off + xs.length))
  rw [wP, wP]
  refine ⟨⟨?_, ?_⟩, ?_⟩
  · refine xF (g := fun j => vs[j]?) (fun j _ hj => ?_) (kh H1)
    rw [ht] at hj
    show (yP vs off us)[j]? = _
    rw [hget, if_pos (by omega)]
  · rw [ht]
    refine xF (g := fun j => us[j - off]?) (fun j j1 j2 => ?_) ?_
    · show (yP vs off us)[j]? = _
      rw [hget, if_neg (by omega), if_pos (by omega)]
    · exact qt (g := fun j => us[j]?) (fun j u hu => by simpa using hu) H2
  · refine xF (g := fun j => vs[j]?) (fun j j1 _ => ?_) ?_
    · show (yP vs off us)[j]? = _
      simp only [List.length_append, ht] at j1
      rw [hget, if_neg (by omega), if_neg (by omega)]
    · have := kl (k := off + xs.length) H1
      simp only [List.length_append, ht]
      simpa using this
theorem vy {α : Type} (cs xs : List α) (off : Nat) (h : off + xs.length ≤ cs.length) : (yP cs off xs).length = cs.length := by
  simp [yP]; omega
def PartsOK (place : Nat → Option (Nat × Nat)) (ρ : Operand → AV) (n : Nat) : List (Nat × Operand) → List (Nat × AV) → Prop
  | [], [] => True
  | (i, x) :: ps, (off, y) :: qs => (y = ρ x ∧ y.boxable = true ∧ place i = some (off, y.cells.length) ∧ off + y.cells.length ≤ n) ∧ PartsOK place ρ n ps qs
  | _, _ => False
theorem zd5 {place : Nat → Option (Nat × Nat)} {a : Act} {n : Nat} : ∀ {ps : List (Nat × Operand)} {qs : List (Nat × AV)} {cells : Array Value} {cs : List AV}, PartsOK place ρ n ps qs → (∀ x ∈ ps, RepA h m (a.eval x.2) (ρ x.2)) → cells.size = n → cs.length = n → RepAL h m (fun j => cells[j]?) 0 cs →
    ∃ cells', Instr.fill place cells (ps.map fun p => (p.1, a.eval p.2)) = some cells' ∧ cells'.size = n ∧ (zev cs qs).length = n ∧ RepAL h m (fun j => cells'[j]?) 0 (zev cs qs)
  | [], [], cells, cs, _, _, h1, h2, H => ⟨cells, rfl, h1, h2, H⟩
  | [], _ :: _, _, _, hp, _, _, _, _ => hp.elim
  | _ :: _, [], _, _, hp, _, _, _, _ => hp.elim
  | (i, x) :: ps, (off, y) :: qs, cells, cs, hp, hr, h1, h2, H => by
    obtain ⟨⟨rfl, hb, hpl, hfit⟩, hp'⟩ := hp
    obtain ⟨c1, c2⟩ := zbw (v := a.eval x) hb (hr (i, x) (by simp))
    have e1 : ((a.eval x).cells.toList.zipIdx 0).foldl (fun cs x => cs.setIfInBounds (off + x.2) x.1) cells = ((a.eval x).cells.zipIdx.foldl (fun cs (c, j) => cs.setIfInBounds (off + j) c) cells) := by
      rw [← Array.foldl_toList]
      congr 1
      simp [Array.toList_zipIdx]
    have e2 := zfP cells off (a.eval x).cells.toList 0 (by simp; omega)
    rw [e1] at e2
    simp only [Nat.add_zero] at e2
    have hlen : (yP cs off (ρ x).cells).length = n := by rw [vy _ _ _ (by omega)]; exact h2
    have hsz : ((a.eval x).cells.zipIdx.foldl (fun cs (c, j) => cs.setIfInBounds (off + j) c) cells).size = n := by
      have := congrArg List.length e2
      simp only [Array.length_toList] at this
      rw [this, vy _ _ _ (by simp; omega)]
      simpa using h1
    have hrep : RepAL h m (fun j => ((a.eval x).cells.zipIdx.foldl (fun cs (c, j) => cs.setIfInBounds (off + j) c) cells)[j]?) 0 (yP cs off (ρ x).cells) := by
      have := ze9 (vs := cells.toList) (us := (a.eval x).cells.toList) (cs := cs) (xs := (ρ x).cells) (off := off) (by simp; omega) (by simp; omega) (by omega) (by simpa using H) (by simpa using c2)
      refine zgv (fun j u hu => ?_) this
      rw [← e2] at hu
      simpa using hu
    obtain ⟨cells', k1, k2, k3, k4⟩ := zd5 hp' (fun z hz => hr z (by simp [hz])) hsz hlen hrep
    refine ⟨cells', ?_, k2, k3, k4⟩
    simp only [List.map_cons, Instr.fill, hpl]
    have hc : ¬ ((a.eval x).cells.size ≠ (ρ x).cells.length || off + (a.eval x).cells.size > cells.size) = true := by simp; omega
    rw [if_neg hc]
    exact k1
theorem zgR {fields : Array Field} {sizes : List Nat} (hs : fields.toList.map (fun f => (P.info? f.type).map (·.size)) = sizes.map some) : (fields.mapM fun f => do pure (f.offset, ← sizeOf f.type) : Sem _).run P w = .ok ((fields.toList.map (·.offset)).zip sizes).toArray w := by
  rw [Array.mapM_eq_mapM_toList]
  have key : ∀ (l : List Field) (ss : List Nat), l.map (fun f => (P.info? f.type).map (·.size)) = ss.map some → (l.mapM fun f => do pure (f.offset, ← sizeOf f.type) : Sem _).run P w = .ok ((l.map (·.offset)).zip ss) w := by
    intro l
    induction l with
    | nil => intro ss hs; cases ss <;> simp at hs ⊢
    | cons f l ih =>
      intro ss hs
      cases ss with
      | nil => simp at hs
      | cons s ss =>
        simp only [List.map_cons, List.cons.injEq] at hs
        obtain ⟨i, hi, e⟩ := Option.map_eq_some_iff.1 hs.1
        have := ih ss hs.2
        simp [List.mapM_cons, sizeOf, typeInfo, hi, e] at this ⊢
        rw [this]
        simp
  rw [Sem.run_map, key fields.toList sizes hs]
  rfl
theorem zba {t : TypeId} {parts : Array (Nat × Operand)} {fields : Array Field} {sizes : List Nat} {size bytes : Nat} {z : Value} {qs : List (Nat × AV)} (ho : o.op = .build t parts) (tu : TyU P t (.struct fields)) (ti : TyI P t size bytes z) (hs : fields.toList.map (fun f => (P.info? f.type).map (·.size)) = sizes.map some) (hz : z.cells.size = size) (hz1 : ∀ v ∈ z.cells.toList, v.oneCell' = true)
    (hp : PartsOK (fun i => ((fields.toList.map (·.offset)).zip sizes)[i]?) ρ size parts.toList qs) : OpT P o ρ (StL.get []) (zcN (zev (z.cells.toList.map ke) qs)) (StL.get []) [] :=
  zY fun h m A w _ hrep => by
    have hpl := zgR (P := P) (w := w) hs
    obtain ⟨cells', k1, k2, k3, k4⟩ := zd5 (a := A) (h := h) (m := m) (cells := z.cells) (cs := z.cells.toList.map ke) hp (fun x hx => hrep x.2 (by simp [ho, Op.operands]; exact ⟨x.1, by simpa using hx⟩)) hz (by simpa using hz) (zgi h m _ _ _ (fun j v hv => by simpa using hv) hz1)
    refine ⟨.agg cells', ?_, jD (by omega) k4⟩
    have hfun : (fun x : Nat => (((fields.toList.map (·.offset)).zip sizes).toArray)[x]?) = fun i => ((fields.toList.map (·.offset)).zip sizes)[i]? := by funext i; simp
    have hmap : (parts.map fun (x : Nat × Operand) => (x.1, A.eval x.2)).toList = parts.toList.map fun p => (p.1, A.eval p.2) := by simp
    simp only [execOp, ho, Instr.build, Sem.run_bind, yv ti, Result.andThen_ok, run_underlying tu.h, hpl]
    rw [hfun, hmap, k1]
    rfl
end
end Go.AL
set_option linter.unusedSimpArgs false
namespace Go.AL
open Go Go.RowKit
section
variable {P : Program} {o : Oper} {ρ : Operand → AV} {h : Heap} {m : zQ} {w : World}
theorem xM {g : Nat → Option Value} {sz : Nat} : ∀ {es : List T} {o : Nat}, (∀ i e, es[i]? = some e → e.cells.length = sz ∧ RepL h g (o + i * sz) e.cells) → RepEs h g o sz es
  | [], _, _ => by simp [RepEs]
  | e :: es, o, H => by
    rw [yU]
    refine ⟨by simpa using H 0 e rfl, xM fun i e' he => ?_⟩
    have := H (i + 1) e' (by simpa using he)
    rwa [show o + (i + 1) * sz = o + sz + i * sz from by rw [Nat.add_mul]; omega] at this
theorem ji {g : Nat → Option Value} {sz : Nat} : ∀ {es : List T} {o : Nat}, (∀ e ∈ es, e.cells.length = sz) → RepL h g o (es.flatMap T.cells) → RepEs h g o sz es
  | [], _, _, _ => by simp [RepEs]
  | e :: es, o, hl, H => by
    rw [List.flatMap_cons, zgj] at H
    rw [yU]
    have he := hl e (by simp)
    exact ⟨⟨he, H.1⟩, ji (fun x hx => hl x (by simp [hx])) (by rw [← he]; exact H.2)⟩
theorem kL {t elem : TypeId} {len : Nat} {parts : Array (Nat × Operand)} {sz bytes : Nat} {z : Value} {qs : List (Nat × AV)} {es : List T} (id : Id) (ho : o.op = .buildSlice t len parts) (tu : TyU P t (.slice elem)) (ti : TyI P elem sz bytes z) (hz : z.cells.size = sz) (hsz : 0 < sz) (hz1 : ∀ v ∈ z.cells.toList, v.oneCell' = true) (hlen : len * sz ≤ 16777216)
    (hp : PartsOK (fun i => some (i * sz, sz)) ρ (len * sz) parts.toList qs) (hq : zev (List.replicate (len * sz) .junk) qs = (es.flatMap T.cells).map AV.t) (hes : es.length = len) (hel : ∀ e ∈ es, e.cells.length = sz) :
    OpT P o ρ (StL.get []) (.row id) (StL.get [(id, .slt elem sz es)]) [id] := by
  refine OpT.of ?_
  intro h m a w hs hr K Q hK
  have hcells : ∀ j, j < len * sz → ∃ u, ((Array.range (len * sz)).map (z.cells[· % z.cells.size]!))[j]? = some u ∧ u.oneCell' = true := fun j hj => by
    refine ⟨_, by simp [hj]; rfl, ?_⟩
    have hlt : j % z.cells.size < z.cells.size := Nat.mod_lt _ (by omega)
    have : z.cells[j % z.cells.size]! = z.cells[j % z.cells.size] := by simp [hlt]
    rw [this]
    exact hz1 _ (by simp)
  have hjunk : ∀ n q, q + n ≤ len * sz → RepAL h m (fun j => ((Array.range (len * sz)).map (z.cells[· % z.cells.size]!))[j]?) q (List.replicate n .junk) := by
    intro n
    induction n with
    | zero => intro q _; simp [RepAL]
    | succ n ih =>
      intro q hq
      rw [List.replicate_succ]
      simp only [RepAL]
      obtain ⟨u, h1, h2⟩ := hcells q (by omega)
      exact ⟨⟨u, h1, h2, by simp [RepA]⟩, ih (q + 1) (by omega)⟩
  obtain ⟨cells', k1, k2, k3, k4⟩ := zd5 (a := a) (h := h) (m := m) (cells := (Array.range (len * sz)).map (z.cells[· % z.cells.size]!)) (cs := List.replicate (len * sz) .junk) hp (fun x hx => hr x.2 (by simp [ho, Op.operands]; exact ⟨x.1, by simpa using hx⟩)) (by simp) (by simp) (hjunk _ 0 (by omega))
  rw [hq] at k4
  have hrow : jA (w.alloc (.cells cells' elem)) elem sz (.slice (some ⟨w.heap.size, 0, none⟩) len len) es.length cells'.toList := by
    refine ⟨by simp [k2, hes], .inr ⟨w.heap.size, len, cells', 0, 0, by rw [hes], vk w _, .inl (Nat.le_refl _), by omega, ?_, k2, ?_⟩⟩
    · have : len ≤ len * sz := Nat.le_mul_of_pos_right _ hsz
      unfold maxLen; omega
    · rw [hes, ← k2]
      have : cells'.size = cells'.toList.length := by simp
      rw [this, List.take_length]
  obtain ⟨s1, s2⟩ := zaf (m := m) hs.imm (vj w (.cells cells' elem)) (id := id) (v := .slice (some ⟨w.heap.size, 0, none⟩) len len) rfl (row := .slt elem sz es)
    ⟨cells'.toList, by rw [zu]; exact hrow, by simpa using ji hel (kr k4)⟩
  have hmap : (parts.map fun (x : Nat × Operand) => (x.1, a.eval x.2)).toList = parts.toList.map fun p => (p.1, a.eval p.2) := by simp
  have hrun : (execOp a.eval o).run P w = .ok (.value (.slice (some ⟨w.heap.size, 0, none⟩) len len)) (w.alloc (.cells cells' elem)) := by
    have hl : ¬ (len * sz > 2 ^ 24) := by omega
    simp only [execOp, ho, Instr.buildSlice, Sem.run_bind, run_underlying tu.h, Result.andThen_ok, y4 ti, hl, if_false]
    by_cases h0 : len * sz = 0
    · rw [if_pos h0]
      have hh : Array.range (len * sz) = #[] := by rw [h0]; rfl
      simp only [hh, Array.map_empty] at k1
      simp only [Sem.run_pure, Result.andThen_ok, hmap, hh, Array.map_empty, k1]
      simp [newRow]
    · rw [if_neg h0]
      simp only [Sem.run_bind, yv ti, Sem.run_pure, Result.andThen_ok, hmap, k1]
      simp [newRow]
  unfold Oper.wp
  rw [hrun]
  exact hK _ h _ _ ⟨by rw [zu], rfl⟩ s1 s2 fun _ => zU
end
end Go.AL
set_option linter.unusedSimpArgs false
namespace Go.AL
open Go Go.RowKit
section
variable {P : Program} {o : Oper} {ρ : Operand → AV} {h : Heap} {m : zQ} {w : World}
structure Grew (w w' : World) (v v' : Value) : Prop where
  os : w'.os = w.os
  tape : w'.tape = w.tape
  output : w'.output = w.output
  size : w.heap.size ≤ w'.heap.size
  other : ∀ k, k < w.heap.size → blk v ≠ some k → w'.heap[k]? = w.heap[k]?
  at_ : blk v' = blk v ∨ blk v' = some w.heap.size
theorem ziw {t t2 ty elem : TypeId} {sz bytes : Nat} {z : Value} {d2 : TypeDesc} (tu : TyU P t (.slice elem)) (tu2 : TyU P t2 d2) (hd2 : d2 = .string ∨ ∃ e, d2 = .slice e) (ti : TyI P elem sz bytes z) (hz : z.cells.size = sz) (hsz : 0 < sz) {v x : Value} {n mm : Nat} {xs news : List Value} (hown : jA w elem sz v n xs)
    (hl : news.length = mm * sz) (h1 : ∀ u ∈ news, u.oneCell' = true) (hlen : ∀ w' : World, (Builtin.lenOf x).run P w' = .ok mm w') (hfirst : ∀ w' : World, w'.heap = w.heap → (Builtin.firstCells sz mm x).run P w' = .ok news.toArray w') (h63 : n + mm ≤ maxLen) (hbytes : (n + mm) * bytes ≤ 140737488355328) :
    ∃ v' w', (Builtin.append_ #[t, t2] ty #[v, x]).run P w = .ok v' w' ∧ jA w' elem sz v' (n + mm) (xs ++ news) ∧ Grew w w' v v' ∧ v'.oneCell' = true := by
  obtain ⟨i, hi, hisz, hiby, hiz⟩ := ti.get
  have hsmall : n + mm ≤ 9223372036854775807 := by simpa [maxLen] using h63
  have hlenx : (xs ++ news).length = (n + mm) * sz := by rw [List.length_append, hown.1, hl, Nat.add_mul]
  have hmatch : (match d2 with | .int _ => true | _ => false) = false := by rcases hd2 with rfl | ⟨e, rfl⟩ <;> rfl
  have grow : ∀ (base : Option Addr) (cap : Nat), v = .slice base n cap → cap < n + mm → (∀ w' : World, w'.heap = w.heap → (Builtin.firstCells sz n v).run P w' = .ok xs.toArray w') →
      ∃ v' w', (Builtin.append_ #[t, t2] ty #[v, x]).run P w = .ok v' w' ∧ jA w' elem sz v' (n + mm) (xs ++ news) ∧ Grew w w' v v' ∧ v'.oneCell' = true := by
    intro base cap hv hlt hfo
    have hn : ¬ (n + mm ≤ cap) := by omega
    have h63' : ¬ (9223372036854775807 < ((n : Int) + (mm : Int))) := by omega
    have h48' : ¬ (281474976710656 < Builtin.nextslicecap (n + mm) cap * i.bytes) := by
      have := growslice_fits (need := n + mm) (old := cap) (bytes := i.bytes) (by omega) (by rw [hiby]; exact hbytes)
      omega
    have hge := grownCap_ge w (n + mm) cap elem
    have hcm := grownCap_le_maxLen w (n + mm) cap elem h63
    have hf := hfirst w.drew rfl
    have hfo' := hfo w.drew rfl
    subst hv
    subst hisz
    refine ⟨.slice (some ⟨w.heap.size, 0, none⟩) (n + mm) (grownCap w (n + mm) cap elem), w.drew.alloc (.cells (xs.toArray ++ news.toArray ++ Builtin.zeroCells z.cells (grownCap w (n + mm) cap elem - (n + mm))) elem), ?_, ?_, ?_, rfl⟩
    · rcases hd2 with rfl | ⟨e2, rfl⟩
      all_goals
        simp [Builtin.append_, run_underlying tu.h, run_underlying tu2.h, sizeOf, typeInfo, zeroValue, hi, hiz, hlen, hn, h63', h48', Question.forced, hf, hfo', newRow, grownCap]
        congr 2
        apply Array.ext'
        simp [List.append_assoc]
    · refine ⟨hlenx, .inr ⟨w.heap.size, _, _, 0, 0, rfl, heap_alloc_new w.drew _, .inl (Nat.le_refl _), hge, hcm, ?_, ?_⟩⟩
      · simp only [Array.size_append, List.size_toArray, size_zeroCells, hz, hown.1, hl, ← Nat.add_mul]
        congr 1
        omega
      · simp only [Array.toList_append, List.append_assoc]
        rw [← List.append_assoc, ← hlenx]
        exact List.take_left
    · exact ⟨rfl, rfl, rfl, by simp, fun k hk _ => heap_alloc_old w.drew _ hk, .inr rfl⟩
  rcases hown.2 with ⟨rfl, rfl⟩ | ⟨g, cap, cur, lo, hi', rfl, hg, hfz, hnc, hcm, hcs, htake⟩
  · have hx : xs = [] := List.eq_nil_of_length_eq_zero (by simpa using hown.1)
    subst hx
    by_cases hm : mm = 0
    · subst hm
      have hn : news = [] := List.eq_nil_of_length_eq_zero (by simpa using hl)
      subst hn
      have hf := hfirst w rfl
      refine ⟨.slice none 0 0, w, ?_, ⟨by simp, .inl ⟨rfl, rfl⟩⟩, ⟨rfl, rfl, rfl, Nat.le_refl _, fun _ _ _ => rfl, .inl rfl⟩, rfl⟩
      subst hisz
      rcases hd2 with rfl | ⟨e2, rfl⟩
      all_goals simp [Builtin.append_, run_underlying tu.h, run_underlying tu2.h, sizeOf, typeInfo, hi, hlen, hf]
    · exact grow none 0 rfl (by omega) fun w' _ => by simp [Builtin.firstCells]
  · by_cases hroom : n + mm ≤ cap
    · have hfit : n * sz + news.length ≤ cur.size := by rw [hl, hcs, ← Nat.add_mul]; exact Nat.mul_le_mul_right _ hroom
      obtain ⟨w', cur', r1, r2, r3, r4⟩ := xV (P := P) (o := n * sz) news 0 cur w hg hfz (by simpa using hfit) h1
      have hf := hfirst w rfl
      have hsz' : cur'.size = cur.size := by
        have := congrArg List.length r3
        simp only [Array.length_toList] at this
        rw [this, vy _ _ _ (by simpa using hfit)]
        simp
      refine ⟨.slice (some ⟨g, 0, none⟩) (n + mm) cap, w', ?_, ⟨hlenx, .inr ⟨g, cap, cur', lo, hi', rfl, r2, by rw [hsz']; exact hfz, hroom, hcm, by rw [hsz']; exact hcs, ?_⟩⟩, ⟨r4.os, r4.tape, r4.output, by rw [r4.size]; exact Nat.le_refl _, fun k _ hk => r4.other k fun e => hk (by rw [e]; rfl), .inl rfl⟩, rfl⟩
      · subst hisz
        rcases hd2 with rfl | ⟨e2, rfl⟩
        all_goals simp [Builtin.append_, run_underlying tu.h, run_underlying tu2.h, sizeOf, typeInfo, hi, hlen, hroom, hf, wu, r1]
      · rw [r3]
        unfold yP
        simp only [Nat.add_zero]
        rw [htake, ← hlenx]
        exact List.take_left
    · refine grow (some ⟨g, 0, none⟩) cap rfl (by omega) fun w' hw' => ?_
      refine run_firstCells_some (P := P) w' sz n ⟨g, 0, none⟩ n cap xs hown.1 fun j u hu => ?_
      rw [wu]
      have := zbe (w := w) hown (b := g) rfl hu
      simp [World.cell?, hw'] at this ⊢
      exact this
def u8T (b : UInt8) : T := .int .u8 (b.toNat : Int)
def yW (s : ByteArray) : List T := s.data.toList.map u8T
inductive Src (P : Program) (sz : Nat) : AV → TypeDesc → StL → List T → Prop
  | sl {ys : List T} {e : TypeId} : Src P sz (.t (.sl sz ys)) (.slice e) [] ys
  | nil {e : TypeId} : Src P sz (.t .nilsl) (.slice e) [] []
  | row {id : Id} {e e' : TypeId} {ys : List T} : Src P sz (.row id) (.slice e) [(id, .slt e' sz ys)] ys
  | str {s : ByteArray} (h1 : sz = 1) : Src P sz (.t (.str s)) .string [] (yW s)
  | view {id : Id} {e aty : TypeId} {n c : Nat} {ys : List T} (h1 : n ≤ ys.length) : Src P sz (.view id n c) (.slice e) [(id, .arr aty sz ys)] (ys.take n)
theorem Src.desc {sz : Nat} {x : AV} {d : TypeDesc} {R2 : StL} {ys : List T} (H : Src P sz x d R2 ys) : d = .string ∨ ∃ e, d = .slice e := by
  cases H with
  | str => exact .inl rfl
  | _ => exact .inr ⟨_, rfl⟩
theorem Src.clean {sz : Nat} {x : AV} {d : TypeDesc} {R2 : StL} {ys : List T} (H : Src P sz x d R2 ys) (N : List Id) : ∀ y row, StL.get R2 y = some row → row.clean N = true := fun y row hy => by
  cases H with
  | row => simp only [StL.get] at hy; split at hy <;> cases hy; rfl
  | view => simp only [StL.get] at hy; split at hy <;> cases hy; rfl
  | _ => simp [StL.get] at hy
theorem zei {x : Value} {sz mm c : Nat} {A : Option Addr} {news : List Value} (hx : x = .slice A mm c) (hl : news.length = mm * sz) (hA : mm ≠ 0 → ∃ b q, A = some ⟨b, q, none⟩ ∧ ∀ j u, news[j]? = some u → w.cell? ⟨b, q + j, none⟩ = some u) : ∀ w' : World, w'.heap = w.heap → (Builtin.firstCells sz mm x).run P w' = .ok news.toArray w' := by
  intro w' hw'
  subst hx
  by_cases h0 : mm = 0
  · subst h0
    have : news = [] := List.eq_nil_of_length_eq_zero (by simpa using hl)
    subst this
    cases A with
    | none => simp [Builtin.firstCells]
    | some a => simp [Builtin.firstCells, loadCells, loadCellsFrom]
  · obtain ⟨b, q, rfl, hc⟩ := hA h0
    refine run_firstCells_some (P := P) w' sz mm ⟨b, q, none⟩ mm c news hl fun j u hu => ?_
    rw [wu]
    have := hc j u hu
    simp [World.cell?, hw'] at this ⊢
    exact this
theorem qe {g : Nat → Option Value} {sz : Nat} : ∀ {es : List T} {q : Nat}, RepEs h g q sz es → ∃ vs : List Value, vs.length = es.length * sz ∧ (∀ j v, vs[j]? = some v → g (q + j) = some v) ∧ (∀ u ∈ vs, u.oneCell' = true) ∧ RepEs h (fun j => vs[j]?) 0 sz es
  | [], q, _ => ⟨[], by simp, by simp, by simp, by simp [RepEs]⟩
  | e :: es, q, H => by
    rw [yU] at H
    obtain ⟨us, a1, a2, a3⟩ := zdo H.1.2
    obtain ⟨vs, b1, b2, b3, b4⟩ := qe H.2
    refine ⟨us ++ vs, by rw [List.length_append, a1, b1, H.1.1, List.length_cons, Nat.add_mul]; omega, fun j v hv => ?_, fun u hu => ?_, ?_⟩
    · rw [List.getElem?_append] at hv
      split at hv
      · exact a2 j v hv
      · rename_i hj
        rw [a1, H.1.1] at hv hj
        have := b2 _ v hv
        rwa [show q + sz + (j - sz) = q + j from by omega] at this
    · rcases List.mem_append.1 hu with hu | hu
      · obtain ⟨j, hj, rfl⟩ := List.getElem_of_mem hu
        obtain ⟨u', k1, k2⟩ := qD (m := fun _ => undef) (ku a3) j (by simpa [a1] using hj)
        simp only [Nat.zero_add] at k1
        rw [List.getElem?_eq_getElem hj] at k1
        cases k1
        exact k2
      · exact b3 u hu
    · rw [yU]
      refine ⟨⟨H.1.1, zat (g := fun j => us[j]?) (fun j _ hj => ?_) a3⟩, ?_⟩
      · show (us ++ vs)[j]? = us[j]?
        rw [List.getElem?_append, if_pos (by omega)]
      · have := b4
        rw [Nat.zero_add]
        have hsh : RepEs h (fun j => (us ++ vs)[j]?) (0 + sz) sz es := by
          refine xM fun i e' he => ?_
          obtain ⟨c1, c2⟩ := wv b4 he
          refine ⟨c1, ?_⟩
          have := zak (g := fun j => vs[j]?) (g' := fun j => (us ++ vs)[j]?) (d := sz) (fun j u hu => by
            show (us ++ vs)[j + sz]? = some u
            rw [List.getElem?_append, if_neg (by rw [a1, H.1.1]; omega)]
            rw [a1, H.1.1]
            simpa using hu) c2
          rwa [show 0 + i * sz + sz = 0 + sz + i * sz from by omega] at this
        simpa using hsh
theorem zno {v : Value} {e : TypeId} {sz n : Nat} {xs : List Value} (H : jA w e sz v n xs) : ∃ A c, v = .slice A n c ∧ n ≤ maxLen := by
  rcases H.2 with ⟨rfl, rfl⟩ | ⟨g, cap, cur, lo, hi, rfl, _, _, h1, h2, _⟩
  · exact ⟨none, 0, rfl, Nat.zero_le _⟩
  · exact ⟨_, cap, rfl, Nat.le_trans h1 h2⟩
theorem zke {R2 : StL} {R : zG} {sz : Nat} {x : AV} {d : TypeDesc} {ys : List T} {v : Value} (hsrc : Src P sz x d R2 ys) (hs : Sim h m R w) (hR : ∀ id row, StL.get R2 id = some row → R id = some row) (hv : RepA h m v x) :
    ∃ news : List Value, (∀ w' : World, (Builtin.lenOf v).run P w' = .ok ys.length w') ∧ news.length = ys.length * sz ∧ (∀ u ∈ news, u.oneCell' = true) ∧ (∀ w' : World, w'.heap = w.heap → (Builtin.firstCells sz ys.length v).run P w' = .ok news.toArray w') ∧ RepEs h (fun j => news[j]?) 0 sz ys := by
  have pack : (∃ (A : Option Addr) (c : Nat) (news : List Value), v = .slice A ys.length c ∧ news.length = ys.length * sz ∧ (∀ u ∈ news, u.oneCell' = true) ∧ (ys.length ≠ 0 → ∃ b q, A = some ⟨b, q, none⟩ ∧ ∀ j u, news[j]? = some u → w.cell? ⟨b, q + j, none⟩ = some u) ∧ RepEs h (fun j => news[j]?) 0 sz ys) →
      ∃ news : List Value, (∀ w' : World, (Builtin.lenOf v).run P w' = .ok ys.length w') ∧ news.length = ys.length * sz ∧ (∀ u ∈ news, u.oneCell' = true) ∧ (∀ w' : World, w'.heap = w.heap → (Builtin.firstCells sz ys.length v).run P w' = .ok news.toArray w') ∧ RepEs h (fun j => news[j]?) 0 sz ys := by
    rintro ⟨A, c, news, e1, e2, e3, e4, e5⟩
    exact ⟨news, fun w' => by rw [e1]; simp [Builtin.lenOf], e2, e3, zei e1 e2 e4, e5⟩
  cases hsrc with
  | str h1 =>
    rename_i s
    subst h1
    simp only [RepA, RepT] at hv
    subst hv
    have hlen : (yW s).length = s.size := by simp [yW]
    refine ⟨s.data.toList.map fun b => .int .u8 b.toNat, fun w' => by simp [Builtin.lenOf, hlen], by simp [yW], fun u hu => ?_, fun w' _ => ?_, ?_⟩
    · obtain ⟨b, _, rfl⟩ := List.mem_map.1 hu
      rfl
    · rw [hlen]
      have : s.extract 0 s.size = s := by simp
      simp only [Builtin.firstCells, this, Sem.run_pure]
      congr 1
      apply Array.ext'
      simp
    · refine xM fun i e he => ?_
      simp only [yW, List.getElem?_map, Option.map_eq_some_iff] at he
      obtain ⟨b, hb, rfl⟩ := he
      refine ⟨rfl, ?_⟩
      simp only [T.cells, u8T, RepL, RepT, and_true]
      exact ⟨_, by simp [hb], rfl, rfl⟩
  | sl =>
    refine pack ?_
    simp only [RepA, RepT] at hv
    obtain ⟨A, n, c, e1, e2, e3, e4, e5⟩ := hv
    subst e2
    by_cases h0 : ys.length = 0
    · have : ys = [] := List.eq_nil_of_length_eq_zero h0
      subst this
      exact ⟨A, c, [], e1, by simp, by simp, fun h => absurd rfl h, by simp [RepEs]⟩
    · obtain ⟨b, q, rfl, e6⟩ := e5 h0
      obtain ⟨vs, k1, k2, k3, k4⟩ := qe e6
      exact ⟨_, c, vs, e1, k1, k3, fun _ => ⟨b, q, rfl, fun j u hu => qg hs (k2 j u hu)⟩, k4⟩
  | nil =>
    refine pack ?_
    simp only [RepA, RepT] at hv
    exact ⟨none, 0, [], hv, by simp, by simp, fun h => absurd rfl h, by simp [RepEs]⟩
  | row =>
    refine pack ?_
    rename_i id e e'
    obtain ⟨xs, h1, h2⟩ := hs.rows id _ (hR id _ (yz id _))
    have hv' : v = m id := hv.1
    obtain ⟨A, c, e1, e2⟩ := zno h1
    obtain ⟨vs, k1, k2, k3, k4⟩ := qe h2
    refine ⟨A, c, vs, by rw [hv', e1], k1, k3, fun h0 => ?_, k4⟩
    rcases h1.2 with ⟨_, hn⟩ | ⟨g, cap, cur, lo, hi, hv2, _⟩
    · exact absurd hn h0
    · rw [e1] at hv2
      injection hv2 with hA
      refine ⟨g, 0, hA, fun j u hu => ?_⟩
      have := zbe (w := w) h1 (b := g) (by rw [e1, hA]; rfl) (by simpa using k2 j u hu)
      simpa using this
  | view hn =>
    refine pack ?_
    rename_i id e aty n c zs
    obtain ⟨b, arr, q1, q2, q3, q4⟩ := hs.rows id _ (hR id _ (yz id _))
    obtain ⟨b', e1, e2⟩ := hv
    rw [q1] at e1
    cases e1
    have e2 : v = .slice (some ⟨b, 0, none⟩) n c := e2
    have hl : (zs.take n).length = n := by rw [List.length_take]; omega
    obtain ⟨vs, k1, k2, k3, k4⟩ := qe (zah (k := n) q4)
    refine ⟨_, c, vs, by rw [hl]; exact e2, k1, k3, fun h0 => ⟨b, 0, rfl, fun j u hu => ?_⟩, k4⟩
    rw [yI q2]
    have := k2 j u hu
    simpa using this
theorem j9 {s x : Operand} {t t2 elem : TypeId} {id : Id} {sz bytes : Nat} {z : Value} {xs ys : List T} {d2 : TypeDesc} {R2 : StL} (id' : Id) (ho : o.op = .call { callee := .builtin .append, args := #[s, x], argTypes := #[t, t2] }) (hs1 : ρ s = .row id) (tu : TyU P t (.slice elem)) (ti : TyI P elem sz bytes z) (tu2 : TyU P t2 d2) (hsrc : Src P sz (ρ x) d2 R2 ys) (hz : z.cells.size = sz) (hsz : 0 < sz)
    (hid : id ∉ R2.ids) (hid' : id' ∉ R2.ids) (hb : (xs.length + ys.length) * bytes ≤ 140737488355328) (hm : xs.length + ys.length ≤ 9223372036854775807) :
    OpT P o ρ (StL.get ((id, .slt elem sz xs) :: R2)) (.row id') (StL.get ((id', .slt elem sz (xs ++ ys)) :: R2)) [id'] := by
  refine OpT.of ?_
  intro h m a w hs hr K Q hK
  have r1 := hr s (by simp [ho, Op.operands, Call.operands])
  have r2 := hr x (by simp [ho, Op.operands, Call.operands])
  rw [hs1] at r1
  have hget : StL.get ((id, .slt elem sz xs) :: R2) id = some (.slt elem sz xs) := by simp [StL.get]
  have hR2 : ∀ x row, StL.get R2 x = some row → StL.get ((id, .slt elem sz xs) :: R2) x = some row := fun x row hx => by
    have : id ≠ x := fun e => hid (e ▸ StL.mem_ids hx)
    simp [StL.get, this, hx]
  obtain ⟨us, k1, k2⟩ := hs.rows id _ hget
  obtain ⟨news, e1, e2, e3, e4, e5⟩ := zke hsrc hs hR2 r2
  have hd2 : d2 = .string ∨ ∃ e, d2 = .slice e := hsrc.desc
  obtain ⟨v', w', q1, q2, q3, q4⟩ := ziw (P := P) (ty := o.type) tu tu2 hd2 ti hz hsz (v := m id) (x := a.eval x) k1 e2 e3 e1 e4 (by unfold maxLen; exact hm) hb
  have hrun : (execOp a.eval o).run P w = .ok (.value v') w' := by
    simp only [execOp, ho, resolve, invoke, builtin, Sem.run_bind, Sem.run_pure, Result.andThen_ok, List.map_toArray, List.map_cons, List.map_nil]
    rw [r1.1, q1]
    rfl
  let m' := zV m id' v'
  have other : ∀ x, x ≠ id' → m' x = m x := fun x hx => by simp [m', zV, hx]
  have hblk2 : ∀ x row b, StL.get R2 x = some row → blk (m x) = some b → blk (m id) ≠ some b ∧ b < w.heap.size ∧ h b = none := fun x row b hx hb' => by
    have hne : id ≠ x := fun e => hid (e ▸ StL.mem_ids hx)
    refine ⟨fun he => hne (hs.inj id x _ _ b hget (hR2 x row hx) he hb'), (hs.sep x row b (hR2 x row hx) hb').2, (hs.sep x row b (hR2 x row hx) hb').1⟩
  have himm : ∀ b ob, h b = some ob → w'.heap[b]? = some ob := fun b ob hb' => by
    have h1 := hs.imm b ob hb'
    have hlt : b < w.heap.size := (Array.getElem?_eq_some_iff.1 h1).1
    rw [q3.other b hlt fun he => by rw [(hs.sep id _ b hget he).1] at hb'; cases hb']
    exact h1
  have get_cons : ∀ x row, StL.get ((id', .slt elem sz (xs ++ ys)) :: R2) x = some row → (x = id' ∧ row = .slt elem sz (xs ++ ys)) ∨ (x ≠ id' ∧ StL.get R2 x = some row) := fun x row hx => by
    simp only [StL.get] at hx
    split at hx
    · rename_i e; cases hx; exact .inl ⟨e.symm, rfl⟩
    · rename_i e; exact .inr ⟨fun h => e h.symm, hx⟩
  have hm'id : m' id' = v' := by simp [m', zV]
  have hR2clean : ∀ x row, StL.get R2 x = some row → row.clean [id'] = true := hsrc.clean [id']
  have hsim : Sim h m' (StL.get ((id', .slt elem sz (xs ++ ys)) :: R2)) w' := by
    refine ⟨himm, ?_, ?_, ?_⟩
    · intro x row hx
      rcases get_cons x row hx with ⟨rfl, rfl⟩ | ⟨hne, hx2⟩
      · refine ⟨us ++ news, by rw [hm'id]; simpa using q2, ?_⟩
        rw [zfN]
        refine ⟨zbx (g := fun j => us[j]?) (fun j _ hj => ?_) k2, ?_⟩
        · show (us ++ news)[j]? = us[j]?
          rw [List.getElem?_append, if_pos (by rw [k1.1]; omega)]
        · refine xM fun i e' he => ?_
          obtain ⟨c1, c2⟩ := wv e5 he
          refine ⟨c1, ?_⟩
          have := zak (g := fun j => news[j]?) (g' := fun j => (us ++ news)[j]?) (d := xs.length * sz) (fun j u hu => by
            show (us ++ news)[j + xs.length * sz]? = some u
            rw [List.getElem?_append, if_neg (by rw [k1.1]; omega)]
            rw [k1.1]
            simpa using hu) c2
          rwa [show 0 + i * sz + xs.length * sz = 0 + xs.length * sz + i * sz from by omega] at this
      · exact SimRow.mono (N := [id']) (fun _ _ hu => hu) (fun y hy => other y (by simpa using hy)) (by simpa using hne) (hR2clean x row hx2) (fun b hb' => by
          obtain ⟨c1, c2, c3⟩ := hblk2 x row b hx2 hb'
          exact q3.other b c2 c1) (hs.rows x row (hR2 x row hx2))
    · intro x row b hx hb'
      rcases get_cons x row hx with ⟨rfl, rfl⟩ | ⟨hne, hx2⟩
      · rw [hm'id] at hb'
        rcases q3.at_ with hat | hat
        · rw [hat] at hb'
          obtain ⟨c1, c2⟩ := hs.sep id _ b hget hb'
          exact ⟨c1, Nat.lt_of_lt_of_le c2 q3.size⟩
        · rw [hat] at hb'
          cases hb'
          refine ⟨?_, ?_⟩
          · cases e : h w.heap.size with
            | none => rfl
            | some ob =>
              have := (Array.getElem?_eq_some_iff.1 (hs.imm _ _ e)).1
              omega
          · rcases q2.2 with ⟨hv, _⟩ | ⟨g, cap, cur, lo, hi, hv, hg, _⟩
            · rw [hv] at hat; simp [blk] at hat
            · rw [hv] at hat
              simp [blk] at hat
              rw [hat] at hg
              exact (Array.getElem?_eq_some_iff.1 hg).1
      · rw [other x hne] at hb'
        obtain ⟨c1, c2, c3⟩ := hblk2 x row b hx2 hb'
        exact ⟨c3, Nat.lt_of_lt_of_le c2 q3.size⟩
    · intro x x' r r' b hx hx' hb1 hb2
      have clash : ∀ y row, y ≠ id' → StL.get R2 y = some row → blk (m' y) = some b → blk (m' id') = some b → False := fun y row hne hy h1 h2 => by
        rw [other y hne] at h1
        rw [hm'id] at h2
        obtain ⟨c1, c2, c3⟩ := hblk2 y row b hy h1
        rcases q3.at_ with hat | hat
        · rw [hat] at h2; exact c1 h2
        · rw [hat] at h2; cases h2; omega
      rcases get_cons x r hx with ⟨rfl, rfl⟩ | ⟨hne, hx2⟩ <;> rcases get_cons x' r' hx' with ⟨rfl, rfl⟩ | ⟨hne', hx2'⟩
      · rfl
      · exact (clash x' r' hne' hx2' hb2 hb1).elim
      · exact (clash x r hne hx2 hb1 hb2).elim
      · rw [other x hne] at hb1
        rw [other x' hne'] at hb2
        exact hs.inj x x' r r' b (hR2 x r hx2) (hR2 x' r' hx2') hb1 hb2
  have hfoot : Foot h m (StL.get ((id, .slt elem sz xs) :: R2)) w h m' (StL.get ((id', .slt elem sz (xs ++ ys)) :: R2)) w' := by
    refine ⟨q3.os, q3.tape, q3.output, q3.size, fun b hb' hn => ⟨q3.other b hb' (hn id _ hget), rfl⟩, fun _ _ hu => hu, ?_⟩
    intro x row b hx hb'
    rcases get_cons x row hx with ⟨rfl, rfl⟩ | ⟨hne, hx2⟩
    · rw [hm'id] at hb'
      rcases q3.at_ with hat | hat
      · rw [hat] at hb'; exact .inr ⟨id, _, hget, hb'⟩
      · rw [hat] at hb'; cases hb'; exact .inl (Nat.le_refl _)
    · rw [other x hne] at hb'
      exact .inr ⟨x, row, hR2 x row hx2, hb'⟩
  unfold Oper.wp
  rw [hrun]
  exact hK v' h m' w' ⟨by rw [hm'id], q4⟩ hsim hfoot fun x hx => other x (by simpa using hx)
end
end Go.AL
set_option linter.unusedSimpArgs false
namespace Go.AL
open Go Go.RowKit
section
variable {P : Program} {o : Oper} {ρ : Operand → AV} {h : Heap} {m : zQ} {w : World}
def T.num : T → Int
  | .int _ n => n
  | _ => 0
def zbi (es : List T) : ByteArray := strOfNums (es.map T.num)
def znU (es : List T) : Prop := ∀ e ∈ es, e = .int .u8 e.num
theorem zgT {src dst elem : TypeId} {x : Operand} {s : ByteArray} (id : Id) (ho : o.op = .convert src dst x) (hx : ρ x = .t (.str s)) (ts : TyU P src .string) (td : TyU P dst (.slice elem)) (te : TyU P elem (.int .u8)) (hl : s.size ≤ 9223372036854775807) :
    OpT P o ρ (StL.get []) (.row id) (StL.get [(id, .slt elem 1 (yW s))]) [id] := by
  refine OpT.of ?_
  intro h m a w hs hr K Q hK
  have r1 := hr x (by simp [ho, Op.operands])
  rw [hx] at r1
  simp only [RepA, RepT] at r1
  have hrun : (execOp a.eval o).run P w = .ok (.value (.slice (some ⟨w.heap.size, 0, none⟩) s.size (grownCap w s.size 0 elem))) (Lib.bytesWorld w elem s) := by
    simp [execOp, ho, r1, Lib.run_convert_string_bytes w src dst elem s ts.h td.h te.h]
  have hlen : (yW s).length = s.size := by simp [yW]
  have hge := grownCap_ge w s.size 0 elem
  have hcsz : (Lib.bytesCells w elem s).size = grownCap w s.size 0 elem := by
    simp [Lib.bytesCells]
    have : s.data.size = s.size := rfl
    omega
  have hrow : SimRow h (zV m id (.slice (some ⟨w.heap.size, 0, none⟩) s.size (grownCap w s.size 0 elem))) (Lib.bytesWorld w elem s) id (.slt elem 1 (yW s)) := by
    refine ⟨(Lib.bytesCells w elem s).toList.take s.size, ?_, ?_⟩
    · rw [zu, hlen]
      refine ⟨by simp [hcsz]; omega, .inr ⟨w.heap.size, _, Lib.bytesCells w elem s, _, _, rfl, Lib.bytesWorld_at_new w elem s, .inr (Nat.le_refl _), hge, grownCap_le_maxLen w _ 0 elem (by unfold maxLen; exact hl), by rw [hcsz]; simp, by simp⟩⟩
    · refine xM fun i e he => ?_
      simp only [yW, List.getElem?_map, Option.map_eq_some_iff] at he
      obtain ⟨b, hb, rfl⟩ := he
      have hi : i < s.size := by
        have := (List.getElem?_eq_some_iff.1 hb).1
        simpa using this
      refine ⟨rfl, ?_⟩
      simp only [T.cells, u8T, RepL, RepT, and_true]
      refine ⟨.int .u8 b.toNat, ?_, rfl, rfl⟩
      have hc := Lib.bytesWorld_cell w elem s i hi
      have hd : s.data.toList.getD i 0 = b := by simp [List.getD_eq_getElem?_getD, hb]
      rw [hd] at hc
      simp [World.cell?, Lib.bytesWorld_at_new] at hc
      simp [List.getElem?_take, hi, hc]
  obtain ⟨s1, s2⟩ := zaf (m := m) hs.imm (w' := Lib.bytesWorld w elem s) ⟨rfl, rfl, rfl, Lib.bytesWorld_size w elem s, fun b hb => Lib.bytesWorld_at_old w elem s b hb⟩ (id := id) (v := .slice (some ⟨w.heap.size, 0, none⟩) s.size (grownCap w s.size 0 elem)) rfl hrow
  unfold Oper.wp
  rw [hrun]
  exact hK _ h _ _ ⟨by rw [zu], rfl⟩ s1 s2 fun _ => zU
theorem zej {es : List T} (hu : znU es) {g : Nat → Option Value} {q : Nat} (H : RepEs h g q 1 es) : ∀ i, i < es.length → g (q + i) = some (.int .u8 ((es.map T.num).getD i 0)) := by
  intro i hi
  have he : es[i]? = some es[i] := List.getElem?_eq_getElem hi
  obtain ⟨k1, k2⟩ := wv H he
  have e1 := hu es[i] (List.getElem_mem hi)
  rw [e1] at k2
  simp only [T.cells, RepL, RepT, and_true, Nat.mul_one] at k2
  obtain ⟨u, h1, _, h2⟩ := k2
  rw [h1, h2]
  simp [List.getD_eq_getElem?_getD, he]
theorem zf4 {src dst elem : TypeId} {x : Operand} {es : List T} {d : TypeDesc} {R2 : StL} (ho : o.op = .convert src dst x) (hsrc : Src P 1 (ρ x) (.slice elem) R2 es) (ts : TyU P src (.slice elem)) (td : TyU P dst .string) (te : TyU P elem (.int .u8)) (hu : znU es) :
    OpT P o ρ (StL.get R2) (.t (.str (zbi es))) (StL.get R2) [] :=
  xX fun h m a w hs hr => by
    have r1 := hr x (by simp [ho, Op.operands])
    refine ⟨.string (zbi es), ?_, by simp [RepA, RepT]⟩
    have fin : ∀ (b q c : Nat), a.eval x = .slice (some ⟨b, q, none⟩) es.length c → (∀ i, i < es.length → w.cell? ⟨b, q + i, none⟩ = some (.int .u8 ((es.map T.num).getD i 0))) → (execOp a.eval o).run P w = .ok (.value (.string (zbi es))) w := fun b q c e hc => by
      have := run_convert_bytes_arg (P := P) w src elem ts.h te.h b q es.length c (es.map T.num) (by simp) hc dst td.h
      simp [execOp, ho, e, this]
      rfl
    have finnil : ∀ c, a.eval x = .slice none es.length c → es.length = 0 → (execOp a.eval o).run P w = .ok (.value (.string (zbi es))) w := fun c e h0 => by
      have : es = [] := List.eq_nil_of_length_eq_zero h0
      subst this
      have := run_convert_bytes_nil (P := P) w src elem ts.h te.h 0 c dst td.h
      simp [execOp, ho, e, this, zbi, strOfNums]
      rfl
    generalize hρ : ρ x = ax at hsrc r1
    cases hsrc with
    | sl =>
      simp only [RepA, RepT] at r1
      obtain ⟨A, n, c, e1, e2, e3, e4, e5⟩ := r1
      subst e2
      by_cases h0 : es.length = 0
      · cases A with
        | none => exact finnil c e1 h0
        | some ad =>
          obtain ⟨b, q, sp⟩ := ad
          have : es = [] := List.eq_nil_of_length_eq_zero h0
          subst this
          simp [execOp, ho, e1, convert, run_underlying ts.h, run_underlying td.h, run_underlying te.h, Conv.bytesToString, loadCells, loadCellsFrom, zbi, strOfNums]
          rfl
      · obtain ⟨b, q, rfl, e6⟩ := e5 h0
        exact fin b q c e1 fun i hi => qg hs (zej hu e6 i hi)
    | nil =>
      simp only [RepA, RepT] at r1
      exact finnil 0 r1 rfl
    | row =>
      rename_i id e'
      obtain ⟨xs, h1, h2⟩ := hs.rows id _ (yz id _)
      have hv : a.eval x = m id := r1.1
      rcases h1.2 with ⟨hv2, h0⟩ | ⟨g, cap, cur, lo, hi, hv2, hg, _⟩
      · exact finnil 0 (by rw [hv, hv2, h0]) h0
      · refine fin g 0 cap (by rw [hv, hv2]) fun i hi => ?_
        have hc := zej hu h2 i hi
        exact zbe (w := w) h1 (b := g) (by rw [hv2]; rfl) (by simpa using hc)
    | view hn =>
      rename_i id aty n c ys
      obtain ⟨b, arr, q1, q2, q3, q4⟩ := hs.rows id _ (yz id _)
      obtain ⟨b', p1, p2⟩ := r1
      rw [q1] at p1
      cases p1
      have p2 : a.eval x = .slice (some ⟨b, 0, none⟩) n c := p2
      have hl : (ys.take n).length = n := by rw [List.length_take]; omega
      refine fin b 0 c (by rw [hl]; exact p2) fun i hi => ?_
      have hc := zej hu (zah (k := n) q4) i hi
      rw [yI q2]
      simpa using hc
theorem zm3 {t : TypeId} {ts : Array TypeId} {x y : Operand} {k k' : IntKind} {a b : Int} (ho : o.op = .call { callee := .builtin .min, args := #[x, y], argTypes := ts }) (hx : ρ x = .t (.int k a)) (hy : ρ y = .t (.int k' b)) :
    OpT P o ρ (StL.get []) (.t (.int k (if b < a then b else a))) (StL.get []) [] :=
  zY fun h m A w _ hrep => by
    have r1 := hrep x (by simp [ho, Op.operands, Call.operands])
    have r2 := hrep y (by simp [ho, Op.operands, Call.operands])
    rw [hx] at r1
    rw [hy] at r2
    simp only [RepA, RepT] at r1 r2
    refine ⟨.int k (if b < a then b else a), ?_, by simp [RepA, RepT]⟩
    simp [execOp, ho, resolve, invoke, builtin, Builtin.min_, Builtin.min2, r1, r2]
end
section
variable {nt : Nat}
theorem ziB {env env' : Env} {st st' : zG} (he : ∀ t, AVLE (env t) (env' t)) (hs : ∀ id row, st' id = some row → st id = some row) : Ghost nt env st env' st' := fun h m a w c =>
  c.step (h' := h) (m' := m) ⟨c.sim.imm, fun id row hr => c.sim.rows id row (hs id row hr), fun id row b hr => c.sim.sep id row b (hs id row hr), fun id id' r r' b k1 k2 => c.sim.inj id id' r r' b (hs _ _ k1) (hs _ _ k2)⟩ (fun t => he t h m _ (c.env t))
    ⟨⟨rfl, rfl, rfl, Nat.le_refl _, fun _ _ _ => ⟨rfl, rfl⟩, fun _ _ hu => hu, fun id row b hr hb => .inr ⟨id, row, hs id row hr, hb⟩⟩, fun _ => rfl⟩
theorem AVLE.refl (x : AV) : AVLE x x := fun _ _ _ H => H
theorem AVLE.junk (x : AV) : AVLE x .junk := fun _ _ _ _ => by simp [RepA]
theorem AVLE.nil (sz : Nat) : AVLE (.t .nilsl) (.t (.sl sz [])) := fun h m v H => by
  simp only [RepA, RepT] at H ⊢
  exact ⟨none, 0, 0, H, rfl, Nat.le_refl _, ⟨Nat.zero_le _, fun _ => rfl⟩, fun h => absurd rfl h⟩
theorem zj8 {env : Env} {st : zG} {t : Nat} (id : Id) (e sz : Nat) (ht : env t = .t .nilsl) (hf : qG [id] env st) (hloc : id.isLoc = true) :
    Ghost nt env st (fun x => if x = t then .row id else env x) (fun x => if x = id then some (.slt e sz []) else st x) := fun h m a w c => by
  have hm : ∀ y, y ∉ [id] → zV m id (.slice none 0 0) y = m y := fun y => zU
  have cases_ : ∀ y row, (fun x => if x = id then some (Row.slt e sz []) else st x) y = some row → (y = id ∧ row = .slt e sz []) ∨ (y ≠ id ∧ st y = some row) := fun y row hy => by
    simp only at hy
    split at hy
    · rename_i e; cases hy; exact .inl ⟨e, rfl⟩
    · rename_i e; exact .inr ⟨e, hy⟩
  refine c.step (h' := h) (m' := zV m id (.slice none 0 0)) ⟨c.sim.imm, ?_, ?_, ?_⟩ (fun x => ?_) ⟨⟨rfl, rfl, rfl, Nat.le_refl _, fun _ _ _ => ⟨rfl, rfl⟩, fun _ _ hu => hu, ?_⟩, fun k => ?_⟩
  · intro y row hy
    rcases cases_ y row hy with ⟨rfl, rfl⟩ | ⟨hne, hy⟩
    · exact ⟨[], by rw [zu]; exact ⟨by simp, .inl ⟨rfl, rfl⟩⟩, by simp [RepEs]⟩
    · exact SimRow.mono (N := [id]) (fun _ _ hu => hu) hm (by simpa using hne) (hf.2 y row hy).2 (fun _ _ => rfl) (c.sim.rows y row hy)
  · intro y row b hy hb
    rcases cases_ y row hy with ⟨rfl, rfl⟩ | ⟨hne, hy⟩
    · rw [zu] at hb; simp [blk] at hb
    · rw [hm y (by simpa using hne)] at hb; exact c.sim.sep y row b hy hb
  · intro y y' r r' b hy hy' hb hb'
    rcases cases_ y r hy with ⟨rfl, rfl⟩ | ⟨hne, hy⟩
    · rw [zu] at hb; simp [blk] at hb
    · rcases cases_ y' r' hy' with ⟨rfl, rfl⟩ | ⟨hne', hy'⟩
      · rw [zu] at hb'; simp [blk] at hb'
      · rw [hm y (by simpa using hne)] at hb
        rw [hm y' (by simpa using hne')] at hb'
        exact c.sim.inj y y' r r' b hy hy' hb hb'
  · by_cases e : x = t
    · subst e
      have := c.env x
      rw [ht] at this
      simp only [RepA, RepT] at this
      rw [if_pos rfl, this]
      exact ⟨by rw [zu], rfl⟩
    · rw [if_neg e]
      exact RepA.mono (fun _ _ hu => hu) hm (hf.1 x) (c.env x)
  · intro y row b hy hb
    rcases cases_ y row hy with ⟨rfl, rfl⟩ | ⟨hne, hy⟩
    · rw [zu] at hb; simp [blk] at hb
    · rw [hm y (by simpa using hne)] at hb; exact .inr ⟨y, row, hy, hb⟩
  · exact hm _ (by intro hk; simp at hk; rw [← hk] at hloc; simp [Id.isLoc] at hloc)
mutual
def AV.sub (id : Id) (x : T) : AV → AV
  | .row j => if j = id then .t x else .row j
  | .ref j i sz off => if j = id then .junk else .ref j i sz off
  | .view j n c => if j = id then .junk else .view j n c
  | .agg cs => zcN (AV.subL id x cs)
  | .tup cs => .tup (AV.subL id x cs)
  | .fn f cs => .fn f (AV.subL id x cs)
  | y => y
def AV.subL (id : Id) (x : T) : List AV → List AV
  | [] => []
  | c :: cs => c.sub id x :: AV.subL id x cs
end
theorem vg (id : Id) (x : T) : ∀ cs : List AV, (AV.subL id x cs).length = cs.length
  | [] => rfl
  | c :: cs => by simp [AV.subL, vg id x cs]
mutual
theorem RepA.sub {h h' : Heap} {m : zQ} {id : Id} {x : T} (hh : h.le h') (hx : RepT h' (m id) x) : ∀ {v : Value} {y : AV}, RepA h m v y → RepA h' m v (y.sub id x)
  | v, .t x, H => by simp only [RepA, AV.sub] at H ⊢; exact H.mono hh
  | v, .tp e off, H => by
    simp only [RepA, AV.sub] at H ⊢
    obtain ⟨b, o, e, hl⟩ := H
    exact ⟨b, o, e, hl.mono hh fun j u => ko hh⟩
  | v, .ref j i sz off, H => by
    simp only [AV.sub]
    split
    · simp [RepA]
    · exact H
  | v, .view j n c, H => by
    simp only [AV.sub]
    split
    · simp [RepA]
    · exact H
  | v, .row j, H => by
    simp only [AV.sub]
    split
    · rename_i e; subst e; simp only [RepA] at H ⊢; rw [H.1]; exact hx
    · exact H
  | v, .agg cs, H => by
    simp only [RepA, AV.sub] at H ⊢
    obtain ⟨vs, rfl, hs, hl⟩ := H
    exact jD (by rw [vg]; exact hs) (RepAL.sub hh hx hl)
  | v, .tup cs, H => by
    simp only [RepA, AV.sub] at H ⊢
    obtain ⟨vs, e, hs, hl⟩ := H
    exact ⟨vs, e, by rw [vg]; exact hs, RepAs.sub hh hx hl⟩
  | v, .fn f cs, H => by
    simp only [RepA, AV.sub] at H ⊢
    obtain ⟨vs, e, hs, hl⟩ := H
    exact ⟨vs, e, by rw [vg]; exact hs, RepAs.sub hh hx hl⟩
  | v, .junk, _ => by simp [RepA, AV.sub]
theorem RepAL.sub {h h' : Heap} {m : zQ} {id : Id} {x : T} (hh : h.le h') (hx : RepT h' (m id) x) {g : Nat → Option Value} : ∀ {o : Nat} {ys : List AV}, RepAL h m g o ys → RepAL h' m g o (AV.subL id x ys)
  | _, [], _ => by simp [RepAL, AV.subL]
  | o, y :: ys, H => by
    simp only [RepAL, AV.subL] at H ⊢
    obtain ⟨⟨u, h1, h2, h3⟩, h4⟩ := H
    exact ⟨⟨u, h1, h2, RepA.sub hh hx h3⟩, RepAL.sub hh hx h4⟩
theorem RepAs.sub {h h' : Heap} {m : zQ} {id : Id} {x : T} (hh : h.le h') (hx : RepT h' (m id) x) {g : Nat → Option Value} : ∀ {o : Nat} {ys : List AV}, RepAs h m g o ys → RepAs h' m g o (AV.subL id x ys)
  | _, [], _ => by simp [RepAs, AV.subL]
  | o, y :: ys, H => by
    simp only [RepAs, AV.subL] at H ⊢
    obtain ⟨⟨u, h1, h3⟩, h4⟩ := H
    exact ⟨⟨u, h1, RepA.sub hh hx h3⟩, RepAs.sub hh hx h4⟩
end
def Row.sub (id : Id) (x : T) : Row → Row
  | .var ty cs => .var ty (AV.subL id x cs)
  | .loop k cs => .loop k (cs.map fun y => (y.1, y.2.sub id x))
  | r => r
theorem zfu {env : Env} {st : zG} {id : Id} {e sz : Nat} {es : List T} (hr : st id = some (.slt e sz es)) :
    Ghost nt env st (fun t => (env t).sub id (.sl sz es)) (fun j => if j = id then none else (st j).map (Row.sub id (.sl sz es))) := fun h m a w c => by
  obtain ⟨xs, h1, h2⟩ := c.sim.rows id _ hr
  let h' : Heap := fun b => if blk (m id) = some b then w.heap[b]? else h b
  have hh : h.le h' := fun b ob hb => by
    show (if blk (m id) = some b then w.heap[b]? else h b) = some ob
    split
    · exact c.sim.imm b ob hb
    · exact hb
  have himm : ∀ b ob, h' b = some ob → w.heap[b]? = some ob := fun b ob hb => by
    simp only [h'] at hb
    split at hb
    · exact hb
    · exact c.sim.imm b ob hb
  have hx : RepT h' (m id) (.sl sz es) := by
    simp only [RepT]
    rcases h1.2 with ⟨hv, hn⟩ | ⟨g, cap, cur, lo, hi, hv, hg, hf, hnc, hcm, hcs, ht⟩
    · exact ⟨none, 0, 0, hv, hn.symm, Nat.le_refl _, ⟨Nat.zero_le _, fun _ => rfl⟩, fun h => absurd rfl h⟩
    · refine ⟨_, _, cap, hv, rfl, hnc, ⟨hcm, fun h => by cases h⟩, fun _ => ⟨g, 0, rfl, RepEs.mono hh (fun j u hu => ?_) h2⟩⟩
      have hb : h' g = some (.cells cur e (lo, hi)) := by
        show (if blk (m id) = some g then w.heap[g]? else h g) = _
        rw [hv]
        simp [blk, hg]
      simp only [hcell, hb]
      rw [← ht, List.getElem?_take] at hu
      split at hu
      · simpa using hu
      · cases hu
  have cases_ : ∀ y row, (fun j => if j = id then none else (st j).map (Row.sub id (.sl sz es))) y = some row → y ≠ id ∧ ∃ r0, st y = some r0 ∧ row = r0.sub id (.sl sz es) := fun y row hy => by
    simp only at hy
    split at hy
    · cases hy
    · rename_i e
      obtain ⟨r0, k1, k2⟩ := Option.map_eq_some_iff.1 hy
      exact ⟨e, r0, k1, k2.symm⟩
  refine c.step (h' := h') (m' := m) ⟨himm, ?_, ?_, ?_⟩ (fun t => RepA.sub hh hx (c.env t)) ⟨⟨rfl, rfl, rfl, Nat.le_refl _, fun b _ hn => ⟨rfl, ?_⟩, hh, ?_⟩, fun _ => rfl⟩
  · intro y row hy
    obtain ⟨hne, r0, k1, rfl⟩ := cases_ y row hy
    have := c.sim.rows y r0 k1
    cases r0 with
    | var ty cs =>
      obtain ⟨b, arr, e1, e2, e3, e4⟩ := this
      exact ⟨b, arr, e1, e2, by rw [vg]; exact e3, RepAL.sub hh hx e4⟩
    | slt e' sz' es' =>
      obtain ⟨us, q1, q2⟩ := this
      exact ⟨us, q1, RepEs.mono hh (fun _ _ hu => hu) q2⟩
    | arr ty sz' es' =>
      obtain ⟨b, arr, e1, e2, e3, e4⟩ := this
      exact ⟨b, arr, e1, e2, e3, RepEs.mono hh (fun _ _ hu => hu) e4⟩
    | dat kk =>
      obtain ⟨b, o, e1, e2, e3⟩ := this
      exact ⟨b, o, e1, e2, DatK.sat_mono hh e3⟩
    | loop kk cs =>
      obtain ⟨l, arr, e1, e2, e3, e4⟩ := this
      refine ⟨l, arr, e1, e2, e3, fun y hy => ?_⟩
      obtain ⟨y0, hy0, rfl⟩ := List.mem_map.1 hy
      exact RepA.sub hh hx (e4 y0 hy0)
  · intro y row b hy hb
    obtain ⟨hne, r0, k1, rfl⟩ := cases_ y row hy
    obtain ⟨q1, q2⟩ := c.sim.sep y r0 b k1 hb
    refine ⟨?_, q2⟩
    show (if blk (m id) = some b then w.heap[b]? else h b) = none
    rw [if_neg fun e => hne (c.sim.inj y id _ _ b k1 hr hb e)]
    exact q1
  · intro y y' r r' b hy hy' hb hb'
    obtain ⟨_, r0, k1, rfl⟩ := cases_ y r hy
    obtain ⟨_, r0', k1', rfl⟩ := cases_ y' r' hy'
    exact c.sim.inj y y' _ _ b k1 k1' hb hb'
  · show (if blk (m id) = some b then w.heap[b]? else h b) = h b
    rw [if_neg fun e => hn id _ hr e]
  · intro y row b hy hb
    obtain ⟨_, r0, k1, rfl⟩ := cases_ y row hy
    exact .inr ⟨y, r0, k1, hb⟩
theorem xL {id : Id} : ∀ (x : AV), x.clean [id] = true → x.all (fun j => decide (j ≠ id)) = true := by
  intro x
  induction x using AV.rec (motive_2 := fun xs => AV.cleanL [id] xs = true → AV.allL (fun j => decide (j ≠ id)) xs = true) with
  | t x => intro _; rfl
  | tp e off => intro _; rfl
  | ref j i sz off => intro hx; simpa [AV.clean, AV.all] using hx
  | view j n c => intro hx; simpa [AV.clean, AV.all] using hx
  | row j => intro hx; simpa [AV.clean, AV.all] using hx
  | agg cs ih => intro hx; simp only [AV.clean, AV.all] at hx ⊢; exact ih hx
  | tup cs ih => intro hx; simp only [AV.clean, AV.all] at hx ⊢; exact ih hx
  | fn f cs ih => intro hx; simp only [AV.clean, AV.all] at hx ⊢; exact ih hx
  | junk => intro _; rfl
  | nil => rfl
  | cons x xs h1 h2 =>
    rename_i hx
    simp only [AV.cleanL, AV.allL, Bool.and_eq_true] at hx ⊢
    exact ⟨h1 hx.1, h2 hx.2⟩
def qH (a b : Id) : Id → Id := fun x => if x = a then b else x
theorem zkq {env : Env} {st : zG} (a b : Id) (hab : a ≠ b) (ha : a.isLoc = true) (hb : vn b = false) (hf : qG [b] env st) :
    Ghost nt env st (fun t => (env t).ren (qH a b)) (fun j => if j = b then (st a).map (Row.ren (qH a b)) else if j = a then none else (st j).map (Row.ren (qH a b))) := fun h m x w c => by
  let m' := zV m b (m a)
  have hm : ∀ id, (decide (id ≠ b)) = true → m' (qH a b id) = m id := fun id hid => by
    simp at hid
    simp only [m', zV, qH]
    by_cases e : id = a
    · subst e; simp
    · simp [e, hid]
  have cases_ : ∀ y row, (fun j => if j = b then (st a).map (Row.ren (qH a b)) else if j = a then none else (st j).map (Row.ren (qH a b))) y = some row → ∃ k r0, st k = some r0 ∧ row = r0.ren (qH a b) ∧ qH a b k = y := fun y row hy => by
    simp only at hy
    split at hy
    · rename_i e
      obtain ⟨r0, k1, k2⟩ := Option.map_eq_some_iff.1 hy
      exact ⟨a, r0, k1, k2.symm, by simp [qH, e]⟩
    · split at hy
      · cases hy
      · rename_i e1 e2
        obtain ⟨r0, k1, k2⟩ := Option.map_eq_some_iff.1 hy
        exact ⟨y, r0, k1, k2.symm, by simp [qH, e2]⟩
  have hfr : ∀ k r0, st k = some r0 → (decide (k ≠ b)) = true := fun k r0 hk => by
    have := (hf.2 k r0 hk).1
    simpa using this
  refine c.step (h' := h) (m' := m') ⟨c.sim.imm, ?_, ?_, ?_⟩ (fun t => RepA.ren hm (xL _ (hf.1 t)) (c.env t)) ⟨⟨rfl, rfl, rfl, Nat.le_refl _, fun _ _ _ => ⟨rfl, rfl⟩, fun _ _ hu => hu, ?_⟩, fun k => ?_⟩
  · intro y row hy
    obtain ⟨k, r0, k1, rfl, rfl⟩ := cases_ y row hy
    have hk := hm k (hfr k r0 k1)
    have hcl := (hf.2 k r0 k1).2
    have := c.sim.rows k r0 k1
    cases r0 with
    | var ty cs =>
      obtain ⟨b', arr, e1, e2, e3, e4⟩ := this
      refine ⟨b', arr, by rw [hk]; exact e1, e2, by rw [yX]; exact e3, RepAL.ren hm ?_ e4⟩
      have := xL (id := b) (.agg cs) (by simpa [AV.clean, Row.clean] using hcl)
      simpa [AV.all] using this
    | slt e' sz' es' =>
      obtain ⟨us, q1, q2⟩ := this
      exact ⟨us, by rw [hk]; exact q1, q2⟩
    | arr ty sz' es' =>
      obtain ⟨b', arr, e1, e2, e3, e4⟩ := this
      exact ⟨b', arr, by rw [hk]; exact e1, e2, e3, e4⟩
    | dat kk =>
      obtain ⟨b', o, e1, e2, e3⟩ := this
      exact ⟨b', o, by rw [hk]; exact e1, e2, by rw [hk]; exact e3⟩
    | loop kk cs =>
      obtain ⟨l, arr, e1, e2, e3, e4⟩ := this
      refine ⟨l, arr, by rw [hk]; exact e1, e2, e3, fun x hx => ?_⟩
      obtain ⟨x0, hx0, rfl⟩ := List.mem_map.1 hx
      simp only [Row.clean, List.all_eq_true] at hcl
      exact RepA.ren hm (xL _ (hcl x0 hx0)) (e4 x0 hx0)
  · intro y row b' hy hb'
    obtain ⟨k, r0, k1, rfl, rfl⟩ := cases_ y row hy
    rw [hm k (hfr k r0 k1)] at hb'
    exact c.sim.sep k r0 b' k1 hb'
  · intro y y' r r' b' hy hy' h1 h2
    obtain ⟨k, r0, k1, rfl, rfl⟩ := cases_ y r hy
    obtain ⟨k', r0', k1', rfl, rfl⟩ := cases_ y' r' hy'
    rw [hm k (hfr k r0 k1)] at h1
    rw [hm k' (hfr k' r0' k1')] at h2
    rw [c.sim.inj k k' _ _ b' k1 k1' h1 h2]
  · intro y row b' hy hb'
    obtain ⟨k, r0, k1, rfl, rfl⟩ := cases_ y row hy
    rw [hm k (hfr k r0 k1)] at hb'
    exact .inr ⟨k, r0, k1, hb'⟩
  · show zV m b (m a) (.par k) = m (.par k)
    unfold zV
    rw [if_neg]
    intro e
    rw [← e] at hb
    simp [vn] at hb
end
end Go.AL
