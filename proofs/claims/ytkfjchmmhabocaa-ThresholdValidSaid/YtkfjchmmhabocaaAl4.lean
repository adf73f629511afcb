/- The layer of abstract values, fourth part: ranges over strings and maps, interfaces against nil, laid variables; each under the conditions that its own theorem names. -/
import Derived.Test.YtkfjchmmhabocaaAl3
import Derived.Maps.RangeRun
import Derived.Lib.LaidTab
import Derived.Lib.LaidU8
/- Ranges over strings and over maps; interfaces against nil. -/
set_option linter.unusedVariables false
set_option linter.unusedSimpArgs false
namespace Go.AL
open Go Go.RowKit

section
variable {P : Program} {o : Oper} {ρ : Operand → AV}
/-! ### Interfaces against nil -/
def ifNil : T → Option Bool
  | .nili => some true
  | .iface => some false
  | .ifi _ _ _ => some false
  | _ => none
/-- A value put into an interface. -/
def notIface : TypeDesc → Bool
  | .interface _ => false
  | _ => true
/-! ### A range over a string -/
/-! ### A range over a map -/
end

section
variable {P : Program} {nt : Nat} {ops : Array Oper} {o : Oper} {rest : List Oper} {env : EnvL} {st : StO} {acc : List SD} {K : EnvL → StO → List SD → Prop} {d : Nat}
end
end Go.AL
/- Package-level variables that are laid; errors that are whole numbers, compared. -/
set_option linter.unusedVariables false
set_option linter.unusedSimpArgs false
namespace Go.AL
open Go Go.RowKit

class CmpT (P : Program) (t : TypeId) : Prop where
  h : ∃ i, P.info? t = some i ∧ i.comparable = true
theorem CmpT.of {P : Program} {t : TypeId} (h : (P.info? t).map (·.comparable) = some true) : CmpT P t := ⟨by
  cases e : P.info? t with
  | none => rw [e] at h; cases h
  | some i => rw [e] at h; exact ⟨i, rfl, by simpa using h⟩⟩

section
variable {P : Program} {o : Oper} {ρ : Operand → AV}
/-- A variable that holds an error. -/
def isErrVar : Obj → Bool
  | .cells cs _ _ => match cs.toList with
    | [.iface _ _] => true
    | _ => false
  | _ => false
/-- An element of an array that is laid. -/
def isTabOf (k : IntKind) (ns : List Int) : Obj → Prop
  | .cells cs _ _ => cs.toList = ns.map (Value.int k)
  | _ => False
end
section
variable {P : Program} {nt : Nat} {ops : Array Oper} {o : Oper} {rest : List Oper} {env : EnvL} {st : StO} {acc : List SD} {K : EnvL → StO → List SD → Prop} {d : Nat}
end
end Go.AL
/- The step of a range over a map. -/
set_option linter.unusedVariables false
set_option linter.unusedSimpArgs false
namespace Go.AL
open Go Go.RowKit

section
variable {P : Program} {nt : Nat}
end

section
variable {P : Program} {nt : Nat} {ops : Array Oper} {o : Oper} {rest : List Oper} {env : EnvL} {st : StO} {acc : List SD} {K : EnvL → StO → List SD → Prop} {d : Nat}
end

section
variable {P : Program} {nt : Nat} {ops : Array Oper} {o : Oper} {rest : List Oper} {env : EnvL} {st : StO} {acc : List SD} {K : EnvL → StO → List SD → Prop} {d : Nat}
end
end Go.AL
/- Three results, the first of them a struct that is named. -/
set_option linter.unusedVariables false
namespace Go.AL
open Go Go.RowKit
section
variable {P : Program} {fn : Func} {env : EnvL} {st : StO}
end
end Go.AL
/- Structs of strings and whole numbers, compared. -/
set_option linter.unusedVariables false
set_option linter.unusedSimpArgs false
namespace Go.AL
open Go Go.RowKit

def isFlatT (P : Program) (ty : TypeId) : T → Prop
  | .int k _ => P.underlying ty = some (.int k)
  | .str _ => P.underlying ty = some .string
  | .bool _ => P.underlying ty = some .bool
  | _ => False
def tEq : T → T → Bool
  | .int _ a, .int _ b => a == b
  | .str a, .str b => decide (a = b)
  | .bool a, .bool b => a == b
  | _, _ => false
/-- Fields that lie one behind the other, and what they hold in two structs. -/
def FlatE (P : Program) : List Field → Nat → List T → List T → Prop
  | [], _, [], [] => True
  | f :: fs, i, x :: xs, y :: ys => f.name ≠ "_" ∧ f.offset = i ∧ isFlatT P f.type x ∧ isFlatT P f.type y ∧ FlatE P fs (i + 1) xs ys
  | _, _, _, _ => False
def tEqs : List T → List T → Bool
  | x :: xs, y :: ys => tEq x y && tEqs xs ys
  | _, _ => true
theorem tEq_refl : ∀ {P : Program} {ty : TypeId} {x : T}, isFlatT P ty x → tEq x x = true
  | P, ty, x, h => by cases x <;> simp [isFlatT, tEq] at * 
theorem tEqs_refl {P : Program} : ∀ {fs : List Field} {i : Nat} {xs : List T}, FlatE P fs i xs xs → tEqs xs xs = true
  | [], i, [], _ => rfl
  | f :: fs, i, x :: xs, h => by rw [tEqs, tEq_refl h.2.2.1, tEqs_refl h.2.2.2.2]; rfl
  | [], _, _ :: _, h => h.elim
  | _ :: _, _, [], h => h.elim
section
variable {P : Program} {o : Oper} {ρ : Operand → AV}
theorem run_eq_flat {ty : TypeId} {x y : T} {u v : Value} {h : Heap} {w : World} (d : Nat) (hx : isFlatT P ty x) (hy : isFlatT P ty y) (r1 : RepT h u x) (r2 : RepT h v y) : (Op.equalIn (d + 1) ty u v).run P w = .ok (tEq x y) w := by
  cases x <;> simp only [isFlatT] at hx
  · cases y <;> simp only [isFlatT] at hy
    · rw [hx] at hy
      cases hy
      simp only [RepT] at r1 r2
      subst r1; subst r2
      simp [Op.equalIn, run_underlying hx, tEq]
    · rw [hx] at hy; cases hy
    · rw [hx] at hy; cases hy
  · cases y <;> simp only [isFlatT] at hy
    · rw [hx] at hy; cases hy
    · simp only [RepT] at r1 r2
      subst r1; subst r2
      simp [Op.equalIn, run_underlying hx, tEq]
    · rw [hx] at hy; cases hy
  · cases y <;> simp only [isFlatT] at hy
    · rw [hx] at hy; cases hy
    · rw [hx] at hy; cases hy
    · simp only [RepT] at r1 r2
      subst r1; subst r2
      simp [Op.equalIn, run_underlying hx, tEq, ba_beq]
theorem run_part_flat {ty : TypeId} {x : T} {u : Value} {vs : Array Value} {i : Nat} {w : World} (hx : isFlatT P ty x) (hu : vs[i]? = some u) : (part ty vs i).run P w = .ok u w := by
  have ha : (isAgg ty).run P w = .ok false w := by
    cases x <;> simp only [isFlatT] at hx <;> exact run_isAgg (d := _) ⟨hx⟩
  simp [part, ha, hu]
theorem run_fields_flat {h : Heap} {w : World} {v1 v2 : Array Value} (d : Nat) : ∀ (fs : List Field) (i : Nat) (xs ys : List T), FlatE P fs i xs ys → RepL h (fun j => v1[j]?) i xs → RepL h (fun j => v2[j]?) i ys →
    (forIn fs ((none : Option Bool), ()) fun f __s => (if f.name = "_" then pure (ForInStep.yield ((none : Option Bool), ())) else do
      let __do_lift ← part f.type v1 f.offset
      let __do_lift_1 ← part f.type v2 f.offset
      let __do_lift ← Op.equalIn (d + 1) f.type __do_lift __do_lift_1
      if __do_lift = false then pure (ForInStep.done (some false, ())) else pure (ForInStep.yield (none, ())) : Sem (ForInStep (Option Bool × Unit)))).run P w = .ok (if tEqs xs ys then (none, ()) else (some false, ())) w
  | [], i, [], [], _, _, _ => by simp [tEqs]
  | [], _, _ :: _, _, H, _, _ => H.elim
  | [], _, [], _ :: _, H, _, _ => H.elim
  | _ :: _, _, [], _, H, _, _ => H.elim
  | _ :: _, _, _ :: _, [], H, _, _ => H.elim
  | f :: fs, i, x :: xs, y :: ys, H, ⟨⟨u, u1, _, u2⟩, u3⟩, ⟨⟨v, w1, _, w2⟩, w3⟩ => by
    obtain ⟨hn, ho, hx, hy, hr⟩ := H
    have ih := run_fields_flat (w := w) d fs (i + 1) xs ys hr u3 w3
    subst ho
    rw [List.forIn_cons]
    simp only [if_neg hn, Sem.run_bind, run_part_flat hx u1, run_part_flat hy w1, run_eq_flat d hx hy u2 w2, Result.andThen_ok]
    cases he : tEq x y with
    | true =>
      simp only [Bool.true_eq_false, if_false, Sem.run_pure, Result.andThen_ok]
      rw [ih, tEqs, he, Bool.true_and]
    | false =>
      simp [tEqs, he]
theorem run_eqagg {ty : TypeId} {fs : Array Field} {xs ys : List T} {v1 v2 : Array Value} {h : Heap} {w : World} (tu : TyU P ty (.struct fs)) (hq : P.stoodInHeld ty = false) (hf : FlatE P fs.toList 0 xs ys) (r1 : RepL h (fun j => v1[j]?) 0 xs) (r2 : RepL h (fun j => v2[j]?) 0 ys) :
    (Op.equalIn Op.maxDepth ty (.agg v1) (.agg v2)).run P w = .ok (tEqs xs ys) w := by
  have key : ∀ d : Nat, (Op.equalIn (d + 2) ty (.agg v1) (.agg v2)).run P w = .ok (tEqs xs ys) w := fun d => by
    have hk := run_fields_flat (P := P) (w := w) d fs.toList 0 xs ys hf r1 r2
    unfold Op.equalIn
    simp only [Sem.run_bind, run_underlying tu.h, Result.andThen_ok]
    simp only [Array.forIn_toList] at hk
    simp [hq]
    rw [hk]
    cases tEqs xs ys <;> simp
  exact key 9998
theorem opT_neagg {ty yt : TypeId} {x y : Operand} {fs : Array Field} {xs ys : List T} (ho : o.op = .binOp .neq ty x y yt) (hx : ρ x = .t (.agg xs)) (hy : ρ y = .t (.agg ys)) (tu : TyU P ty (.struct fs)) (hf : FlatE P fs.toList 0 xs ys) (hq : eq1B P ty = true) :
    OpT P o ρ (StL.get []) (.t (.bool !(tEqs xs ys))) (StL.get []) [] :=
  opT_pure fun h m A w _ hrep => by
    have r1 := hrep x (by simp [ho, Op.operands])
    have r2 := hrep y (by simp [ho, Op.operands])
    rw [hx] at r1
    rw [hy] at r2
    simp only [RepA, RepT] at r1 r2
    obtain ⟨v1, a1, a2, a3⟩ := r1
    obtain ⟨v2, b1, b2, b3⟩ := r2
    simp only [eq1B, Bool.and_eq_true, Bool.not_eq_true'] at hq
    have hk := run_eqagg (w := w) tu hq.1 hf a3 b3
    refine ⟨.bool !(tEqs xs ys), ?_, by simp [RepA, RepT]⟩
    simp [execOp, ho, a1, b1, binOp, eqGuard, hq.2, Op.equal, hk, Result.andThen]
end
section
variable {P : Program} {nt : Nat} {ops : Array Oper} {o : Oper} {rest : List Oper} {env : EnvL} {st : StO} {acc : List SD} {K : EnvL → StO → List SD → Prop} {d : Nat}
theorem lx_neagg {ty yt : TypeId} {x y : Operand} {fs : Array Field} {xs ys : List T} {b : Bool} (hf : FlatE P fs.toList 0 xs ys) (hq : eq1B P ty = true) (hb : tEqs xs ys = b) (ho : o.op = .binOp .neq ty x y yt) (hx : evalA env.get x = .t (.agg xs)) (hy : evalA env.get y = .t (.agg ys)) [tu : TyU P ty (.struct fs)] (hd : o.dst = some d) (hn : (decide (d < nt)) = true) (hg : guardOK ops o env = true)
    (H : LexP P nt ops rest ((d, .t (.bool !b)) :: env) st (⟨true, [], .t (.bool !b), [], [], []⟩ :: acc) K) : LexP P nt ops (o :: rest) env st acc K := by
  subst hb
  exact lx_pure (opT_neagg ho hx hy tu hf hq) hd hn hg H
end
end Go.AL
/- Laws over laid variables: the variables' blocks are rows of the call's own. -/
set_option linter.unusedVariables false
namespace Go.AL
open Go Go.RowKit Go.ChangeShapes Go.WideShapes Go.ChangeMaps

def heapG (B : List Nat) (w : World) : Heap := fun b => if b ∈ B then none else w.heap[b]?
mutual
def T.noG : T → Bool
  | .int .u8 _ => false
  | .iface => false
  | .ifi _ _ _ => false
  | .agg cs => T.noGL cs
  | .sl sz es => decide (0 < sz) && T.noGL es
  | .slq _ _ => false
  | _ => true
def T.noGL : List T → Bool
  | [] => true
  | x :: xs => x.noG && T.noGL xs
end
/-- The tables' blocks hold bytes alone. -/
def TabG (B : List Nat) (w : World) : Prop := ∀ b, b ∈ B → ∀ o u, hcell (heapOf w) b o = some u → (∃ n, u = .int .u8 n) ∨ ∃ t v, u = .iface t v
theorem T.noG_cells {x : T} (h : x.noG = true) : T.noGL x.cells = true := by
  cases x with
  | agg cs => simpa [T.noG, T.cells] using h
  | _ => simp only [T.cells, T.noGL, h, Bool.and_self]
theorem not_g {h : Heap} {u : Value} {x : T} (hx : x.noG = true) (hu : (∃ n, u = .int .u8 n) ∨ ∃ t v, u = .iface t v) (H : RepT h u x) : False := by
  rcases hu with ⟨n, rfl⟩ | ⟨t, v, rfl⟩
  · cases x with
    | int k m => simp only [RepT] at H; cases H; simp [T.noG] at hx
    | _ => simp [RepT] at H
  · cases x with
    | iface => simp [T.noG] at hx
    | ifi a b c => simp [T.noG] at hx
    | _ => simp [RepT] at H
theorem hcell_heapG {B : List Nat} {w : World} {b : Nat} (hb : ¬ b ∈ B) : hcell (heapG B w) b = hcell (heapOf w) b := by
  funext o
  simp only [hcell, heapG, heapOf, if_neg hb]
mutual
theorem RepT.tabG {B : List Nat} {w : World} (hU : TabG B w) : ∀ {x : T} {v : Value}, x.noG = true → RepT (heapOf w) v x → RepT (heapG B w) v x
  | .int _ _, v, _, H => by simpa only [RepT] using H
  | .bool _, v, _, H => by simpa only [RepT] using H
  | .str _, v, _, H => by simpa only [RepT] using H
  | .nilsl, v, _, H => by simpa only [RepT] using H
  | .nilp, v, _, H => by simpa only [RepT] using H
  | .nilf, v, _, H => by simpa only [RepT] using H
  | .esl, v, _, H => by simpa only [RepT] using H
  | .fn _, v, _, H => by simpa only [RepT] using H
  | .nili, v, _, H => by simpa only [RepT] using H
  | .iface, v, _, H => by simpa only [RepT] using H
  | .ifi _ _ _, v, _, H => by simpa only [RepT] using H
  | .slq _ _, v, hx, _ => by simp [T.noG] at hx
  | .agg cs, v, hx, H => by
    simp only [RepT] at H ⊢
    obtain ⟨vs, h1, h2, h3⟩ := H
    exact ⟨vs, h1, h2, RepL.tabG hU (by simpa only [T.noG] using hx) h3⟩
  | .sl sz es, v, hx, H => by
    simp only [RepT] at H ⊢
    simp only [T.noG, Bool.and_eq_true, decide_eq_true_eq] at hx
    obtain ⟨A, n, c, h1, h2, h3, h4, h5⟩ := H
    refine ⟨A, n, c, h1, h2, h3, h4, fun hn => ?_⟩
    obtain ⟨b, o, k1, k2⟩ := h5 hn
    by_cases hb : b ∈ B
    · exfalso
      cases es with
      | nil => simp at h2; exact hn h2
      | cons e es =>
        rw [RepEs_cons] at k2
        have hc := k2.1.2
        have he := T.noG_cells (show e.noG = true by have := hx.2; simp only [T.noGL, Bool.and_eq_true] at this; exact this.1)
        have hl := k2.1.1
        generalize e.cells = cs at hc he hl
        cases cs with
        | nil => simp at hl; omega
        | cons c0 cs =>
          obtain ⟨⟨u, q1, _, q3⟩, _⟩ := hc
          have hm := hU b hb o u q1
          simp only [T.noGL, Bool.and_eq_true] at he
          exact not_g he.1 hm q3
    · exact ⟨b, o, k1, by rw [hcell_heapG hb]; exact RepEs.tabG hU hx.2 k2⟩
theorem RepL.tabG {B : List Nat} {w : World} (hU : TabG B w) : ∀ {xs : List T} {g : Nat → Option Value} {o : Nat}, T.noGL xs = true → RepL (heapOf w) g o xs → RepL (heapG B w) g o xs
  | [], _, _, _, _ => trivial
  | x :: xs, g, o, hx, H => by
    simp only [T.noGL, Bool.and_eq_true] at hx
    obtain ⟨⟨u, h1, h2, h3⟩, h4⟩ := H
    exact ⟨⟨u, h1, h2, RepT.tabG hU hx.1 h3⟩, RepL.tabG hU hx.2 h4⟩
theorem RepEs.tabG {B : List Nat} {w : World} (hU : TabG B w) : ∀ {xs : List T} {g : Nat → Option Value} {o sz : Nat}, T.noGL xs = true → RepEs (heapOf w) g o sz xs → RepEs (heapG B w) g o sz xs
  | [], _, _, _, _, _ => trivial
  | .agg cs :: xs, g, o, sz, hx, H => by
    simp only [T.noGL, T.noG, Bool.and_eq_true] at hx
    simp only [RepEs] at H ⊢
    exact ⟨⟨H.1.1, RepL.tabG hU hx.1 H.1.2⟩, RepEs.tabG hU hx.2 H.2⟩
  | .int a b :: xs, g, o, sz, hx, H => by
    simp only [T.noGL, Bool.and_eq_true] at hx
    simp only [RepEs] at H ⊢
    obtain ⟨⟨h0, u, h1, h2, h3⟩, h4⟩ := H
    exact ⟨⟨h0, u, h1, h2, RepT.tabG hU hx.1 h3⟩, RepEs.tabG hU hx.2 h4⟩
  | .bool b :: xs, g, o, sz, hx, H => by
    simp only [T.noGL, Bool.and_eq_true] at hx
    simp only [RepEs] at H ⊢
    obtain ⟨⟨h0, u, h1, h2, h3⟩, h4⟩ := H
    exact ⟨⟨h0, u, h1, h2, RepT.tabG hU hx.1 h3⟩, RepEs.tabG hU hx.2 h4⟩
  | .str b :: xs, g, o, sz, hx, H => by
    simp only [T.noGL, Bool.and_eq_true] at hx
    simp only [RepEs] at H ⊢
    obtain ⟨⟨h0, u, h1, h2, h3⟩, h4⟩ := H
    exact ⟨⟨h0, u, h1, h2, RepT.tabG hU hx.1 h3⟩, RepEs.tabG hU hx.2 h4⟩
  | .sl a b :: xs, g, o, sz, hx, H => by
    simp only [T.noGL, Bool.and_eq_true] at hx
    simp only [RepEs] at H ⊢
    obtain ⟨⟨h0, u, h1, h2, h3⟩, h4⟩ := H
    exact ⟨⟨h0, u, h1, h2, RepT.tabG hU hx.1 h3⟩, RepEs.tabG hU hx.2 h4⟩
  | .nilsl :: xs, g, o, sz, hx, H => by
    simp only [T.noGL, Bool.and_eq_true] at hx
    simp only [RepEs] at H ⊢
    obtain ⟨⟨h0, u, h1, h2, h3⟩, h4⟩ := H
    exact ⟨⟨h0, u, h1, h2, RepT.tabG hU hx.1 h3⟩, RepEs.tabG hU hx.2 h4⟩
  | .nilp :: xs, g, o, sz, hx, H => by
    simp only [T.noGL, Bool.and_eq_true] at hx
    simp only [RepEs] at H ⊢
    obtain ⟨⟨h0, u, h1, h2, h3⟩, h4⟩ := H
    exact ⟨⟨h0, u, h1, h2, RepT.tabG hU hx.1 h3⟩, RepEs.tabG hU hx.2 h4⟩
  | .nilf :: xs, g, o, sz, hx, H => by
    simp only [T.noGL, Bool.and_eq_true] at hx
    simp only [RepEs] at H ⊢
    obtain ⟨⟨h0, u, h1, h2, h3⟩, h4⟩ := H
    exact ⟨⟨h0, u, h1, h2, RepT.tabG hU hx.1 h3⟩, RepEs.tabG hU hx.2 h4⟩
  | .esl :: xs, g, o, sz, hx, H => by
    simp only [T.noGL, Bool.and_eq_true] at hx
    simp only [RepEs] at H ⊢
    obtain ⟨⟨h0, u, h1, h2, h3⟩, h4⟩ := H
    exact ⟨⟨h0, u, h1, h2, RepT.tabG hU hx.1 h3⟩, RepEs.tabG hU hx.2 h4⟩
  | .fn f :: xs, g, o, sz, hx, H => by
    simp only [T.noGL, Bool.and_eq_true] at hx
    simp only [RepEs] at H ⊢
    obtain ⟨⟨h0, u, h1, h2, h3⟩, h4⟩ := H
    exact ⟨⟨h0, u, h1, h2, RepT.tabG hU hx.1 h3⟩, RepEs.tabG hU hx.2 h4⟩
  | .nili :: xs, g, o, sz, hx, H => by
    simp only [T.noGL, Bool.and_eq_true] at hx
    simp only [RepEs] at H ⊢
    obtain ⟨⟨h0, u, h1, h2, h3⟩, h4⟩ := H
    exact ⟨⟨h0, u, h1, h2, RepT.tabG hU hx.1 h3⟩, RepEs.tabG hU hx.2 h4⟩
  | .iface :: xs, g, o, sz, hx, H => by
    simp only [T.noGL, Bool.and_eq_true] at hx
    simp only [RepEs] at H ⊢
    obtain ⟨⟨h0, u, h1, h2, h3⟩, h4⟩ := H
    exact ⟨⟨h0, u, h1, h2, RepT.tabG hU hx.1 h3⟩, RepEs.tabG hU hx.2 h4⟩
  | .ifi _ _ _ :: xs, g, o, sz, hx, H => by
    simp only [T.noGL, Bool.and_eq_true] at hx
    simp only [RepEs] at H ⊢
    obtain ⟨⟨h0, u, h1, h2, h3⟩, h4⟩ := H
    exact ⟨⟨h0, u, h1, h2, RepT.tabG hU hx.1 h3⟩, RepEs.tabG hU hx.2 h4⟩
  | .slq _ _ :: xs, g, o, sz, hx, H => by simp [T.noGL, T.noG] at hx
end

/-- The variables, by block and content, as rows. -/
def rowsG : Nat → List (Nat × Obj) → StL
  | _, [] => []
  | k, x :: G => (.par k, .dat (.fix x.1 x.2)) :: rowsG (k + 1) G
def namesG (k : Nat) (G : List (Nat × Obj)) : Names := fun id => match id with
  | .par n => if k ≤ n then (match G[n - k]? with | some x => .pointer (some ⟨x.1, 0, none⟩) | none => undef) else undef
  | _ => undef
end Go.AL
/- The length of a map. -/
set_option linter.unusedVariables false
set_option linter.unusedSimpArgs false
namespace Go.AL
open Go Go.RowKit

theorem repEnts_len {h : Heap} : ∀ {xs : List MapEntry} {es : List (T × T)}, RepEnts h xs es → xs.length = es.length
  | [], [], _ => rfl
  | [], _ :: _, H => H.elim
  | _ :: _, [], H => H.elim
  | x :: xs, (k, v) :: es, H => by
    have := repEnts_len H.2.2
    simp [this]
section
variable {P : Program} {o : Oper} {ρ : Operand → AV}
theorem opT_len_map {t kt et : TypeId} {x : Operand} {id : Id} {es : List (T × T)} (ho : o.op = .call { callee := .builtin .len, args := #[x], argTypes := #[t] }) (hx : ρ x = .row id) (tu : TyU P t (.map kt et)) :
    OpT P o ρ (StL.get [(id, .dat (.map es))]) (.t (.int .i64 (es.length : Int))) (StL.get [(id, .dat (.map es))]) [] :=
  opT_read fun h m A w hs hrep => by
    have r1 := hrep x (by simp [ho, Op.operands, Call.operands])
    rw [hx] at r1
    obtain ⟨r, ents, clock, e1, e2, e3, e4⟩ := map_row hs
    have hl := repEnts_len e3
    refine ⟨.int .i64 (es.length : Int), ?_, by simp [RepA, RepT]⟩
    simp only [RepA] at r1
    rw [e1] at r1
    have hl2 : ents.size = es.length := by rw [← hl]; simp
    simp [execOp, ho, resolve, invoke, builtin, Builtin.len_, run_underlying tu.h, r1.1, goInt, getObj, Sem.run, e2, Result.andThen, hl2]
end
section
variable {P : Program} {nt : Nat} {ops : Array Oper} {o : Oper} {rest : List Oper} {env : EnvL} {st : StO} {acc : List SD} {K : EnvL → StO → List SD → Prop} {d : Nat}
theorem lx_len_maprow {t : TypeId} {x : Operand} {id : Id} {kt et : TypeId} {es : List (T × T)} (ho : o.op = .call { callee := .builtin .len, args := #[x], argTypes := #[t] }) (hx : evalA env.get x = .row id) (hst : StO.get st id = some (.dat (.map es))) [tu : TyU P t (.map kt et)] (hd : o.dst = some d) (hn : (decide (d < nt)) = true) (hg : guardOK ops o env = true)
    (H : LexP P nt ops rest ((d, .t (.int .i64 (es.length : Int))) :: env) st (⟨true, [(id, .dat (.map es))], .t (.int .i64 (es.length : Int)), [(id, .dat (.map es))], [], []⟩ :: acc) K) : LexP P nt ops (o :: rest) env st acc K :=
  lx_read hst (opT_len_map ho hx tu) hd hn hg H
end
end Go.AL
/- A literal slice that is data at once. -/
set_option linter.unusedVariables false
set_option linter.unusedSimpArgs false
namespace Go.AL
open Go Go.RowKit

theorem OpT.frz {P : Program} {o : Oper} {ρ : Operand → AV} {id : Id} {e : TypeId} {sz : Nat} {es : List T} (H : OpT P o ρ (StL.get []) (.row id) (StL.get [(id, .slt e sz es)]) [id]) : OpT P o ρ (StL.get []) (.t (.sl sz es)) (StL.get []) [] := by
  intro h m a w hs hr K Q hK
  refine H h m a w hs hr K Q fun v h1 m1 w1 hv hs1 hf hN => ?_
  have hve : v = m1 id := hv.1
  subst hve
  obtain ⟨xs, k1, k2⟩ := hs1.rows id _ (get_self id _)
  let h2 : Heap := fun b => if blk (m1 id) = some b then w1.heap[b]? else h1 b
  have hh : h1.le h2 := fun b ob hb => by
    show (if blk (m1 id) = some b then w1.heap[b]? else h1 b) = some ob
    split
    · exact hs1.imm b ob hb
    · exact hb
  have himm : ∀ b ob, h2 b = some ob → w1.heap[b]? = some ob := fun b ob hb => by
    simp only [h2] at hb
    split at hb
    · exact hb
    · exact hs1.imm b ob hb
  have hx : RepT h2 (m1 id) (.sl sz es) := by
    simp only [RepT]
    rcases k1.2 with ⟨hv, hn⟩ | ⟨g, cap, cur, lo, hi, hv, hg, hf, hnc, hcm, hcs, ht⟩
    · exact ⟨none, 0, 0, hv, hn.symm, Nat.le_refl _, ⟨Nat.zero_le _, fun _ => rfl⟩, fun h => absurd rfl h⟩
    · refine ⟨_, _, cap, hv, rfl, hnc, ⟨hcm, fun h => by cases h⟩, fun _ => ⟨g, 0, rfl, RepEs.mono hh (fun j u hu => ?_) k2⟩⟩
      have hb : h2 g = some (.cells cur e (lo, hi)) := by
        show (if blk (m1 id) = some g then w1.heap[g]? else h1 g) = _
        rw [hv]
        simp [blk, hg]
      simp only [hcell, hb]
      rw [← ht, List.getElem?_take] at hu
      split at hu
      · simpa using hu
      · cases hu
  refine hK _ h2 m w1 (by simpa [RepA] using hx) ⟨himm, fun _ _ hx => by simp [StL.get] at hx, fun _ _ _ hx => by simp [StL.get] at hx, fun _ _ _ _ _ hx => by simp [StL.get] at hx⟩
    ⟨hf.os, hf.tape, hf.output, hf.size, fun b hb hn => ⟨(hf.keep b hb hn).1, ?_⟩, fun b ob hb => hh b ob (hf.grow b ob hb), fun _ _ _ hx => by simp [StL.get] at hx⟩ fun _ _ => rfl
  show (if blk (m1 id) = some b then w1.heap[b]? else h1 b) = h b
  rw [if_neg fun e => ?_]
  · exact (hf.keep b hb hn).2
  · rcases hf.fresh id _ b (get_self id _) e with h3 | ⟨_, _, h3, _⟩
    · omega
    · simp [StL.get] at h3
section
variable {P : Program} {nt : Nat} {ops : Array Oper} {o : Oper} {rest : List Oper} {env : EnvL} {st : StO} {acc : List SD} {K : EnvL → StO → List SD → Prop} {d : Nat}
theorem lx_buildSliceF {t elem : TypeId} {len : Nat} {parts : Array (Nat × Operand)} {sz bytes : Nat} {z : Value} {es : List T} (ho : o.op = .buildSlice t len parts) [tu : TyU P t (.slice elem)] [ti : TyI P elem sz bytes z]
    (hes : litEs 0 (parts.toList.map (fun p => (p.1, evalA env.get p.2))) = some es) (hside : (decide (es.length = len) && (es.all (fun e => decide (e.cells.length = sz)) && (decide (z.cells.size = sz) && (decide (0 < sz) && (z.cells.toList.all Value.oneCell' && decide (len * sz ≤ 16777216)))))) = true)
    (hd : o.dst = some d) (hn : (decide (d < nt)) = true) (hg : guardOK ops o env = true)
    (H : LexP P nt ops rest ((d, .t (.sl sz es)) :: env) st (⟨true, [], .t (.sl sz es), [], [], []⟩ :: acc) K) : LexP P nt ops (o :: rest) env st acc K := by
  simp only [Bool.and_eq_true, decide_eq_true_eq, List.all_eq_true] at hside
  obtain ⟨s1, s2, s3, s4, s5, s6⟩ := hside
  have e := litEs_spec hes
  subst s1
  have f := fill_lit (sz := sz) es [] 0 (by simp) s2
  simp only [List.nil_append] at f
  exact lx_pure (OpT.frz (opT_buildSlice (.loc d) ho tu ti s3 s4 s5 s6 (parts_lit _ _ 0 e s2 (by simp)) f rfl s2)) hd hn hg H
end
end Go.AL
/- A cut with a limit. -/
set_option linter.unusedVariables false
set_option linter.unusedSimpArgs false
namespace Go.AL
open Go Go.RowKit

section
variable {P : Program} {o : Oper} {ρ : Operand → AV}
theorem opT_slice_sl3 {t elem : TypeId} {x y u : Operand} {sz : Nat} {es : List T} {k k' : IntKind} {hh mm : Int} {bytes : Nat} {z : Value} (ho : o.op = .slice t x none (some y) (some u)) (hx : ρ x = .t (.sl sz es)) (hy : ρ y = .t (.int k hh)) (hu : ρ u = .t (.int k' mm)) (tu : TyU P t (.slice elem)) (ti : TyI P elem sz bytes z)
    (h0 : 0 ≤ hh) (h1 : hh ≤ mm) (h2 : mm ≤ (es.length : Int)) :
    OpT P o ρ (StL.get []) (.t (.sl sz (es.take hh.toNat))) (StL.get []) [] :=
  opT_pure fun h m A w _ hrep => by
    have r1 := hrep x (by simp [ho, Op.operands])
    have r2 := hrep y (by simp [ho, Op.operands])
    have r3 := hrep u (by simp [ho, Op.operands])
    rw [hx] at r1
    rw [hy] at r2
    rw [hu] at r3
    simp only [RepA, RepT] at r1 r2 r3
    obtain ⟨B, n, c, e1, e2, e3, e4, e5⟩ := r1
    have hb : (Instr.sliceBounds true n c none (some (A.eval y)) (some (A.eval u))).run P w = .ok (0, hh.toNat, mm.toNat) w := by
      simp [Instr.sliceBounds, run_sliceBound (P := P) (w := w) (y := c) r3 (by omega) (by omega), run_sliceBound (P := P) (w := w) (y := mm.toNat) r2 h0 (by omega)]
    refine ⟨.slice (if mm.toNat = 0 then B else B.map (·.add (0 * sz))) (hh.toNat - 0) (mm.toNat - 0), by simp [execOp, ho, Instr.sliceAt, Instr.slice, run_underlying tu.h, e1, hb, run_sizeOf ti], ?_⟩
    simp only [RepA, RepT]
    refine ⟨_, _, _, rfl, by simp; omega, by omega, ⟨by omega, fun hA => ?_⟩, fun hne => ?_⟩
    · split at hA
      · omega
      · cases B with
        | none => have := e4.2 rfl; omega
        | some a => cases hA
    obtain ⟨b, q, rfl, e6⟩ := e5 (by omega)
    refine ⟨b, q + 0 * sz, ?_, by rw [Nat.zero_mul, Nat.add_zero]; exact RepEs_take e6⟩
    rw [if_neg (by omega)]
    simp [add_flat]
end
section
variable {P : Program} {nt : Nat} {ops : Array Oper} {o : Oper} {rest : List Oper} {env : EnvL} {st : StO} {acc : List SD} {K : EnvL → StO → List SD → Prop} {d : Nat}
theorem lx_slice_sl3 {t elem : TypeId} {x y u : Operand} {sz : Nat} {es : List T} {k k' : IntKind} {hh mm : Int} {bytes : Nat} {z : Value} (ho : o.op = .slice t x none (some y) (some u)) (hx : evalA env.get x = .t (.sl sz es)) (hy : evalA env.get y = .t (.int k hh)) (hu : evalA env.get u = .t (.int k' mm)) [tu : TyU P t (.slice elem)] [ti : TyI P elem sz bytes z] (hd : o.dst = some d) (hn : (decide (d < nt)) = true) (hg : guardOK ops o env = true)
    (h0 : 0 ≤ hh) (h1 : hh ≤ mm) (h2 : mm ≤ (es.length : Int))
    (H : LexP P nt ops rest ((d, .t (.sl sz (es.take hh.toNat))) :: env) st (⟨true, [], .t (.sl sz (es.take hh.toNat)), [], [], []⟩ :: acc) K) : LexP P nt ops (o :: rest) env st acc K :=
  lx_pure (opT_slice_sl3 ho hx hy hu tu ti h0 h1 h2) hd hn hg H
end
end Go.AL
/- A store to a field of an element. -/
set_option linter.unusedVariables false
set_option linter.unusedSimpArgs false
namespace Go.AL
open Go Go.RowKit

section
variable {P : Program} {o : Oper} {ρ : Operand → AV}
end
section
variable {P : Program} {nt : Nat} {ops : Array Oper} {o : Oper} {rest : List Oper} {env : EnvL} {st : StO} {acc : List SD} {K : EnvL → StO → List SD → Prop} {d : Nat}
end
end Go.AL
/- An append whose result is data at once. -/
set_option linter.unusedVariables false
set_option linter.unusedSimpArgs false
namespace Go.AL
open Go Go.RowKit

section
variable {P : Program} {nt : Nat} {ops : Array Oper} {o : Oper} {rest : List Oper} {env : EnvL} {st : StO} {acc : List SD} {K : EnvL → StO → List SD → Prop} {d : Nat}
end
end Go.AL
/- A row that a call only reads. -/
set_option linter.unusedVariables false
set_option linter.unusedSimpArgs false
namespace Go.AL
open Go Go.RowKit

theorem RepAs_sub {h h' : Heap} {m : Names} {id : Id} {x : T} (hh : h.le h') (hx : RepT h' (m id) x) {g : Nat → Option Value} : ∀ {args : List AV} {o : Nat}, RepAs h m g o args → RepAs h' m g o (args.map (AV.sub id x))
  | [], _, _ => by simp [RepAs]
  | a :: rst, o, H => by
    simp only [RepAs] at H
    obtain ⟨⟨u, h1, h2⟩, h3⟩ := H
    simp only [List.map_cons, RepAs]
    exact ⟨⟨u, h1, RepA.sub hh hx h2⟩, RepAs_sub hh hx h3⟩
/-- A contract over data serves for a row of the caller's, which stays as it is; the result must be a scalar. -/
theorem Spec.borrow {P : Program} {f : FuncId} {args : List AV} {r : T} {k : Nat} {e : TypeId} {sz : Nat} {es : List T} (hr : ∀ h h' v, RepT h v r → RepT h' v r)
    (H : Spec P f (args.map (AV.sub (.par k) (.sl sz es))) [] (.t r) []) : Spec P f args [(.par k, .slt e sz es)] (.t r) [(.par k, .slt e sz es)] := by
  refine ⟨fun h m vs w hs hvs hrep => ?_⟩
  obtain ⟨xs, h1, h2⟩ := hs.rows (.par k) _ (get_self _ _)
  let h' : Heap := fun b => if blk (m (.par k)) = some b then w.heap[b]? else h b
  have hh : h.le h' := fun b ob hb => by
    show (if blk (m (.par k)) = some b then w.heap[b]? else h b) = some ob
    split
    · exact hs.imm b ob hb
    · exact hb
  have himm : ∀ b ob, h' b = some ob → w.heap[b]? = some ob := fun b ob hb => by
    simp only [h'] at hb
    split at hb
    · exact hb
    · exact hs.imm b ob hb
  have hx : RepT h' (m (.par k)) (.sl sz es) := by
    simp only [RepT]
    rcases h1.2 with ⟨hv, hn⟩ | ⟨g, cap, cur, lo, hi, hv, hg, hf, hnc, hcm, hcs, ht⟩
    · exact ⟨none, 0, 0, hv, hn.symm, Nat.le_refl _, ⟨Nat.zero_le _, fun _ => rfl⟩, fun h => absurd rfl h⟩
    · refine ⟨_, _, cap, hv, rfl, hnc, ⟨hcm, fun h => by cases h⟩, fun _ => ⟨g, 0, rfl, RepEs.mono hh (fun j u hu => ?_) h2⟩⟩
      have hb : h' g = some (.cells cur e (lo, hi)) := by
        show (if blk (m (.par k)) = some g then w.heap[g]? else h g) = _
        rw [hv]
        simp [blk, hg]
      simp only [hcell, hb]
      rw [← ht, List.getElem?_take] at hu
      split at hu
      · simpa using hu
      · cases hu
  refine (H.run h' m vs w ⟨himm, fun _ _ hx => by simp [StL.get] at hx, fun _ _ _ hx => by simp [StL.get] at hx, fun _ _ _ _ _ hx => by simp [StL.get] at hx⟩ (by simpa using hvs) (RepAs_sub hh hx hrep)).mono ?_
  rintro ex w' ⟨v, h3, m3, rfl, hv, hs3, hf3⟩
  have hm3 : m3 (.par k) = m (.par k) := hf3.par k
  let h4 : Heap := fun b => if blk (m (.par k)) = some b then none else h3 b
  have sepk : ∀ b, blk (m (.par k)) = some b → h b = none ∧ b < w.heap.size := fun b hb => hs.sep _ _ b (get_self _ _) hb
  have hle : h.le h4 := fun b ob hb => by
    show (if blk (m (.par k)) = some b then none else h3 b) = some ob
    rw [if_neg fun e => by rw [(sepk b e).1] at hb; cases hb]
    exact hf3.foot.grow b ob (hh b ob hb)
  have hsame : ∀ b, blk (m (.par k)) = some b → ∀ ob, w.heap[b]? = some ob → w'.heap[b]? = some ob := fun b hb ob ho =>
    hs3.imm b ob (hf3.foot.grow b ob (by show (if blk (m (.par k)) = some b then w.heap[b]? else h b) = some ob; rw [if_pos hb]; exact ho))
  have one : ∀ {x : Id} {row : Row}, StL.get [(Id.par k, Row.slt e sz es)] x = some row → x = .par k ∧ row = .slt e sz es := fun {x row} hx => by
    simp only [StL.get] at hx
    split at hx
    · rename_i e1; cases hx; exact ⟨e1.symm, rfl⟩
    · cases hx
  refine ⟨v, h4, m3, rfl, ?_, ⟨?_, ?_, ?_, ?_⟩, ⟨⟨hf3.foot.os, hf3.foot.tape, hf3.foot.output, hf3.foot.size, ?_, hle, ?_⟩, hf3.par⟩⟩
  · simp only [RepA] at hv ⊢
    exact hr _ _ _ hv
  · intro b ob hb
    simp only [h4] at hb
    split at hb
    · cases hb
    · exact hs3.imm b ob hb
  · intro x row hx
    obtain ⟨rfl, rfl⟩ := one hx
    refine ⟨xs, ⟨h1.1, ?_⟩, RepEs.mono hle (fun _ _ hu => hu) h2⟩
    rw [hm3]
    rcases h1.2 with h5 | ⟨g, cap, cur, lo, hi, hv', hg, rest⟩
    · exact .inl h5
    · exact .inr ⟨g, cap, cur, lo, hi, hv', hsame g (by rw [hv']; rfl) _ hg, rest⟩
  · intro x row b hx hb
    obtain ⟨rfl, rfl⟩ := one hx
    rw [hm3] at hb
    refine ⟨?_, Nat.lt_of_lt_of_le (sepk b hb).2 hf3.foot.size⟩
    show (if blk (m (.par k)) = some b then none else h3 b) = none
    rw [if_pos hb]
  · intro x y r1 r2 b hx hy _ _
    rw [(one hx).1, (one hy).1]
  · intro b hb hn
    have hne : ¬ blk (m (.par k)) = some b := hn _ _ (get_self _ _)
    obtain ⟨q1, q2⟩ := hf3.foot.keep b hb fun _ _ hx => by simp [StL.get] at hx
    refine ⟨q1, ?_⟩
    show (if blk (m (.par k)) = some b then none else h3 b) = h b
    rw [if_neg hne, q2]
    show (if blk (m (.par k)) = some b then w.heap[b]? else h b) = h b
    rw [if_neg hne]
  · intro x row b hx hb
    obtain ⟨rfl, rfl⟩ := one hx
    rw [hm3] at hb
    exact .inr ⟨.par k, _, get_self _ _, hb⟩
end Go.AL
/- Slices without room behind them. -/
set_option linter.unusedVariables false
set_option linter.unusedSimpArgs false
namespace Go.AL
open Go Go.RowKit

section
variable {P : Program} {o : Oper} {ρ : Operand → AV} {w : World} {h : Heap} {m : Names}
theorem run_append_tight {t t2 ty elem : TypeId} {sz bytes : Nat} {z : Value} {d2 : TypeDesc} (tu : TyU P t (.slice elem)) (tu2 : TyU P t2 d2) (hd2 : d2 = .string ∨ ∃ e, d2 = .slice e) (ti : TyI P elem sz bytes z) (hz : z.cells.size = sz) (hsz : 0 < sz) {base : Option Addr} {x : Value} {n mm : Nat} {xs news : List Value} (hxl : xs.length = n * sz)
    (hl : news.length = mm * sz) (hm0 : 0 < mm) (hlen : ∀ w' : World, (Builtin.lenOf x).run P w' = .ok mm w') (hfirst : ∀ w' : World, w'.heap = w.heap → (Builtin.firstCells sz mm x).run P w' = .ok news.toArray w')
    (hfo : ∀ w' : World, w'.heap = w.heap → (Builtin.firstCells sz n (.slice base n n)).run P w' = .ok xs.toArray w') (h63 : n + mm ≤ maxLen) (hbytes : (n + mm) * bytes ≤ 140737488355328) :
    ∃ v' w', (Builtin.append_ #[t, t2] ty #[.slice base n n, x]).run P w = .ok v' w' ∧ OwnRow w' elem sz v' (n + mm) (xs ++ news) ∧ Made1 w w' ∧ blk v' = some w.heap.size ∧ v'.oneCell' = true := by
  obtain ⟨i, hi, hisz, hiby, hiz⟩ := ti.get
  have hsmall : n + mm ≤ 9223372036854775807 := by simpa [maxLen] using h63
  have hlenx : (xs ++ news).length = (n + mm) * sz := by rw [List.length_append, hxl, hl, Nat.add_mul]
  have hn : ¬ (n + mm ≤ n) := by omega
  have h63' : ¬ (9223372036854775807 < ((n : Int) + (mm : Int))) := by omega
  have h48' : ¬ (281474976710656 < Builtin.nextslicecap (n + mm) n * i.bytes) := by
    have := growslice_fits (need := n + mm) (old := n) (bytes := i.bytes) (by omega) (by rw [hiby]; exact hbytes)
    omega
  have hge := grownCap_ge w (n + mm) n elem
  have hcm := grownCap_le_maxLen w (n + mm) n elem h63
  have hf := hfirst w.drew rfl
  have hfo' := hfo w.drew rfl
  subst hisz
  refine ⟨.slice (some ⟨w.heap.size, 0, none⟩) (n + mm) (grownCap w (n + mm) n elem), w.drew.alloc (.cells (xs.toArray ++ news.toArray ++ Builtin.zeroCells z.cells (grownCap w (n + mm) n elem - (n + mm))) elem), ?_, ?_, ?_, rfl, rfl⟩
  · rcases hd2 with rfl | ⟨e2, rfl⟩
    all_goals
      simp [Builtin.append_, run_underlying tu.h, run_underlying tu2.h, sizeOf, typeInfo, zeroValue, hi, hiz, hlen, hn, h63', h48', Question.forced, hf, hfo', newRow, grownCap]
      first
        | done
        | (rw [if_neg (by omega)]
           congr 2
           apply Array.ext'
           simp [List.append_assoc])
        | (congr 2
           apply Array.ext'
           simp [List.append_assoc])
  · refine ⟨hlenx, .inr ⟨w.heap.size, _, _, 0, 0, rfl, heap_alloc_new w.drew _, .inl (Nat.le_refl _), hge, hcm, ?_, ?_⟩⟩
    · simp only [Array.size_append, List.size_toArray, size_zeroCells, hz, hxl, hl, ← Nat.add_mul]
      congr 1
      omega
    · simp only [Array.toList_append, List.append_assoc]
      rw [← List.append_assoc, ← hlenx]
      exact List.take_left
  · exact ⟨rfl, rfl, rfl, by simp, fun k hk => heap_alloc_old w.drew _ hk⟩

/-- append(s, ys...), s without room: a new row. -/
theorem opT_append_slq {s x : Operand} {t t2 elem e2 : TypeId} {sz bytes : Nat} {z : Value} {xs ys : List T} (id' : Id) (ho : o.op = .call { callee := .builtin .append, args := #[s, x], argTypes := #[t, t2] }) (hs1 : ρ s = .t (.slq sz xs)) (hx1 : ρ x = .t (.sl sz ys)) (tu : TyU P t (.slice elem)) (ti : TyI P elem sz bytes z) (tu2 : TyU P t2 (.slice e2)) (hz : z.cells.size = sz) (hsz : 0 < sz) (hm0 : 0 < ys.length)
    (hb : (xs.length + ys.length) * bytes ≤ 140737488355328) (hm : xs.length + ys.length ≤ 9223372036854775807) :
    OpT P o ρ (StL.get []) (.row id') (StL.get [(id', .slt elem sz (xs ++ ys))]) [id'] := by
  refine OpT.of ?_
  intro h m a w hs hr K Q hK
  have r1 := hr s (by simp [ho, Op.operands, Call.operands])
  have r2 := hr x (by simp [ho, Op.operands, Call.operands])
  rw [hs1] at r1
  rw [hx1] at r2
  obtain ⟨news, e1, e2', e3, e4, e5⟩ := src_cells (P := P) (R2 := []) (d := .slice e2) (.sl (sz := sz) (ys := ys)) hs (fun _ _ h => by simp [StL.get] at h) r2
  simp only [RepA, RepT] at r1
  obtain ⟨A, n, q1, q2, q3, q4⟩ := r1
  obtain ⟨us, u1, u2, u3⟩ : ∃ us : List Value, us.length = n * sz ∧ (∀ w' : World, w'.heap = w.heap → (Builtin.firstCells sz n (.slice A n n)).run P w' = .ok us.toArray w') ∧ RepEs h (fun j => us[j]?) 0 sz xs := by
    by_cases h0 : n = 0
    · have : xs = [] := List.eq_nil_of_length_eq_zero (by omega)
      subst this
      exact ⟨[], by simp [h0], firstCells_of (P := P) (w := w) (A := A) rfl (by simp [h0]) (fun hn => absurd h0 hn), by simp [RepEs]⟩
    · obtain ⟨b, q, rfl, e6⟩ := q4 h0
      obtain ⟨vs, k1, k2, k3, k4⟩ := RepEs_cells e6
      exact ⟨vs, by rw [q2]; exact k1, firstCells_of (P := P) rfl (by rw [q2]; exact k1) fun _ => ⟨b, q, rfl, fun j u hu => cell_of_imm hs (k2 j u hu)⟩, k4⟩
  obtain ⟨v', w', p1, p2, p3, p4, p5⟩ := run_append_tight (P := P) (w := w) (ty := o.type) (base := A) (x := a.eval x) tu tu2 (.inr ⟨_, rfl⟩) ti hz hsz u1 e2' hm0 e1 e4 u2 (by unfold maxLen; omega) (by rw [q2]; exact hb)
  have hrun : (execOp a.eval o).run P w = .ok (.value v') w' := by
    simp only [execOp, ho, resolve, invoke, builtin, Sem.run_bind, Sem.run_pure, Result.andThen_ok, List.map_toArray, List.map_cons, List.map_nil]
    rw [q1, p1]
    rfl
  have hrow : SimRow h (newNames m id' v') w' id' (.slt elem sz (xs ++ ys)) := by
    refine ⟨us ++ news, by rw [newNames_same, List.length_append, ← q2]; exact p2, ?_⟩
    rw [RepEs_append]
    have hxs : us.length = xs.length * sz := by rw [u1, q2]
    refine ⟨RepEs_range (g := fun j => us[j]?) (fun j _ hj => ?_) u3, ?_⟩
    · show (us ++ news)[j]? = us[j]?
      rw [List.getElem?_append, if_pos (by omega)]
    · refine RepEs_of_get fun i e' he => ?_
      obtain ⟨c1, c2⟩ := RepEs_get e5 he
      refine ⟨c1, ?_⟩
      have := RepL_shift (g := fun j => news[j]?) (g' := fun j => (us ++ news)[j]?) (d := xs.length * sz) (fun j u hu => by
        show (us ++ news)[j + xs.length * sz]? = some u
        rw [List.getElem?_append, if_neg (by omega)]
        rw [hxs]
        simpa using hu) c2
      rwa [show 0 + i * sz + xs.length * sz = 0 + xs.length * sz + i * sz from by omega] at this
  obtain ⟨s1, s2⟩ := new_row (m := m) hs.imm p3 (id := id') (v := v') p4 hrow
  unfold Oper.wp
  rw [hrun]
  exact hK _ h _ _ ⟨by rw [newNames_same], p5⟩ s1 s2 fun _ => newNames_other

theorem opT_slice_slq {t elem : TypeId} {x y u : Operand} {sz : Nat} {es : List T} {k k' : IntKind} {hh mm : Int} {bytes : Nat} {z : Value} (ho : o.op = .slice t x none (some y) (some u)) (hx : ρ x = .t (.sl sz es)) (hy : ρ y = .t (.int k hh)) (hu : ρ u = .t (.int k' mm)) (tu : TyU P t (.slice elem)) (ti : TyI P elem sz bytes z)
    (h0 : 0 ≤ hh) (h1 : hh = mm) (h2 : mm ≤ (es.length : Int)) :
    OpT P o ρ (StL.get []) (.t (.slq sz (es.take hh.toNat))) (StL.get []) [] :=
  opT_pure fun h m A w _ hrep => by
    have r1 := hrep x (by simp [ho, Op.operands])
    have r2 := hrep y (by simp [ho, Op.operands])
    have r3 := hrep u (by simp [ho, Op.operands])
    rw [hx] at r1
    rw [hy] at r2
    rw [hu] at r3
    subst h1
    simp only [RepA, RepT] at r1 r2 r3
    obtain ⟨B, n, c, e1, e2, e3, e4, e5⟩ := r1
    have hb : (Instr.sliceBounds true n c none (some (A.eval y)) (some (A.eval u))).run P w = .ok (0, hh.toNat, hh.toNat) w := by
      simp [Instr.sliceBounds, run_sliceBound (P := P) (w := w) (y := c) r3 (by omega) (by omega), run_sliceBound (P := P) (w := w) (y := hh.toNat) r2 h0 (by omega)]
    refine ⟨.slice (if hh.toNat = 0 then B else B.map (·.add (0 * sz))) (hh.toNat - 0) (hh.toNat - 0), by simp [execOp, ho, Instr.sliceAt, Instr.slice, run_underlying tu.h, e1, hb, run_sizeOf ti], ?_⟩
    simp only [RepA, RepT]
    refine ⟨_, _, rfl, by simp; omega, ⟨by omega, fun hA => ?_⟩, fun hne => ?_⟩
    · split at hA
      · omega
      · cases B with
        | none => have := e4.2 rfl; omega
        | some a => cases hA
    obtain ⟨b, q, rfl, e6⟩ := e5 (by omega)
    refine ⟨b, q + 0 * sz, ?_, by rw [Nat.zero_mul, Nat.add_zero]; exact RepEs_take e6⟩
    rw [if_neg (by omega)]
    simp [add_flat]

/-- '[]T{..}', data at once, without room. -/
theorem opT_buildSliceQ {t elem : TypeId} {len : Nat} {parts : Array (Nat × Operand)} {sz bytes : Nat} {z : Value} {qs : List (Nat × AV)} {es : List T} (ho : o.op = .buildSlice t len parts) (tu : TyU P t (.slice elem)) (ti : TyI P elem sz bytes z) (hz : z.cells.size = sz) (hsz : 0 < sz) (hz1 : ∀ v ∈ z.cells.toList, v.oneCell' = true) (hlen : len * sz ≤ 16777216)
    (hp : PartsOK (fun i => some (i * sz, sz)) ρ (len * sz) parts.toList qs) (hq : fillA (List.replicate (len * sz) .junk) qs = (es.flatMap T.cells).map AV.t) (hes : es.length = len) (hel : ∀ e ∈ es, e.cells.length = sz) :
    OpT P o ρ (StL.get []) (.t (.slq sz es)) (StL.get []) [] := by
  refine OpT.of ?_
  intro h m a w hs hr K Q hK
  have hcells : ∀ j, j < len * sz → ∃ u, ((Array.range (len * sz)).map (z.cells[· % z.cells.size]!))[j]? = some u ∧ u.oneCell' = true := fun j hj => by
    refine ⟨_, by simp [hj]; rfl, ?_⟩
    have hlt : j % z.cells.size < z.cells.size := Nat.mod_lt _ (by omega)
    have : z.cells[j % z.cells.size]! = z.cells[j % z.cells.size] := by simp [hlt]
    rw [this]
    exact hz1 _ (by simp)
  have hjunk : ∀ n q, q + n ≤ len * sz → RepAL h m (fun j => ((Array.range (len * sz)).map (z.cells[· % z.cells.size]!))[j]?) q (List.replicate n .junk) := by
    intro n
    induction n with
    | zero => intro q _; simp [RepAL]
    | succ n ih =>
      intro q hq
      rw [List.replicate_succ]
      simp only [RepAL]
      obtain ⟨u, h1, h2⟩ := hcells q (by omega)
      exact ⟨⟨u, h1, h2, by simp [RepA]⟩, ih (q + 1) (by omega)⟩
  obtain ⟨cells', k1, k2, k3, k4⟩ := run_fill (a := a) (h := h) (m := m) (cells := (Array.range (len * sz)).map (z.cells[· % z.cells.size]!)) (cs := List.replicate (len * sz) .junk) hp (fun x hx => hr x.2 (by simp [ho, Op.operands]; exact ⟨x.1, by simpa using hx⟩)) (by simp) (by simp) (hjunk _ 0 (by omega))
  rw [hq] at k4
  have hmap : (parts.map fun (x : Nat × Operand) => (x.1, a.eval x.2)).toList = parts.toList.map fun p => (p.1, a.eval p.2) := by simp
  have hrun : (execOp a.eval o).run P w = .ok (.value (.slice (some ⟨w.heap.size, 0, none⟩) len len)) (w.alloc (.cells cells' elem)) := by
    have hl : ¬ (len * sz > 2 ^ 24) := by omega
    simp only [execOp, ho, Instr.buildSlice, Sem.run_bind, run_underlying tu.h, Result.andThen_ok, run_sizeOf ti, hl, if_false]
    by_cases h0 : len * sz = 0
    · rw [if_pos h0]
      have hh : Array.range (len * sz) = #[] := by rw [h0]; rfl
      simp only [hh, Array.map_empty] at k1
      simp only [Sem.run_pure, Result.andThen_ok, hmap, hh, Array.map_empty, k1]
      simp [newRow]
    · rw [if_neg h0]
      simp only [Sem.run_bind, run_zeroValue ti, Sem.run_pure, Result.andThen_ok, hmap, k1]
      simp [newRow]
  have hfree : ∀ b ob, h b = some ob → b < w.heap.size := fun b ob hb => (Array.getElem?_eq_some_iff.1 (hs.imm b ob hb)).1
  let h2 : Heap := fun b => if b = w.heap.size then some (.cells cells' elem) else h b
  have hh : h.le h2 := fun b ob hb => by
    show (if b = w.heap.size then _ else h b) = some ob
    rw [if_neg (by have := hfree b ob hb; omega)]; exact hb
  have himm : ∀ b ob, h2 b = some ob → (w.alloc (.cells cells' elem)).heap[b]? = some ob := fun b ob hb => by
    simp only [h2] at hb
    split at hb
    · rename_i e; subst e; cases hb; exact heap_alloc_new w _
    · rw [heap_alloc_old w _ (hfree b ob hb)]; exact hs.imm b ob hb
  have hx : RepT h2 (.slice (some ⟨w.heap.size, 0, none⟩) len len) (.slq sz es) := by
    simp only [RepT]
    refine ⟨_, _, rfl, hes.symm, ⟨?_, fun h => by cases h⟩, fun _ => ⟨w.heap.size, 0, rfl, ?_⟩⟩
    · have : len ≤ len * sz := Nat.le_mul_of_pos_right _ hsz
      unfold maxLen; omega
    · refine RepEs.mono hh (fun j u hu => ?_) (RepEs_of_flat hel (RepL_of_AL k4))
      have hb : h2 w.heap.size = some (.cells cells' elem) := by show (if _ then _ else _) = _; rw [if_pos rfl]
      simp only [hcell, hb]
      exact hu
  unfold Oper.wp
  rw [hrun]
  refine hK _ h2 m _ (by simpa [RepA] using hx) ⟨himm, fun _ _ hx => by simp [StL.get] at hx, fun _ _ _ hx => by simp [StL.get] at hx, fun _ _ _ _ _ hx => by simp [StL.get] at hx⟩
    ⟨rfl, rfl, rfl, by simp, fun b hb _ => ⟨heap_alloc_old w _ hb, ?_⟩, fun b ob hb => hh b ob hb, fun _ _ _ hx => by simp [StL.get] at hx⟩ fun _ _ => rfl
  show (if b = w.heap.size then _ else h b) = h b
  rw [if_neg (by omega)]
end
section
variable {P : Program} {nt : Nat} {ops : Array Oper} {o : Oper} {rest : List Oper} {env : EnvL} {st : StO} {acc : List SD} {K : EnvL → StO → List SD → Prop} {d : Nat}
theorem lx_slice_slq {t elem : TypeId} {x y u : Operand} {sz : Nat} {es : List T} {k k' : IntKind} {hh mm : Int} {bytes : Nat} {z : Value} (ho : o.op = .slice t x none (some y) (some u)) (hx : evalA env.get x = .t (.sl sz es)) (hy : evalA env.get y = .t (.int k hh)) (hu : evalA env.get u = .t (.int k' mm)) [tu : TyU P t (.slice elem)] [ti : TyI P elem sz bytes z] (hd : o.dst = some d) (hn : (decide (d < nt)) = true) (hg : guardOK ops o env = true)
    (h0 : 0 ≤ hh) (h1 : hh = mm) (h2 : mm ≤ (es.length : Int))
    (H : LexP P nt ops rest ((d, .t (.slq sz (es.take hh.toNat))) :: env) st (⟨true, [], .t (.slq sz (es.take hh.toNat)), [], [], []⟩ :: acc) K) : LexP P nt ops (o :: rest) env st acc K :=
  lx_pure (opT_slice_slq ho hx hy hu tu ti h0 h1 h2) hd hn hg H
theorem lx_buildSliceQ {t elem : TypeId} {len : Nat} {parts : Array (Nat × Operand)} {sz bytes : Nat} {z : Value} {es : List T} (ho : o.op = .buildSlice t len parts) [tu : TyU P t (.slice elem)] [ti : TyI P elem sz bytes z]
    (hes : litEs 0 (parts.toList.map (fun p => (p.1, evalA env.get p.2))) = some es) (hside : (decide (es.length = len) && (es.all (fun e => decide (e.cells.length = sz)) && (decide (z.cells.size = sz) && (decide (0 < sz) && (z.cells.toList.all Value.oneCell' && decide (len * sz ≤ 16777216)))))) = true)
    (hd : o.dst = some d) (hn : (decide (d < nt)) = true) (hg : guardOK ops o env = true)
    (H : LexP P nt ops rest ((d, .t (.slq sz es)) :: env) st (⟨true, [], .t (.slq sz es), [], [], []⟩ :: acc) K) : LexP P nt ops (o :: rest) env st acc K := by
  simp only [Bool.and_eq_true, decide_eq_true_eq, List.all_eq_true] at hside
  obtain ⟨s1, s2, s3, s4, s5, s6⟩ := hside
  have e := litEs_spec hes
  subst s1
  have f := fill_lit (sz := sz) es [] 0 (by simp) s2
  simp only [List.nil_append] at f
  exact lx_pure (opT_buildSliceQ ho tu ti s3 s4 s5 s6 (parts_lit _ _ 0 e s2 (by simp)) f rfl s2) hd hn hg H
end
end Go.AL
/- Appends to what has no room, whose result is data at once. -/
set_option linter.unusedVariables false
namespace Go.AL
open Go Go.RowKit

section
variable {P : Program} {nt : Nat} {ops : Array Oper} {o : Oper} {rest : List Oper} {env : EnvL} {st : StO} {acc : List SD} {K : EnvL → StO → List SD → Prop} {d : Nat}
theorem lx_append_slqF {s x : Operand} {t t2 elem e2 : TypeId} {sz bytes : Nat} {z : Value} {xs ys : List T} (ho : o.op = .call { callee := .builtin .append, args := #[s, x], argTypes := #[t, t2] }) (hs1 : evalA env.get s = .t (.slq sz xs)) (hx : evalA env.get x = .t (.sl sz ys)) [tu : TyU P t (.slice elem)] [ti : TyI P elem sz bytes z] [tu2 : TyU P t2 (.slice e2)]
    (hside : (decide (z.cells.size = sz) && (decide (0 < sz))) = true)
    (hd : o.dst = some d) (hn : (decide (d < nt)) = true) (hg : guardOK ops o env = true)
    (hm0 : 0 < ys.length) (hb : (xs.length + ys.length) * bytes ≤ 140737488355328) (hm : xs.length + ys.length ≤ 9223372036854775807)
    (H : LexP P nt ops rest ((d, .t (.sl sz (xs ++ ys))) :: env) st (⟨true, [], .t (.sl sz (xs ++ ys)), [], [], []⟩ :: acc) K) : LexP P nt ops (o :: rest) env st acc K := by
  simp only [Bool.and_eq_true, decide_eq_true_eq] at hside
  exact lx_pure (OpT.frz (opT_append_slq (.loc d) ho hs1 hx tu ti tu2 hside.1 hside.2 hm0 hb hm)) hd hn hg H
theorem lx_append_nilF {s x : Operand} {t t2 elem e2 : TypeId} {sz bytes : Nat} {z : Value} {ys : List T} (ho : o.op = .call { callee := .builtin .append, args := #[s, x], argTypes := #[t, t2] }) (hs1 : evalA env.get s = .t .nilsl) (hx : evalA env.get x = .t (.sl sz ys)) [tu : TyU P t (.slice elem)] [ti : TyI P elem sz bytes z] [tu2 : TyU P t2 (.slice e2)]
    (hside : (decide (z.cells.size = sz) && (decide (0 < sz))) = true)
    (hd : o.dst = some d) (hn : (decide (d < nt)) = true) (hg : guardOK ops o env = true)
    (hb : ys.length * bytes ≤ 140737488355328) (hm : ys.length ≤ 9223372036854775807)
    (H : LexP P nt ops rest ((d, .t (.sl sz ys)) :: env) st (⟨true, [], .t (.sl sz ys), [], [], []⟩ :: acc) K) : LexP P nt ops (o :: rest) env st acc K := by
  simp only [Bool.and_eq_true, decide_eq_true_eq] at hside
  exact lx_pure (OpT.frz (opT_append_nil (R2 := []) (.loc d) ho hs1 tu ti tu2 (by rw [hx]; exact .sl) (by rw [hx]) hside.1 hside.2 (by simp [StL.ids]) (by rw [hx]; rfl) hb hm)) hd hn hg H
end
end Go.AL
