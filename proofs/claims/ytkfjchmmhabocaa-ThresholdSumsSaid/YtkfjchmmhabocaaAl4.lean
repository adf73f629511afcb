/- The layer of abstract values, fourth part: ranges over strings and maps, interfaces against nil, laid variables; each under the conditions that its own theorem names. -/
import Derived.Test.YtkfjchmmhabocaaAl3
import Derived.Maps.RangeRun
import Derived.Lib.LaidTab
import Derived.Lib.LaidU8
/- Ranges over strings and over maps; interfaces against nil. -/
set_option linter.unusedVariables false
set_option linter.unusedSimpArgs false
namespace Go.AL
open Go Go.RowKit

section
variable {P : Program} {o : Oper} {ρ : Operand → AV}
/-! ### Interfaces against nil -/
def ifNil : T → Option Bool
  | .nili => some true
  | .iface => some false
  | .ifi _ _ _ => some false
  | _ => none
/-- A value put into an interface. -/
def notIface : TypeDesc → Bool
  | .interface _ => false
  | _ => true
/-! ### A range over a string -/
/-! ### A range over a map -/
end

section
variable {P : Program} {nt : Nat} {ops : Array Oper} {o : Oper} {rest : List Oper} {env : EnvL} {st : StO} {acc : List SD} {K : EnvL → StO → List SD → Prop} {d : Nat}
end
end Go.AL
/- Package-level variables that are laid; errors that are whole numbers, compared. -/
set_option linter.unusedVariables false
set_option linter.unusedSimpArgs false
namespace Go.AL
open Go Go.RowKit

class CmpT (P : Program) (t : TypeId) : Prop where
  h : ∃ i, P.info? t = some i ∧ i.comparable = true
theorem CmpT.of {P : Program} {t : TypeId} (h : (P.info? t).map (·.comparable) = some true) : CmpT P t := ⟨by
  cases e : P.info? t with
  | none => rw [e] at h; cases h
  | some i => rw [e] at h; exact ⟨i, rfl, by simpa using h⟩⟩

section
variable {P : Program} {o : Oper} {ρ : Operand → AV}
/-- A variable that holds an error. -/
def isErrVar : Obj → Bool
  | .cells cs _ _ => match cs.toList with
    | [.iface _ _] => true
    | _ => false
  | _ => false
/-- An element of an array that is laid. -/
def isTabOf (k : IntKind) (ns : List Int) : Obj → Prop
  | .cells cs _ _ => cs.toList = ns.map (Value.int k)
  | _ => False
end
section
variable {P : Program} {nt : Nat} {ops : Array Oper} {o : Oper} {rest : List Oper} {env : EnvL} {st : StO} {acc : List SD} {K : EnvL → StO → List SD → Prop} {d : Nat}
end
end Go.AL
/- The step of a range over a map. -/
set_option linter.unusedVariables false
set_option linter.unusedSimpArgs false
namespace Go.AL
open Go Go.RowKit

section
variable {P : Program} {nt : Nat}
end

section
variable {P : Program} {nt : Nat} {ops : Array Oper} {o : Oper} {rest : List Oper} {env : EnvL} {st : StO} {acc : List SD} {K : EnvL → StO → List SD → Prop} {d : Nat}
end

section
variable {P : Program} {nt : Nat} {ops : Array Oper} {o : Oper} {rest : List Oper} {env : EnvL} {st : StO} {acc : List SD} {K : EnvL → StO → List SD → Prop} {d : Nat}
end
end Go.AL
/- Three results, the first of them a struct that is named. -/
set_option linter.unusedVariables false
namespace Go.AL
open Go Go.RowKit
section
variable {P : Program} {fn : Func} {env : EnvL} {st : StO}
end
end Go.AL
/- Structs of strings and whole numbers, compared. -/
set_option linter.unusedVariables false
set_option linter.unusedSimpArgs false
namespace Go.AL
open Go Go.RowKit

def isFlatT (P : Program) (ty : TypeId) : T → Prop
  | .int k _ => P.underlying ty = some (.int k)
  | .str _ => P.underlying ty = some .string
  | .bool _ => P.underlying ty = some .bool
  | _ => False
def tEq : T → T → Bool
  | .int _ a, .int _ b => a == b
  | .str a, .str b => decide (a = b)
  | .bool a, .bool b => a == b
  | _, _ => false
/-- Fields that lie one behind the other, and what they hold in two structs. -/
def FlatE (P : Program) : List Field → Nat → List T → List T → Prop
  | [], _, [], [] => True
  | f :: fs, i, x :: xs, y :: ys => f.name ≠ "_" ∧ f.offset = i ∧ isFlatT P f.type x ∧ isFlatT P f.type y ∧ FlatE P fs (i + 1) xs ys
  | _, _, _, _ => False
def tEqs : List T → List T → Bool
  | x :: xs, y :: ys => tEq x y && tEqs xs ys
  | _, _ => true
theorem tEq_refl : ∀ {P : Program} {ty : TypeId} {x : T}, isFlatT P ty x → tEq x x = true
  | P, ty, x, h => by cases x <;> simp [isFlatT, tEq] at * 
theorem tEqs_refl {P : Program} : ∀ {fs : List Field} {i : Nat} {xs : List T}, FlatE P fs i xs xs → tEqs xs xs = true
  | [], i, [], _ => rfl
  | f :: fs, i, x :: xs, h => by rw [tEqs, tEq_refl h.2.2.1, tEqs_refl h.2.2.2.2]; rfl
  | [], _, _ :: _, h => h.elim
  | _ :: _, _, [], h => h.elim
section
variable {P : Program} {o : Oper} {ρ : Operand → AV}
theorem run_eq_flat {ty : TypeId} {x y : T} {u v : Value} {h : Heap} {w : World} (d : Nat) (hx : isFlatT P ty x) (hy : isFlatT P ty y) (r1 : RepT h u x) (r2 : RepT h v y) : (Op.equalIn (d + 1) ty u v).run P w = .ok (tEq x y) w := by
  cases x <;> simp only [isFlatT] at hx
  · cases y <;> simp only [isFlatT] at hy
    · rw [hx] at hy
      cases hy
      simp only [RepT] at r1 r2
      subst r1; subst r2
      simp [Op.equalIn, run_underlying hx, tEq]
    · rw [hx] at hy; cases hy
    · rw [hx] at hy; cases hy
  · cases y <;> simp only [isFlatT] at hy
    · rw [hx] at hy; cases hy
    · simp only [RepT] at r1 r2
      subst r1; subst r2
      simp [Op.equalIn, run_underlying hx, tEq]
    · rw [hx] at hy; cases hy
  · cases y <;> simp only [isFlatT] at hy
    · rw [hx] at hy; cases hy
    · rw [hx] at hy; cases hy
    · simp only [RepT] at r1 r2
      subst r1; subst r2
      simp [Op.equalIn, run_underlying hx, tEq, ba_beq]
theorem run_part_flat {ty : TypeId} {x : T} {u : Value} {vs : Array Value} {i : Nat} {w : World} (hx : isFlatT P ty x) (hu : vs[i]? = some u) : (part ty vs i).run P w = .ok u w := by
  have ha : (isAgg ty).run P w = .ok false w := by
    cases x <;> simp only [isFlatT] at hx <;> exact run_isAgg (d := _) ⟨hx⟩
  simp [part, ha, hu]
theorem run_fields_flat {h : Heap} {w : World} {v1 v2 : Array Value} (d : Nat) : ∀ (fs : List Field) (i : Nat) (xs ys : List T), FlatE P fs i xs ys → RepL h (fun j => v1[j]?) i xs → RepL h (fun j => v2[j]?) i ys →
    (forIn fs ((none : Option Bool), ()) fun f __s => (if f.name = "_" then pure (ForInStep.yield ((none : Option Bool), ())) else do
      let __do_lift ← part f.type v1 f.offset
      let __do_lift_1 ← part f.type v2 f.offset
      let __do_lift ← Op.equalIn (d + 1) f.type __do_lift __do_lift_1
      if __do_lift = false then pure (ForInStep.done (some false, ())) else pure (ForInStep.yield (none, ())) : Sem (ForInStep (Option Bool × Unit)))).run P w = .ok (if tEqs xs ys then (none, ()) else (some false, ())) w
  | [], i, [], [], _, _, _ => by simp [tEqs]
  | [], _, _ :: _, _, H, _, _ => H.elim
  | [], _, [], _ :: _, H, _, _ => H.elim
  | _ :: _, _, [], _, H, _, _ => H.elim
  | _ :: _, _, _ :: _, [], H, _, _ => H.elim
  | f :: fs, i, x :: xs, y :: ys, H, ⟨⟨u, u1, _, u2⟩, u3⟩, ⟨⟨v, w1, _, w2⟩, w3⟩ => by
    obtain ⟨hn, ho, hx, hy, hr⟩ := H
    have ih := run_fields_flat (w := w) d fs (i + 1) xs ys hr u3 w3
    subst ho
    rw [List.forIn_cons]
    simp only [if_neg hn, Sem.run_bind, run_part_flat hx u1, run_part_flat hy w1, run_eq_flat d hx hy u2 w2, Result.andThen_ok]
    cases he : tEq x y with
    | true =>
      simp only [Bool.true_eq_false, if_false, Sem.run_pure, Result.andThen_ok]
      rw [ih, tEqs, he, Bool.true_and]
    | false =>
      simp [tEqs, he]
theorem run_eqagg {ty : TypeId} {fs : Array Field} {xs ys : List T} {v1 v2 : Array Value} {h : Heap} {w : World} (tu : TyU P ty (.struct fs)) (hq : P.stoodInHeld ty = false) (hf : FlatE P fs.toList 0 xs ys) (r1 : RepL h (fun j => v1[j]?) 0 xs) (r2 : RepL h (fun j => v2[j]?) 0 ys) :
    (Op.equalIn Op.maxDepth ty (.agg v1) (.agg v2)).run P w = .ok (tEqs xs ys) w := by
  have key : ∀ d : Nat, (Op.equalIn (d + 2) ty (.agg v1) (.agg v2)).run P w = .ok (tEqs xs ys) w := fun d => by
    have hk := run_fields_flat (P := P) (w := w) d fs.toList 0 xs ys hf r1 r2
    unfold Op.equalIn
    simp only [Sem.run_bind, run_underlying tu.h, Result.andThen_ok]
    simp only [Array.forIn_toList] at hk
    simp [hq]
    rw [hk]
    cases tEqs xs ys <;> simp
  exact key 9998
theorem opT_neagg {ty yt : TypeId} {x y : Operand} {fs : Array Field} {xs ys : List T} (ho : o.op = .binOp .neq ty x y yt) (hx : ρ x = .t (.agg xs)) (hy : ρ y = .t (.agg ys)) (tu : TyU P ty (.struct fs)) (hf : FlatE P fs.toList 0 xs ys) (hq : eq1B P ty = true) :
    OpT P o ρ (StL.get []) (.t (.bool !(tEqs xs ys))) (StL.get []) [] :=
  opT_pure fun h m A w _ hrep => by
    have r1 := hrep x (by simp [ho, Op.operands])
    have r2 := hrep y (by simp [ho, Op.operands])
    rw [hx] at r1
    rw [hy] at r2
    simp only [RepA, RepT] at r1 r2
    obtain ⟨v1, a1, a2, a3⟩ := r1
    obtain ⟨v2, b1, b2, b3⟩ := r2
    simp only [eq1B, Bool.and_eq_true, Bool.not_eq_true'] at hq
    have hk := run_eqagg (w := w) tu hq.1 hf a3 b3
    refine ⟨.bool !(tEqs xs ys), ?_, by simp [RepA, RepT]⟩
    simp [execOp, ho, a1, b1, binOp, eqGuard, hq.2, Op.equal, hk, Result.andThen]
end
section
variable {P : Program} {nt : Nat} {ops : Array Oper} {o : Oper} {rest : List Oper} {env : EnvL} {st : StO} {acc : List SD} {K : EnvL → StO → List SD → Prop} {d : Nat}
theorem lx_neagg {ty yt : TypeId} {x y : Operand} {fs : Array Field} {xs ys : List T} {b : Bool} (hf : FlatE P fs.toList 0 xs ys) (hq : eq1B P ty = true) (hb : tEqs xs ys = b) (ho : o.op = .binOp .neq ty x y yt) (hx : evalA env.get x = .t (.agg xs)) (hy : evalA env.get y = .t (.agg ys)) [tu : TyU P ty (.struct fs)] (hd : o.dst = some d) (hn : (decide (d < nt)) = true) (hg : guardOK ops o env = true)
    (H : LexP P nt ops rest ((d, .t (.bool !b)) :: env) st (⟨true, [], .t (.bool !b), [], [], []⟩ :: acc) K) : LexP P nt ops (o :: rest) env st acc K := by
  subst hb
  exact lx_pure (opT_neagg ho hx hy tu hf hq) hd hn hg H
end
end Go.AL
/- Laws over laid variables: the variables' blocks are rows of the call's own. -/
set_option linter.unusedVariables false
namespace Go.AL
open Go Go.RowKit Go.ChangeShapes Go.WideShapes Go.ChangeMaps

def heapG (B : List Nat) (w : World) : Heap := fun b => if b ∈ B then none else w.heap[b]?
mutual
def T.noG : T → Bool
  | .int .u8 _ => false
  | .iface => false
  | .ifi _ _ _ => false
  | .agg cs => T.noGL cs
  | .sl sz es => decide (0 < sz) && T.noGL es
  | _ => true
def T.noGL : List T → Bool
  | [] => true
  | x :: xs => x.noG && T.noGL xs
end
/-- The tables' blocks hold bytes alone. -/
def TabG (B : List Nat) (w : World) : Prop := ∀ b, b ∈ B → ∀ o u, hcell (heapOf w) b o = some u → (∃ n, u = .int .u8 n) ∨ ∃ t v, u = .iface t v
theorem T.noG_cells {x : T} (h : x.noG = true) : T.noGL x.cells = true := by
  cases x with
  | agg cs => simpa [T.noG, T.cells] using h
  | _ => simp only [T.cells, T.noGL, h, Bool.and_self]
theorem not_g {h : Heap} {u : Value} {x : T} (hx : x.noG = true) (hu : (∃ n, u = .int .u8 n) ∨ ∃ t v, u = .iface t v) (H : RepT h u x) : False := by
  rcases hu with ⟨n, rfl⟩ | ⟨t, v, rfl⟩
  · cases x with
    | int k m => simp only [RepT] at H; cases H; simp [T.noG] at hx
    | _ => simp [RepT] at H
  · cases x with
    | iface => simp [T.noG] at hx
    | ifi a b c => simp [T.noG] at hx
    | _ => simp [RepT] at H
theorem hcell_heapG {B : List Nat} {w : World} {b : Nat} (hb : ¬ b ∈ B) : hcell (heapG B w) b = hcell (heapOf w) b := by
  funext o
  simp only [hcell, heapG, heapOf, if_neg hb]
mutual
theorem RepT.tabG {B : List Nat} {w : World} (hU : TabG B w) : ∀ {x : T} {v : Value}, x.noG = true → RepT (heapOf w) v x → RepT (heapG B w) v x
  | .int _ _, v, _, H => by simpa only [RepT] using H
  | .bool _, v, _, H => by simpa only [RepT] using H
  | .str _, v, _, H => by simpa only [RepT] using H
  | .nilsl, v, _, H => by simpa only [RepT] using H
  | .nilp, v, _, H => by simpa only [RepT] using H
  | .nilf, v, _, H => by simpa only [RepT] using H
  | .esl, v, _, H => by simpa only [RepT] using H
  | .fn _, v, _, H => by simpa only [RepT] using H
  | .nili, v, _, H => by simpa only [RepT] using H
  | .iface, v, _, H => by simpa only [RepT] using H
  | .ifi _ _ _, v, _, H => by simpa only [RepT] using H
  | .agg cs, v, hx, H => by
    simp only [RepT] at H ⊢
    obtain ⟨vs, h1, h2, h3⟩ := H
    exact ⟨vs, h1, h2, RepL.tabG hU (by simpa only [T.noG] using hx) h3⟩
  | .sl sz es, v, hx, H => by
    simp only [RepT] at H ⊢
    simp only [T.noG, Bool.and_eq_true, decide_eq_true_eq] at hx
    obtain ⟨A, n, c, h1, h2, h3, h4, h5⟩ := H
    refine ⟨A, n, c, h1, h2, h3, h4, fun hn => ?_⟩
    obtain ⟨b, o, k1, k2⟩ := h5 hn
    by_cases hb : b ∈ B
    · exfalso
      cases es with
      | nil => simp at h2; exact hn h2
      | cons e es =>
        rw [RepEs_cons] at k2
        have hc := k2.1.2
        have he := T.noG_cells (show e.noG = true by have := hx.2; simp only [T.noGL, Bool.and_eq_true] at this; exact this.1)
        have hl := k2.1.1
        generalize e.cells = cs at hc he hl
        cases cs with
        | nil => simp at hl; omega
        | cons c0 cs =>
          obtain ⟨⟨u, q1, _, q3⟩, _⟩ := hc
          have hm := hU b hb o u q1
          simp only [T.noGL, Bool.and_eq_true] at he
          exact not_g he.1 hm q3
    · exact ⟨b, o, k1, by rw [hcell_heapG hb]; exact RepEs.tabG hU hx.2 k2⟩
theorem RepL.tabG {B : List Nat} {w : World} (hU : TabG B w) : ∀ {xs : List T} {g : Nat → Option Value} {o : Nat}, T.noGL xs = true → RepL (heapOf w) g o xs → RepL (heapG B w) g o xs
  | [], _, _, _, _ => trivial
  | x :: xs, g, o, hx, H => by
    simp only [T.noGL, Bool.and_eq_true] at hx
    obtain ⟨⟨u, h1, h2, h3⟩, h4⟩ := H
    exact ⟨⟨u, h1, h2, RepT.tabG hU hx.1 h3⟩, RepL.tabG hU hx.2 h4⟩
theorem RepEs.tabG {B : List Nat} {w : World} (hU : TabG B w) : ∀ {xs : List T} {g : Nat → Option Value} {o sz : Nat}, T.noGL xs = true → RepEs (heapOf w) g o sz xs → RepEs (heapG B w) g o sz xs
  | [], _, _, _, _, _ => trivial
  | .agg cs :: xs, g, o, sz, hx, H => by
    simp only [T.noGL, T.noG, Bool.and_eq_true] at hx
    simp only [RepEs] at H ⊢
    exact ⟨⟨H.1.1, RepL.tabG hU hx.1 H.1.2⟩, RepEs.tabG hU hx.2 H.2⟩
  | .int a b :: xs, g, o, sz, hx, H => by
    simp only [T.noGL, Bool.and_eq_true] at hx
    simp only [RepEs] at H ⊢
    obtain ⟨⟨h0, u, h1, h2, h3⟩, h4⟩ := H
    exact ⟨⟨h0, u, h1, h2, RepT.tabG hU hx.1 h3⟩, RepEs.tabG hU hx.2 h4⟩
  | .bool b :: xs, g, o, sz, hx, H => by
    simp only [T.noGL, Bool.and_eq_true] at hx
    simp only [RepEs] at H ⊢
    obtain ⟨⟨h0, u, h1, h2, h3⟩, h4⟩ := H
    exact ⟨⟨h0, u, h1, h2, RepT.tabG hU hx.1 h3⟩, RepEs.tabG hU hx.2 h4⟩
  | .str b :: xs, g, o, sz, hx, H => by
    simp only [T.noGL, Bool.and_eq_true] at hx
    simp only [RepEs] at H ⊢
    obtain ⟨⟨h0, u, h1, h2, h3⟩, h4⟩ := H
    exact ⟨⟨h0, u, h1, h2, RepT.tabG hU hx.1 h3⟩, RepEs.tabG hU hx.2 h4⟩
  | .sl a b :: xs, g, o, sz, hx, H => by
    simp only [T.noGL, Bool.and_eq_true] at hx
    simp only [RepEs] at H ⊢
    obtain ⟨⟨h0, u, h1, h2, h3⟩, h4⟩ := H
    exact ⟨⟨h0, u, h1, h2, RepT.tabG hU hx.1 h3⟩, RepEs.tabG hU hx.2 h4⟩
  | .nilsl :: xs, g, o, sz, hx, H => by
    simp only [T.noGL, Bool.and_eq_true] at hx
    simp only [RepEs] at H ⊢
    obtain ⟨⟨h0, u, h1, h2, h3⟩, h4⟩ := H
    exact ⟨⟨h0, u, h1, h2, RepT.tabG hU hx.1 h3⟩, RepEs.tabG hU hx.2 h4⟩
  | .nilp :: xs, g, o, sz, hx, H => by
    simp only [T.noGL, Bool.and_eq_true] at hx
    simp only [RepEs] at H ⊢
    obtain ⟨⟨h0, u, h1, h2, h3⟩, h4⟩ := H
    exact ⟨⟨h0, u, h1, h2, RepT.tabG hU hx.1 h3⟩, RepEs.tabG hU hx.2 h4⟩
  | .nilf :: xs, g, o, sz, hx, H => by
    simp only [T.noGL, Bool.and_eq_true] at hx
    simp only [RepEs] at H ⊢
    obtain ⟨⟨h0, u, h1, h2, h3⟩, h4⟩ := H
    exact ⟨⟨h0, u, h1, h2, RepT.tabG hU hx.1 h3⟩, RepEs.tabG hU hx.2 h4⟩
  | .esl :: xs, g, o, sz, hx, H => by
    simp only [T.noGL, Bool.and_eq_true] at hx
    simp only [RepEs] at H ⊢
    obtain ⟨⟨h0, u, h1, h2, h3⟩, h4⟩ := H
    exact ⟨⟨h0, u, h1, h2, RepT.tabG hU hx.1 h3⟩, RepEs.tabG hU hx.2 h4⟩
  | .fn f :: xs, g, o, sz, hx, H => by
    simp only [T.noGL, Bool.and_eq_true] at hx
    simp only [RepEs] at H ⊢
    obtain ⟨⟨h0, u, h1, h2, h3⟩, h4⟩ := H
    exact ⟨⟨h0, u, h1, h2, RepT.tabG hU hx.1 h3⟩, RepEs.tabG hU hx.2 h4⟩
  | .nili :: xs, g, o, sz, hx, H => by
    simp only [T.noGL, Bool.and_eq_true] at hx
    simp only [RepEs] at H ⊢
    obtain ⟨⟨h0, u, h1, h2, h3⟩, h4⟩ := H
    exact ⟨⟨h0, u, h1, h2, RepT.tabG hU hx.1 h3⟩, RepEs.tabG hU hx.2 h4⟩
  | .iface :: xs, g, o, sz, hx, H => by
    simp only [T.noGL, Bool.and_eq_true] at hx
    simp only [RepEs] at H ⊢
    obtain ⟨⟨h0, u, h1, h2, h3⟩, h4⟩ := H
    exact ⟨⟨h0, u, h1, h2, RepT.tabG hU hx.1 h3⟩, RepEs.tabG hU hx.2 h4⟩
  | .ifi _ _ _ :: xs, g, o, sz, hx, H => by
    simp only [T.noGL, Bool.and_eq_true] at hx
    simp only [RepEs] at H ⊢
    obtain ⟨⟨h0, u, h1, h2, h3⟩, h4⟩ := H
    exact ⟨⟨h0, u, h1, h2, RepT.tabG hU hx.1 h3⟩, RepEs.tabG hU hx.2 h4⟩
end

/-- The variables, by block and content, as rows. -/
def rowsG : Nat → List (Nat × Obj) → StL
  | _, [] => []
  | k, x :: G => (.par k, .dat (.fix x.1 x.2)) :: rowsG (k + 1) G
def namesG (k : Nat) (G : List (Nat × Obj)) : Names := fun id => match id with
  | .par n => if k ≤ n then (match G[n - k]? with | some x => .pointer (some ⟨x.1, 0, none⟩) | none => undef) else undef
  | _ => undef
end Go.AL
/- The length of a map. -/
set_option linter.unusedVariables false
set_option linter.unusedSimpArgs false
namespace Go.AL
open Go Go.RowKit

theorem repEnts_len {h : Heap} : ∀ {xs : List MapEntry} {es : List (T × T)}, RepEnts h xs es → xs.length = es.length
  | [], [], _ => rfl
  | [], _ :: _, H => H.elim
  | _ :: _, [], H => H.elim
  | x :: xs, (k, v) :: es, H => by
    have := repEnts_len H.2.2
    simp [this]
section
variable {P : Program} {o : Oper} {ρ : Operand → AV}
theorem opT_len_map {t kt et : TypeId} {x : Operand} {id : Id} {es : List (T × T)} (ho : o.op = .call { callee := .builtin .len, args := #[x], argTypes := #[t] }) (hx : ρ x = .row id) (tu : TyU P t (.map kt et)) :
    OpT P o ρ (StL.get [(id, .dat (.map es))]) (.t (.int .i64 (es.length : Int))) (StL.get [(id, .dat (.map es))]) [] :=
  opT_read fun h m A w hs hrep => by
    have r1 := hrep x (by simp [ho, Op.operands, Call.operands])
    rw [hx] at r1
    obtain ⟨r, ents, clock, e1, e2, e3, e4⟩ := map_row hs
    have hl := repEnts_len e3
    refine ⟨.int .i64 (es.length : Int), ?_, by simp [RepA, RepT]⟩
    simp only [RepA] at r1
    rw [e1] at r1
    have hl2 : ents.size = es.length := by rw [← hl]; simp
    simp [execOp, ho, resolve, invoke, builtin, Builtin.len_, run_underlying tu.h, r1.1, goInt, getObj, Sem.run, e2, Result.andThen, hl2]
end
section
variable {P : Program} {nt : Nat} {ops : Array Oper} {o : Oper} {rest : List Oper} {env : EnvL} {st : StO} {acc : List SD} {K : EnvL → StO → List SD → Prop} {d : Nat}
theorem lx_len_maprow {t : TypeId} {x : Operand} {id : Id} {kt et : TypeId} {es : List (T × T)} (ho : o.op = .call { callee := .builtin .len, args := #[x], argTypes := #[t] }) (hx : evalA env.get x = .row id) (hst : StO.get st id = some (.dat (.map es))) [tu : TyU P t (.map kt et)] (hd : o.dst = some d) (hn : (decide (d < nt)) = true) (hg : guardOK ops o env = true)
    (H : LexP P nt ops rest ((d, .t (.int .i64 (es.length : Int))) :: env) st (⟨true, [(id, .dat (.map es))], .t (.int .i64 (es.length : Int)), [(id, .dat (.map es))], [], []⟩ :: acc) K) : LexP P nt ops (o :: rest) env st acc K :=
  lx_read hst (opT_len_map ho hx tu) hd hn hg H
end
end Go.AL
/- A literal slice that is data at once. -/
set_option linter.unusedVariables false
set_option linter.unusedSimpArgs false
namespace Go.AL
open Go Go.RowKit

theorem OpT.frz {P : Program} {o : Oper} {ρ : Operand → AV} {id : Id} {e : TypeId} {sz : Nat} {es : List T} (H : OpT P o ρ (StL.get []) (.row id) (StL.get [(id, .slt e sz es)]) [id]) : OpT P o ρ (StL.get []) (.t (.sl sz es)) (StL.get []) [] := by
  intro h m a w hs hr K Q hK
  refine H h m a w hs hr K Q fun v h1 m1 w1 hv hs1 hf hN => ?_
  have hve : v = m1 id := hv.1
  subst hve
  obtain ⟨xs, k1, k2⟩ := hs1.rows id _ (get_self id _)
  let h2 : Heap := fun b => if blk (m1 id) = some b then w1.heap[b]? else h1 b
  have hh : h1.le h2 := fun b ob hb => by
    show (if blk (m1 id) = some b then w1.heap[b]? else h1 b) = some ob
    split
    · exact hs1.imm b ob hb
    · exact hb
  have himm : ∀ b ob, h2 b = some ob → w1.heap[b]? = some ob := fun b ob hb => by
    simp only [h2] at hb
    split at hb
    · exact hb
    · exact hs1.imm b ob hb
  have hx : RepT h2 (m1 id) (.sl sz es) := by
    simp only [RepT]
    rcases k1.2 with ⟨hv, hn⟩ | ⟨g, cap, cur, lo, hi, hv, hg, hf, hnc, hcm, hcs, ht⟩
    · exact ⟨none, 0, 0, hv, hn.symm, Nat.le_refl _, ⟨Nat.zero_le _, fun _ => rfl⟩, fun h => absurd rfl h⟩
    · refine ⟨_, _, cap, hv, rfl, hnc, ⟨hcm, fun h => by cases h⟩, fun _ => ⟨g, 0, rfl, RepEs.mono hh (fun j u hu => ?_) k2⟩⟩
      have hb : h2 g = some (.cells cur e (lo, hi)) := by
        show (if blk (m1 id) = some g then w1.heap[g]? else h1 g) = _
        rw [hv]
        simp [blk, hg]
      simp only [hcell, hb]
      rw [← ht, List.getElem?_take] at hu
      split at hu
      · simpa using hu
      · cases hu
  refine hK _ h2 m w1 (by simpa [RepA] using hx) ⟨himm, fun _ _ hx => by simp [StL.get] at hx, fun _ _ _ hx => by simp [StL.get] at hx, fun _ _ _ _ _ hx => by simp [StL.get] at hx⟩
    ⟨hf.os, hf.tape, hf.output, hf.size, fun b hb hn => ⟨(hf.keep b hb hn).1, ?_⟩, fun b ob hb => hh b ob (hf.grow b ob hb), fun _ _ _ hx => by simp [StL.get] at hx⟩ fun _ _ => rfl
  show (if blk (m1 id) = some b then w1.heap[b]? else h1 b) = h b
  rw [if_neg fun e => ?_]
  · exact (hf.keep b hb hn).2
  · rcases hf.fresh id _ b (get_self id _) e with h3 | ⟨_, _, h3, _⟩
    · omega
    · simp [StL.get] at h3
section
variable {P : Program} {nt : Nat} {ops : Array Oper} {o : Oper} {rest : List Oper} {env : EnvL} {st : StO} {acc : List SD} {K : EnvL → StO → List SD → Prop} {d : Nat}
theorem lx_buildSliceF {t elem : TypeId} {len : Nat} {parts : Array (Nat × Operand)} {sz bytes : Nat} {z : Value} {es : List T} (ho : o.op = .buildSlice t len parts) [tu : TyU P t (.slice elem)] [ti : TyI P elem sz bytes z]
    (hes : litEs 0 (parts.toList.map (fun p => (p.1, evalA env.get p.2))) = some es) (hside : (decide (es.length = len) && (es.all (fun e => decide (e.cells.length = sz)) && (decide (z.cells.size = sz) && (decide (0 < sz) && (z.cells.toList.all Value.oneCell' && decide (len * sz ≤ 16777216)))))) = true)
    (hd : o.dst = some d) (hn : (decide (d < nt)) = true) (hg : guardOK ops o env = true)
    (H : LexP P nt ops rest ((d, .t (.sl sz es)) :: env) st (⟨true, [], .t (.sl sz es), [], [], []⟩ :: acc) K) : LexP P nt ops (o :: rest) env st acc K := by
  simp only [Bool.and_eq_true, decide_eq_true_eq, List.all_eq_true] at hside
  obtain ⟨s1, s2, s3, s4, s5, s6⟩ := hside
  have e := litEs_spec hes
  subst s1
  have f := fill_lit (sz := sz) es [] 0 (by simp) s2
  simp only [List.nil_append] at f
  exact lx_pure (OpT.frz (opT_buildSlice (.loc d) ho tu ti s3 s4 s5 s6 (parts_lit _ _ 0 e s2 (by simp)) f rfl s2)) hd hn hg H
end
end Go.AL
/- A cut with a limit. -/
set_option linter.unusedVariables false
set_option linter.unusedSimpArgs false
namespace Go.AL
open Go Go.RowKit

section
variable {P : Program} {o : Oper} {ρ : Operand → AV}
end
section
variable {P : Program} {nt : Nat} {ops : Array Oper} {o : Oper} {rest : List Oper} {env : EnvL} {st : StO} {acc : List SD} {K : EnvL → StO → List SD → Prop} {d : Nat}
end
end Go.AL
/- A store to a field of an element. -/
set_option linter.unusedVariables false
set_option linter.unusedSimpArgs false
namespace Go.AL
open Go Go.RowKit

theorem RepL_set1 {h : Heap} {g g' : Nat → Option Value} {v : T} : ∀ {C : List T} {o off : Nat}, RepL h g o C → off < C.length → (∃ u, g' (o + off) = some u ∧ u.oneCell' = true ∧ RepT h u v) → (∀ j, j ≠ o + off → g' j = g j) → RepL h g' o (C.set off v)
  | [], _, _, _, hl, _, _ => by simp at hl
  | c :: C, o, 0, H, hl, hu, hg => by
    simp only [RepL] at H
    simp only [List.set_cons_zero, RepL]
    exact ⟨by simpa using hu, RepL_range (fun j h1 h2 => hg j (by omega)) H.2⟩
  | c :: C, o, off + 1, H, hl, hu, hg => by
    simp only [RepL] at H
    simp only [List.set_cons_succ, RepL]
    refine ⟨by rw [hg o (by omega)]; exact H.1, RepL_set1 (o := o + 1) (off := off) H.2 (by simpa using hl) (by rw [show o + 1 + off = o + (off + 1) by omega]; exact hu) fun j hj => hg j (by omega)⟩
section
variable {P : Program} {o : Oper} {ρ : Operand → AV}
theorem opT_store_elf {ty e : TypeId} {p x : Operand} {id : Id} {i sz off : Nat} {es C : List T} {v : T} {bytes : Nat} {z : Value} (ho : o.op = .store ty p x) (hp : ρ p = .ref id i sz off) (hx : ρ x = .t v) (ti : TyI P ty 1 bytes z) (hv : v.isAgg = false) (hi : es[i]? = some (.agg C)) (ho2 : off < C.length) :
    OpT P o ρ (StL.get [(id, .slt e sz es)]) .junk (StL.get [(id, .slt e sz (es.set i (.agg (C.set off v))))]) [] := by
  refine OpT.of ?_
  intro h m a w hs hr K Q hK
  have h1 := hr p (by simp [ho, Op.operands])
  have h2 := hr x (by simp [ho, Op.operands])
  rw [hp] at h1
  rw [hx] at h2
  obtain ⟨b, hbk, ee⟩ := h1
  obtain ⟨c1, c2⟩ := cells_rep (by rfl) h2
  have hil : i < es.length := by
    rcases Nat.lt_or_ge i es.length with h | h
    · exact h
    · rw [List.getElem?_eq_none h] at hi; cases hi
  have hcells : AV.cells (.t v) = [.t v] := by cases v <;> first | rfl | simp [T.isAgg] at hv
  rw [hcells] at c1 c2
  obtain ⟨arr, vty, lo, hi', k1, k2, k3, k4⟩ := els_written (Row.slt e sz) rfl (.inl ⟨e, rfl⟩) (sim_row hs (get_self id _)) hbk hil
  obtain ⟨xs, q1, q2⟩ := sim_row hs (get_self id _)
  obtain ⟨hCl, hC⟩ := RepEs_get q2 hi
  have hCl : C.length = sz := hCl
  have hC : RepL h (fun j => xs[j]?) (0 + i * sz) C := hC
  rw [Nat.zero_add] at hC
  have hmul : i * sz + sz ≤ es.length * sz := by
    have := Nat.mul_le_mul_right sz (show i + 1 ≤ es.length from hil)
    rw [Nat.add_mul] at this
    omega
  have hold : RepL h (fun j => arr[j]?) (i * sz) C := by
    rcases q1.2 with ⟨hv', _⟩ | ⟨g, cap, cur, lo', hi'', hv', hg, hf, hn, hm, hc, ht⟩
    · rw [hv'] at hbk; simp [blk] at hbk
    · rw [hv'] at hbk
      simp [blk] at hbk
      subst hbk
      rw [k1] at hg
      cases hg
      refine RepL_range (fun j j1 j2 => ?_) hC
      show arr[j]? = xs[j]?
      rw [← ht, List.getElem?_take, if_pos (by omega)]; simp
  obtain ⟨u, d1, d2, d3⟩ : ∃ u, (a.eval x).cells[0]? = some u ∧ u.oneCell' = true ∧ RepT h u v := by
    have := RepL_of_AL (ts := [v]) (by simpa using c2)
    simp only [RepL] at this
    exact this.1
  have hsz : (a.eval x).cells.size = 1 := by rw [c1]; rfl
  have hcl : (a.eval x).cells.toList = [u] := by
    have h0 : (a.eval x).cells.toList.length = 1 := by simpa using hsz
    have h1' : (a.eval x).cells.toList[0]? = some u := by simpa using d1
    match hh : (a.eval x).cells.toList, h0, h1' with
    | [y], _, h1' => simp at h1'; rw [h1']
  obtain ⟨w', arr', r1, r2, r3, r4⟩ := run_storeAt (P := P) (w := w) ti (o := i * sz + off) (v := a.eval x) k1 k2 hsz (by omega) (by rw [hcl]; intro y hy; rw [List.mem_singleton.1 hy]; exact d2)
  have hlen : i * sz + off + (a.eval x).cells.toList.length ≤ arr.toList.length := by rw [hcl]; simp; omega
  have hget : ∀ j, arr'[j]? = if j = i * sz + off then some u else arr[j]? := fun j => by
    have := splice_get hlen j
    rw [← r3, hcl] at this
    simp only [List.length_singleton, Array.getElem?_toList] at this
    rw [this]
    by_cases e1 : j < i * sz + off
    · rw [if_pos e1, if_neg (by omega)]
    · rw [if_neg e1]
      by_cases e2 : j = i * sz + off
      · subst e2; simp
      · rw [if_neg (by omega), if_neg e2]
  have hrow' := k4 w' arr' (.agg (C.set off v)) r2 (by
      have := congrArg List.length r3
      simp only [Array.length_toList] at this
      rw [this, hcl]
      simp [spliceL]; omega) (by show (C.set off v).length = sz; simpa using hCl) (by
      show RepL h (fun j => arr'[j]?) (i * sz) (C.set off v)
      exact RepL_set1 hold ho2 ⟨u, by show arr'[i * sz + off]? = _; rw [hget, if_pos rfl], d2, d3⟩ fun j hj => by show arr'[j]? = arr[j]?; rw [hget, if_neg hj]) (fun j hj => by rw [hget, if_neg (by omega)])
  obtain ⟨s1, s2⟩ := wrote_row hs hbk r4 hrow'
  unfold Oper.wp
  have hrun : (execOp a.eval o).run P w = .ok .skip w' := by
    simp [execOp, ho, ee, r1]
  rw [hrun]
  exact hK undef h m w' trivial s1 s2 fun _ _ => rfl
end
section
variable {P : Program} {nt : Nat} {ops : Array Oper} {o : Oper} {rest : List Oper} {env : EnvL} {st : StO} {acc : List SD} {K : EnvL → StO → List SD → Prop} {d : Nat}
theorem lx_store_elf {ty e : TypeId} {p x : Operand} {id : Id} {i sz off : Nat} {es C : List T} {v : T} {bytes : Nat} {z : Value} (ho : o.op = .store ty p x) (hp : evalA env.get p = .ref id i sz off) (hx : evalA env.get x = .t v) [ti : TyI P ty 1 bytes z] (hst : StO.get st id = some (.slt e sz es)) (hi : es[i]? = some (.agg C)) (hd : o.dst = none) (hg : guardOK ops o env = true) (hv : v.isAgg = false) (ho2 : off < C.length)
    (H : LexP P nt ops rest env ((id, some (.slt e sz (es.set i (.agg (C.set off v))))) :: st) (⟨true, [(id, .slt e sz es)], .junk, [(id, .slt e sz (es.set i (.agg (C.set off v))))], [id], []⟩ :: acc) K) : LexP P nt ops (o :: rest) env st acc K :=
  lx_write hst (opT_store_elf ho hp hx ti hv hi ho2) hd hg H
end
end Go.AL
/- An append whose result is data at once. -/
set_option linter.unusedVariables false
set_option linter.unusedSimpArgs false
namespace Go.AL
open Go Go.RowKit

theorem OpT.frzR {P : Program} {o : Oper} {ρ : Operand → AV} {R : Store} {id : Id} {e : TypeId} {sz : Nat} {es : List T} (H : OpT P o ρ R (.row id) (StL.get [(id, .slt e sz es)]) [id]) : OpT P o ρ R (.t (.sl sz es)) (StL.get []) [] := by
  intro h m a w hs hr K Q hK
  refine H h m a w hs hr K Q fun v h1 m1 w1 hv hs1 hf hN => ?_
  have hve : v = m1 id := hv.1
  subst hve
  obtain ⟨xs, k1, k2⟩ := hs1.rows id _ (get_self id _)
  let h2 : Heap := fun b => if blk (m1 id) = some b then w1.heap[b]? else h1 b
  have hh : h1.le h2 := fun b ob hb => by
    show (if blk (m1 id) = some b then w1.heap[b]? else h1 b) = some ob
    split
    · exact hs1.imm b ob hb
    · exact hb
  have himm : ∀ b ob, h2 b = some ob → w1.heap[b]? = some ob := fun b ob hb => by
    simp only [h2] at hb
    split at hb
    · exact hb
    · exact hs1.imm b ob hb
  have hx : RepT h2 (m1 id) (.sl sz es) := by
    simp only [RepT]
    rcases k1.2 with ⟨hv, hn⟩ | ⟨g, cap, cur, lo, hi, hv, hg, hf, hnc, hcm, hcs, ht⟩
    · exact ⟨none, 0, 0, hv, hn.symm, Nat.le_refl _, ⟨Nat.zero_le _, fun _ => rfl⟩, fun h => absurd rfl h⟩
    · refine ⟨_, _, cap, hv, rfl, hnc, ⟨hcm, fun h => by cases h⟩, fun _ => ⟨g, 0, rfl, RepEs.mono hh (fun j u hu => ?_) k2⟩⟩
      have hb : h2 g = some (.cells cur e (lo, hi)) := by
        show (if blk (m1 id) = some g then w1.heap[g]? else h1 g) = _
        rw [hv]
        simp [blk, hg]
      simp only [hcell, hb]
      rw [← ht, List.getElem?_take] at hu
      split at hu
      · simpa using hu
      · cases hu
  refine hK _ h2 m w1 (by simpa [RepA] using hx) ⟨himm, fun _ _ hx => by simp [StL.get] at hx, fun _ _ _ hx => by simp [StL.get] at hx, fun _ _ _ _ _ hx => by simp [StL.get] at hx⟩
    ⟨hf.os, hf.tape, hf.output, hf.size, fun b hb hn => ⟨(hf.keep b hb hn).1, ?_⟩, fun b ob hb => hh b ob (hf.grow b ob hb), fun _ _ _ hx => by simp [StL.get] at hx⟩ fun _ _ => rfl
  show (if blk (m1 id) = some b then w1.heap[b]? else h1 b) = h b
  rw [if_neg fun e => ?_]
  · exact (hf.keep b hb hn).2
  · rcases hf.fresh id _ b (get_self id _) e with h3 | ⟨id0, row0, h3, h4⟩
    · omega
    · exact hn id0 row0 h3 h4
section
variable {P : Program} {nt : Nat} {ops : Array Oper} {o : Oper} {rest : List Oper} {env : EnvL} {st : StO} {acc : List SD} {K : EnvL → StO → List SD → Prop} {d : Nat}
theorem lx_append_slF {s x : Operand} {t t2 elem e2 : TypeId} {id : Id} {sz bytes : Nat} {z : Value} {xs ys : List T} (ho : o.op = .call { callee := .builtin .append, args := #[s, x], argTypes := #[t, t2] }) (hs1 : evalA env.get s = .row id) (hx : evalA env.get x = .t (.sl sz ys)) [tu : TyU P t (.slice elem)] [ti : TyI P elem sz bytes z] [tu2 : TyU P t2 (.slice e2)]
    (hst : StO.get st id = some (.slt elem sz xs)) (hside : (decide (z.cells.size = sz) && (decide (0 < sz))) = true)
    (hd : o.dst = some d) (hn : (decide (d < nt)) = true) (hg : guardOK ops o env = true) (hfr : freshB [.loc d] env st = true) (hfr2 : freshB [] env st = true)
    (hb : (xs.length + ys.length) * bytes ≤ 140737488355328) (hm : xs.length + ys.length ≤ 9223372036854775807)
    (H : LexP P nt ops rest ((d, .t (.sl sz (xs ++ ys))) :: env) ((id, none) :: st) (⟨true, [(id, .slt elem sz xs)], .t (.sl sz (xs ++ ys)), [], [id], []⟩ :: acc) K) : LexP P nt ops (o :: rest) env st acc K := by
  simp only [Bool.and_eq_true, decide_eq_true_eq] at hside
  have hne : Id.loc d ≠ id := fun e => by
    have := (freshB_spec hfr).2 id _ hst
    rw [e] at this
    simp at this
  refine lex_genS (R := [(id, .slt elem sz xs)]) (R' := []) (N := []) (W := [id]) (r := .t (.sl sz (xs ++ ys))) (OpT.frzR (id := .loc d) (e := elem) ?_) hd (of_decide_eq_true hn) (guardOK_spec hg) ?_ ?_ ?_ ?_ hfr2 ?_ H
  · exact opT_append (R2 := []) (.loc d) ho hs1 tu ti tu2 (by rw [hx]; exact .sl) hside.1 hside.2 (by simp [StL.ids]) (by simp [StL.ids]) hb hm
  · intro y hy; simp at hy; subst hy; exact hst
  · intro j hj; simp [StL.ids] at hj
  · intro j hj hj'; simp [StL.ids] at hj; simp [hj] at hj'
  · intro j hj; simp at hj
  · funext j; simp [stSet, StO.get, StL.ids]
end
end Go.AL
