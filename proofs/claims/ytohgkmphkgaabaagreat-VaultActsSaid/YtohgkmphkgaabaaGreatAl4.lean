/- The layer of abstract values, fourth part: ranges over strings and maps, interfaces against nil, laid variables; each under the conditions that its own theorem names. -/
import Derived.Test.YtohgkmphkgaabaaGreatAl3
import Derived.Maps.RangeRun
import Derived.Lib.LaidTab
import Derived.Lib.LaidU8
set_option linter.unusedVariables false
set_option linter.unusedSimpArgs false
namespace Go.AL
open Go Go.RowKit
section
variable {P : Program} {o : Oper} {ρ : Operand → AV}
end
section
variable {P : Program} {nt : Nat} {ops : Array Oper} {o : Oper} {rest : List Oper} {env : EnvL} {st : StO} {acc : List SD} {K : EnvL → StO → List SD → Prop} {d : Nat}
end
end Go.AL
set_option linter.unusedSimpArgs false
namespace Go.AL
open Go Go.RowKit
class CmpT (P : Program) (t : TypeId) : Prop where
  h : ∃ i, P.info? t = some i ∧ i.comparable = true
theorem CmpT.of {P : Program} {t : TypeId} (h : (P.info? t).map (·.comparable) = some true) : CmpT P t := ⟨by
  cases e : P.info? t with
  | none => rw [e] at h; cases h
  | some i => rw [e] at h; exact ⟨i, rfl, by simpa using h⟩⟩
section
variable {P : Program} {o : Oper} {ρ : Operand → AV}
end
section
variable {P : Program} {nt : Nat} {ops : Array Oper} {o : Oper} {rest : List Oper} {env : EnvL} {st : StO} {acc : List SD} {K : EnvL → StO → List SD → Prop} {d : Nat}
end
end Go.AL
set_option linter.unusedSimpArgs false
namespace Go.AL
open Go Go.RowKit
section
variable {P : Program} {nt : Nat}
end
section
variable {P : Program} {nt : Nat} {ops : Array Oper} {o : Oper} {rest : List Oper} {env : EnvL} {st : StO} {acc : List SD} {K : EnvL → StO → List SD → Prop} {d : Nat}
end
section
variable {P : Program} {nt : Nat} {ops : Array Oper} {o : Oper} {rest : List Oper} {env : EnvL} {st : StO} {acc : List SD} {K : EnvL → StO → List SD → Prop} {d : Nat}
end
section
variable {P : Program} {fn : Func} {env : EnvL} {st : StO}
theorem jM {t u s : Nat} {ty : TypeId} {id : Id} {vty : TypeId} {cs : List AV} {d : TypeDesc} {size bytes : Nat} {z : Value} {x y q : AV} (hr : fn.results = #[.cell t ty, .tmp u, .tmp s]) (ht : env.get t = .ref id 0 0 0) (hst : StO.get st id = some (.var vty cs)) (tu : TyU P ty d) (hd : yz d = true) (ti : TyI P ty size bytes z) (hl : cs.length = size) (hx : AVLE (qp cs) x) (hy : AVLE (env.get u) y) (hq : AVLE (env.get s) q) : zdw P fn env.get st.get (.tup [x, y, q]) := fun nt h m a w c => by
  obtain ⟨v, ad, k0, k1, k2⟩ := kA (P := P) c ht hst tu hd ti hl
  refine ⟨.tuple #[v, a.tmps.getD u undef, a.tmps.getD s undef], by simp [results, hr, k0, asAddr, k1], #[v, a.tmps.getD u undef, a.tmps.getD s undef], rfl, rfl, ?_⟩
  simp only [RepAs, and_true]
  exact ⟨⟨_, rfl, hx h m v k2⟩, ⟨_, rfl, hy h m _ (c.env u)⟩, ⟨_, rfl, hq h m _ (c.env s)⟩⟩
end
end Go.AL
set_option linter.unusedSimpArgs false
namespace Go.AL
open Go Go.RowKit
def xy (P : Program) (ty : TypeId) : T → Prop
  | .int k _ => P.underlying ty = some (.int k)
  | .str _ => P.underlying ty = some .string
  | .bool _ => P.underlying ty = some .bool
  | _ => False
def tEq : T → T → Bool
  | .int _ a, .int _ b => a == b
  | .str a, .str b => decide (a = b)
  | .bool a, .bool b => a == b
  | _, _ => false
def zcq (P : Program) : List Field → Nat → List T → List T → Prop
  | [], _, [], [] => True
  | f :: fs, i, x :: xs, y :: ys => f.name ≠ "_" ∧ f.offset = i ∧ xy P f.type x ∧ xy P f.type y ∧ zcq P fs (i + 1) xs ys
  | _, _, _, _ => False
def zdv : List T → List T → Bool
  | x :: xs, y :: ys => tEq x y && zdv xs ys
  | _, _ => true
theorem zg0 : ∀ {P : Program} {ty : TypeId} {x : T}, xy P ty x → tEq x x = true
  | P, ty, x, h => by cases x <;> simp [xy, tEq] at *
theorem zb2 {P : Program} : ∀ {fs : List Field} {i : Nat} {xs : List T}, zcq P fs i xs xs → zdv xs xs = true
  | [], i, [], _ => rfl
  | f :: fs, i, x :: xs, h => by rw [zdv, zg0 h.2.2.1, zb2 h.2.2.2.2]; rfl
  | [], _, _ :: _, h => h.elim
  | _ :: _, _, [], h => h.elim
section
variable {P : Program} {o : Oper} {ρ : Operand → AV}
theorem zdq {ty : TypeId} {x y : T} {u v : Value} {h : Heap} {w : World} (d : Nat) (hx : xy P ty x) (hy : xy P ty y) (r1 : RepT h u x) (r2 : RepT h v y) : (Op.equalIn (d + 1) ty u v).run P w = .ok (tEq x y) w := by
  cases x <;> simp only [xy] at hx
  · cases y <;> simp only [xy] at hy
    · rw [hx] at hy
      cases hy
      simp only [RepT] at r1 r2
      subst r1; subst r2
      simp [Op.equalIn, run_underlying hx, tEq]
    · rw [hx] at hy; cases hy
    · rw [hx] at hy; cases hy
  · cases y <;> simp only [xy] at hy
    · rw [hx] at hy; cases hy
    · simp only [RepT] at r1 r2
      subst r1; subst r2
      simp [Op.equalIn, run_underlying hx, tEq]
    · rw [hx] at hy; cases hy
  · cases y <;> simp only [xy] at hy
    · rw [hx] at hy; cases hy
    · rw [hx] at hy; cases hy
    · simp only [RepT] at r1 r2
      subst r1; subst r2
      simp [Op.equalIn, run_underlying hx, tEq, zio]
theorem ql {ty : TypeId} {x : T} {u : Value} {vs : Array Value} {i : Nat} {w : World} (hx : xy P ty x) (hu : vs[i]? = some u) : (part ty vs i).run P w = .ok u w := by
  have ha : (isAgg ty).run P w = .ok false w := by
    cases x <;> simp only [xy] at hx <;> exact vb (d := _) ⟨hx⟩
  simp [part, ha, hu]
theorem vh {h : Heap} {w : World} {v1 v2 : Array Value} (d : Nat) : ∀ (fs : List Field) (i : Nat) (xs ys : List T), zcq P fs i xs ys → RepL h (fun j => v1[j]?) i xs → RepL h (fun j => v2[j]?) i ys →
    (forIn fs ((none : Option Bool), ()) fun f __s => (if f.name = "_" then pure (ForInStep.yield ((none : Option Bool), ())) else do
      let __do_lift ← part f.type v1 f.offset
      let __do_lift_1 ← part f.type v2 f.offset
      let __do_lift ← Op.equalIn (d + 1) f.type __do_lift __do_lift_1
      if __do_lift = false then pure (ForInStep.done (some false, ())) else pure (ForInStep.yield (none, ())) : Sem (ForInStep (Option Bool × Unit)))).run P w = .ok (if zdv xs ys then (none, ()) else (some false, ())) w
  | [], i, [], [], _, _, _ => by simp [zdv]
  | [], _, _ :: _, _, H, _, _ => H.elim
  | [], _, [], _ :: _, H, _, _ => H.elim
  | _ :: _, _, [], _, H, _, _ => H.elim
  | _ :: _, _, _ :: _, [], H, _, _ => H.elim
  | f :: fs, i, x :: xs, y :: ys, H, ⟨⟨u, u1, _, u2⟩, u3⟩, ⟨⟨v, w1, _, w2⟩, w3⟩ => by
    obtain ⟨hn, ho, hx, hy, hr⟩ := H
    have ih := vh (w := w) d fs (i + 1) xs ys hr u3 w3
    subst ho
    rw [List.forIn_cons]
    simp only [if_neg hn, Sem.run_bind, ql hx u1, ql hy w1, zdq d hx hy u2 w2, Result.andThen_ok]
    cases he : tEq x y with
    | true =>
      simp only [Bool.true_eq_false, if_false, Sem.run_pure, Result.andThen_ok]
      rw [ih, zdv, he, Bool.true_and]
    | false =>
      simp [zdv, he]
theorem zfX {ty : TypeId} {fs : Array Field} {xs ys : List T} {v1 v2 : Array Value} {h : Heap} {w : World} (tu : TyU P ty (.struct fs)) (hq : P.stoodInHeld ty = false) (hf : zcq P fs.toList 0 xs ys) (r1 : RepL h (fun j => v1[j]?) 0 xs) (r2 : RepL h (fun j => v2[j]?) 0 ys) :
    (Op.equalIn Op.maxDepth ty (.agg v1) (.agg v2)).run P w = .ok (zdv xs ys) w := by
  have key : ∀ d : Nat, (Op.equalIn (d + 2) ty (.agg v1) (.agg v2)).run P w = .ok (zdv xs ys) w := fun d => by
    have hk := vh (P := P) (w := w) d fs.toList 0 xs ys hf r1 r2
    unfold Op.equalIn
    simp only [Sem.run_bind, run_underlying tu.h, Result.andThen_ok]
    simp only [Array.forIn_toList] at hk
    simp [hq]
    rw [hk]
    cases zdv xs ys <;> simp
  exact key 9998
theorem zfi {ty yt : TypeId} {x y : Operand} {fs : Array Field} {xs ys : List T} (ho : o.op = .binOp .neq ty x y yt) (hx : ρ x = .t (.agg xs)) (hy : ρ y = .t (.agg ys)) (tu : TyU P ty (.struct fs)) (hf : zcq P fs.toList 0 xs ys) (hq : ziF P ty = true) :
    OpT P o ρ (StL.get []) (.t (.bool !(zdv xs ys))) (StL.get []) [] :=
  zC fun h m A w _ hrep => by
    have r1 := hrep x (by simp [ho, Op.operands])
    have r2 := hrep y (by simp [ho, Op.operands])
    rw [hx] at r1
    rw [hy] at r2
    simp only [RepA, RepT] at r1 r2
    obtain ⟨v1, a1, a2, a3⟩ := r1
    obtain ⟨v2, b1, b2, b3⟩ := r2
    simp only [ziF, Bool.and_eq_true, Bool.not_eq_true'] at hq
    have hk := zfX (w := w) tu hq.1 hf a3 b3
    refine ⟨.bool !(zdv xs ys), ?_, by simp [RepA, RepT]⟩
    simp [execOp, ho, a1, b1, binOp, eqGuard, hq.2, Op.equal, hk, Result.andThen]
end
section
variable {P : Program} {nt : Nat} {ops : Array Oper} {o : Oper} {rest : List Oper} {env : EnvL} {st : StO} {acc : List SD} {K : EnvL → StO → List SD → Prop} {d : Nat}
theorem zgz {ty yt : TypeId} {x y : Operand} {fs : Array Field} {xs ys : List T} {b : Bool} (hf : zcq P fs.toList 0 xs ys) (hq : ziF P ty = true) (hb : zdv xs ys = b) (ho : o.op = .binOp .neq ty x y yt) (hx : zm env.get x = .t (.agg xs)) (hy : zm env.get y = .t (.agg ys)) [tu : TyU P ty (.struct fs)] (hd : o.dst = some d) (hn : (decide (d < nt)) = true) (hg : zl ops o env = true)
    (H : LexP P nt ops rest ((d, .t (.bool !b)) :: env) st (⟨true, [], .t (.bool !b), [], [], []⟩ :: acc) K) : LexP P nt ops (o :: rest) env st acc K := by
  subst hb
  exact zH (zfi ho hx hy tu hf hq) hd hn hg H
end
end Go.AL
namespace Go.AL
open Go Go.RowKit Go.ChangeShapes Go.WideShapes Go.ChangeMaps
mutual
def T.noG : T → Bool
  | .int .u8 _ => false
  | .int .u64 _ => false
  | .iface => false
  | .ifi _ _ _ => false
  | .agg cs => T.noGL cs
  | .sl sz es => decide (0 < sz) && T.noGL es
  | .slq _ _ => false
  | _ => true
def T.noGL : List T → Bool
  | [] => true
  | x :: xs => x.noG && T.noGL xs
end
end Go.AL
set_option linter.unusedSimpArgs false
namespace Go.AL
open Go Go.RowKit
section
variable {P : Program} {o : Oper} {ρ : Operand → AV}
end
section
variable {P : Program} {nt : Nat} {ops : Array Oper} {o : Oper} {rest : List Oper} {env : EnvL} {st : StO} {acc : List SD} {K : EnvL → StO → List SD → Prop} {d : Nat}
end
end Go.AL
set_option linter.unusedSimpArgs false
namespace Go.AL
open Go Go.RowKit
theorem OpT.frz {P : Program} {o : Oper} {ρ : Operand → AV} {id : Id} {e : TypeId} {sz : Nat} {es : List T} (H : OpT P o ρ (StL.get []) (.row id) (StL.get [(id, .slt e sz es)]) [id]) : OpT P o ρ (StL.get []) (.t (.sl sz es)) (StL.get []) [] := by
  intro h m a w hs hr K Q hK
  refine H h m a w hs hr K Q fun v h1 m1 w1 hv hs1 hf hN => ?_
  have hve : v = m1 id := hv.1
  subst hve
  obtain ⟨xs, k1, k2⟩ := hs1.rows id _ (zM id _)
  let h2 : Heap := fun b => if blk (m1 id) = some b then w1.heap[b]? else h1 b
  have hh : h1.le h2 := fun b ob hb => by
    show (if blk (m1 id) = some b then w1.heap[b]? else h1 b) = some ob
    split
    · exact hs1.imm b ob hb
    · exact hb
  have himm : ∀ b ob, h2 b = some ob → w1.heap[b]? = some ob := fun b ob hb => by
    simp only [h2] at hb
    split at hb
    · exact hb
    · exact hs1.imm b ob hb
  have hx : RepT h2 (m1 id) (.sl sz es) := by
    simp only [RepT]
    rcases k1.2 with ⟨hv, hn⟩ | ⟨g, cap, cur, lo, hi, hv, hg, hf, hnc, hcm, hcs, ht⟩
    · exact ⟨none, 0, 0, hv, hn.symm, Nat.le_refl _, ⟨Nat.zero_le _, fun _ => rfl⟩, fun h => absurd rfl h⟩
    · refine ⟨_, _, cap, hv, rfl, hnc, ⟨hcm, fun h => by cases h⟩, fun _ => ⟨g, 0, rfl, RepEs.mono hh (fun j u hu => ?_) k2⟩⟩
      have hb : h2 g = some (.cells cur e (lo, hi)) := by
        show (if blk (m1 id) = some g then w1.heap[g]? else h1 g) = _
        rw [hv]
        simp [blk, hg]
      simp only [hcell, hb]
      rw [← ht, List.getElem?_take] at hu
      split at hu
      · simpa using hu
      · cases hu
  refine hK _ h2 m w1 (by simpa [RepA] using hx) ⟨himm, fun _ _ hx => by simp [StL.get] at hx, fun _ _ _ hx => by simp [StL.get] at hx, fun _ _ _ _ _ hx => by simp [StL.get] at hx⟩
    ⟨hf.os, hf.tape, hf.output, hf.size, fun b hb hn => ⟨(hf.keep b hb hn).1, ?_⟩, fun b ob hb => hh b ob (hf.grow b ob hb), fun _ _ _ hx => by simp [StL.get] at hx⟩ fun _ _ => rfl
  show (if blk (m1 id) = some b then w1.heap[b]? else h1 b) = h b
  rw [if_neg fun e => ?_]
  · exact (hf.keep b hb hn).2
  · rcases hf.fresh id _ b (zM id _) e with h3 | ⟨_, _, h3, _⟩
    · omega
    · simp [StL.get] at h3
section
variable {P : Program} {nt : Nat} {ops : Array Oper} {o : Oper} {rest : List Oper} {env : EnvL} {st : StO} {acc : List SD} {K : EnvL → StO → List SD → Prop} {d : Nat}
theorem zW {t elem : TypeId} {len : Nat} {parts : Array (Nat × Operand)} {sz bytes : Nat} {z : Value} {es : List T} (ho : o.op = .buildSlice t len parts) [tu : TyU P t (.slice elem)] [ti : TyI P elem sz bytes z]
    (hes : zcJ 0 (parts.toList.map (fun p => (p.1, zm env.get p.2))) = some es) (hside : (decide (es.length = len) && (es.all (fun e => decide (e.cells.length = sz)) && (decide (z.cells.size = sz) && (decide (0 < sz) && (z.cells.toList.all Value.oneCell' && decide (len * sz ≤ 16777216)))))) = true)
    (hd : o.dst = some d) (hn : (decide (d < nt)) = true) (hg : zl ops o env = true)
    (H : LexP P nt ops rest ((d, .t (.sl sz es)) :: env) st (⟨true, [], .t (.sl sz es), [], [], []⟩ :: acc) K) : LexP P nt ops (o :: rest) env st acc K := by
  simp only [Bool.and_eq_true, decide_eq_true_eq, List.all_eq_true] at hside
  obtain ⟨s1, s2, s3, s4, s5, s6⟩ := hside
  have e := j8 hes
  subst s1
  have f := zaQ (sz := sz) es [] 0 (by simp) s2
  simp only [List.nil_append] at f
  exact zH (OpT.frz (vG (.loc d) ho tu ti s3 s4 s5 s6 (jz _ _ 0 e s2 (by simp)) f rfl s2)) hd hn hg H
end
end Go.AL
set_option linter.unusedSimpArgs false
namespace Go.AL
open Go Go.RowKit
section
variable {P : Program} {o : Oper} {ρ : Operand → AV}
end
section
variable {P : Program} {nt : Nat} {ops : Array Oper} {o : Oper} {rest : List Oper} {env : EnvL} {st : StO} {acc : List SD} {K : EnvL → StO → List SD → Prop} {d : Nat}
end
end Go.AL
set_option linter.unusedSimpArgs false
namespace Go.AL
open Go Go.RowKit
section
variable {P : Program} {o : Oper} {ρ : Operand → AV}
end
section
variable {P : Program} {nt : Nat} {ops : Array Oper} {o : Oper} {rest : List Oper} {env : EnvL} {st : StO} {acc : List SD} {K : EnvL → StO → List SD → Prop} {d : Nat}
end
end Go.AL
set_option linter.unusedSimpArgs false
namespace Go.AL
open Go Go.RowKit
section
variable {P : Program} {nt : Nat} {ops : Array Oper} {o : Oper} {rest : List Oper} {env : EnvL} {st : StO} {acc : List SD} {K : EnvL → StO → List SD → Prop} {d : Nat}
end
end Go.AL
set_option linter.unusedSimpArgs false
namespace Go.AL
open Go Go.RowKit
theorem zbo {h h' : Heap} {m : zI} {id : Id} {x : T} (hh : h.le h') (hx : RepT h' (m id) x) {g : Nat → Option Value} : ∀ {args : List AV} {o : Nat}, RepAs h m g o args → RepAs h' m g o (args.map (AV.sub id x))
  | [], _, _ => by simp [RepAs]
  | a :: rst, o, H => by
    simp only [RepAs] at H
    obtain ⟨⟨u, h1, h2⟩, h3⟩ := H
    simp only [List.map_cons, RepAs]
    exact ⟨⟨u, h1, RepA.sub hh hx h2⟩, zbo hh hx h3⟩
theorem Spec.borrow {P : Program} {f : FuncId} {args : List AV} {r : T} {k : Nat} {e : TypeId} {sz : Nat} {es : List T} (hr : ∀ h h' v, RepT h v r → RepT h' v r)
    (H : Spec P f (args.map (AV.sub (.par k) (.sl sz es))) [] (.t r) []) : Spec P f args [(.par k, .slt e sz es)] (.t r) [(.par k, .slt e sz es)] := by
  refine ⟨fun h m vs w hs hvs hrep => ?_⟩
  obtain ⟨xs, h1, h2⟩ := hs.rows (.par k) _ (zM _ _)
  let h' : Heap := fun b => if blk (m (.par k)) = some b then w.heap[b]? else h b
  have hh : h.le h' := fun b ob hb => by
    show (if blk (m (.par k)) = some b then w.heap[b]? else h b) = some ob
    split
    · exact hs.imm b ob hb
    · exact hb
  have himm : ∀ b ob, h' b = some ob → w.heap[b]? = some ob := fun b ob hb => by
    simp only [h'] at hb
    split at hb
    · exact hb
    · exact hs.imm b ob hb
  have hx : RepT h' (m (.par k)) (.sl sz es) := by
    simp only [RepT]
    rcases h1.2 with ⟨hv, hn⟩ | ⟨g, cap, cur, lo, hi, hv, hg, hf, hnc, hcm, hcs, ht⟩
    · exact ⟨none, 0, 0, hv, hn.symm, Nat.le_refl _, ⟨Nat.zero_le _, fun _ => rfl⟩, fun h => absurd rfl h⟩
    · refine ⟨_, _, cap, hv, rfl, hnc, ⟨hcm, fun h => by cases h⟩, fun _ => ⟨g, 0, rfl, RepEs.mono hh (fun j u hu => ?_) h2⟩⟩
      have hb : h' g = some (.cells cur e (lo, hi)) := by
        show (if blk (m (.par k)) = some g then w.heap[g]? else h g) = _
        rw [hv]
        simp [blk, hg]
      simp only [hcell, hb]
      rw [← ht, List.getElem?_take] at hu
      split at hu
      · simpa using hu
      · cases hu
  refine (H.run h' m vs w ⟨himm, fun _ _ hx => by simp [StL.get] at hx, fun _ _ _ hx => by simp [StL.get] at hx, fun _ _ _ _ _ hx => by simp [StL.get] at hx⟩ (by simpa using hvs) (zbo hh hx hrep)).mono ?_
  rintro ex w' ⟨v, h3, m3, rfl, hv, hs3, hf3⟩
  have hm3 : m3 (.par k) = m (.par k) := hf3.par k
  let h4 : Heap := fun b => if blk (m (.par k)) = some b then none else h3 b
  have sepk : ∀ b, blk (m (.par k)) = some b → h b = none ∧ b < w.heap.size := fun b hb => hs.sep _ _ b (zM _ _) hb
  have hle : h.le h4 := fun b ob hb => by
    show (if blk (m (.par k)) = some b then none else h3 b) = some ob
    rw [if_neg fun e => by rw [(sepk b e).1] at hb; cases hb]
    exact hf3.foot.grow b ob (hh b ob hb)
  have hsame : ∀ b, blk (m (.par k)) = some b → ∀ ob, w.heap[b]? = some ob → w'.heap[b]? = some ob := fun b hb ob ho =>
    hs3.imm b ob (hf3.foot.grow b ob (by show (if blk (m (.par k)) = some b then w.heap[b]? else h b) = some ob; rw [if_pos hb]; exact ho))
  have one : ∀ {x : Id} {row : Row}, StL.get [(Id.par k, Row.slt e sz es)] x = some row → x = .par k ∧ row = .slt e sz es := fun {x row} hx => by
    simp only [StL.get] at hx
    split at hx
    · rename_i e1; cases hx; exact ⟨e1.symm, rfl⟩
    · cases hx
  refine ⟨v, h4, m3, rfl, ?_, ⟨?_, ?_, ?_, ?_⟩, ⟨⟨hf3.foot.os, hf3.foot.tape, hf3.foot.output, hf3.foot.size, ?_, hle, ?_⟩, hf3.par⟩⟩
  · simp only [RepA] at hv ⊢
    exact hr _ _ _ hv
  · intro b ob hb
    simp only [h4] at hb
    split at hb
    · cases hb
    · exact hs3.imm b ob hb
  · intro x row hx
    obtain ⟨rfl, rfl⟩ := one hx
    refine ⟨xs, ⟨h1.1, ?_⟩, RepEs.mono hle (fun _ _ hu => hu) h2⟩
    rw [hm3]
    rcases h1.2 with h5 | ⟨g, cap, cur, lo, hi, hv', hg, rest⟩
    · exact .inl h5
    · exact .inr ⟨g, cap, cur, lo, hi, hv', hsame g (by rw [hv']; rfl) _ hg, rest⟩
  · intro x row b hx hb
    obtain ⟨rfl, rfl⟩ := one hx
    rw [hm3] at hb
    refine ⟨?_, Nat.lt_of_lt_of_le (sepk b hb).2 hf3.foot.size⟩
    show (if blk (m (.par k)) = some b then none else h3 b) = none
    rw [if_pos hb]
  · intro x y r1 r2 b hx hy _ _
    rw [(one hx).1, (one hy).1]
  · intro b hb hn
    have hne : ¬ blk (m (.par k)) = some b := hn _ _ (zM _ _)
    obtain ⟨q1, q2⟩ := hf3.foot.keep b hb fun _ _ hx => by simp [StL.get] at hx
    refine ⟨q1, ?_⟩
    show (if blk (m (.par k)) = some b then none else h3 b) = h b
    rw [if_neg hne, q2]
    show (if blk (m (.par k)) = some b then w.heap[b]? else h b) = h b
    rw [if_neg hne]
  · intro x row b hx hb
    obtain ⟨rfl, rfl⟩ := one hx
    rw [hm3] at hb
    exact .inr ⟨.par k, _, zM _ _, hb⟩
end Go.AL
set_option linter.unusedSimpArgs false
namespace Go.AL
open Go Go.RowKit
section
variable {P : Program} {o : Oper} {ρ : Operand → AV} {w : World} {h : Heap} {m : zI}
end
section
variable {P : Program} {nt : Nat} {ops : Array Oper} {o : Oper} {rest : List Oper} {env : EnvL} {st : StO} {acc : List SD} {K : EnvL → StO → List SD → Prop} {d : Nat}
end
end Go.AL
namespace Go.AL
open Go Go.RowKit
section
variable {P : Program} {nt : Nat} {ops : Array Oper} {o : Oper} {rest : List Oper} {env : EnvL} {st : StO} {acc : List SD} {K : EnvL → StO → List SD → Prop} {d : Nat}
end
end Go.AL
set_option linter.unusedSimpArgs false
namespace Go.AL
open Go Go.RowKit
section
variable {P : Program} {nt : Nat} {ops : Array Oper} {o : Oper} {rest : List Oper} {env : EnvL} {st : StO} {acc : List SD} {K : EnvL → StO → List SD → Prop} {d : Nat}
end
section
variable {P : Program} {nt : Nat} {ops : Array Oper} {o : Oper} {rest : List Oper} {env : EnvL} {st : StO} {acc : List SD} {K : EnvL → StO → List SD → Prop} {d : Nat}
end
section
variable {P : Program} {fn : Func} {env : EnvL} {st : StO}
theorem yg {t u s : Nat} {ty : TypeId} {id : Id} {vty : TypeId} {cs : List AV} {d : TypeDesc} {size bytes : Nat} {z : Value} {x y q : AV} (hr : fn.results = #[.tmp u, .cell t ty, .tmp s]) (ht : env.get t = .ref id 0 0 0) (hst : StO.get st id = some (.var vty cs)) (tu : TyU P ty d) (hd : yz d = true) (ti : TyI P ty size bytes z) (hl : cs.length = size) (hy : AVLE (env.get u) y) (hx : AVLE (qp cs) x) (hq : AVLE (env.get s) q) : zdw P fn env.get st.get (.tup [y, x, q]) := fun nt h m a w c => by
  obtain ⟨v, ad, k0, k1, k2⟩ := kA (P := P) c ht hst tu hd ti hl
  refine ⟨.tuple #[a.tmps.getD u undef, v, a.tmps.getD s undef], by simp [results, hr, k0, asAddr, k1], #[a.tmps.getD u undef, v, a.tmps.getD s undef], rfl, rfl, ?_⟩
  simp only [RepAs, and_true]
  exact ⟨⟨_, rfl, hy h m _ (c.env u)⟩, ⟨_, rfl, hx h m v k2⟩, ⟨_, rfl, hq h m _ (c.env s)⟩⟩
end
end Go.AL
