/- The layer of abstract values, fourth part: ranges over strings and maps, interfaces against nil, laid variables; each under the conditions that its own theorem names. -/
import Derived.Test.YtbdejdhdblplgaaGreatAl3
import Derived.Maps.RangeRun
import Derived.Lib.LaidTab
import Derived.Lib.LaidU8
set_option linter.unusedVariables false
set_option linter.unusedSimpArgs false
namespace Go.AL
open Go Go.RowKit
section
variable {P : Program} {o : Oper} {ρ : Operand → AV}
end
section
variable {P : Program} {nt : Nat} {ops : Array Oper} {o : Oper} {rest : List Oper} {env : EnvL} {st : StO} {acc : List SD} {K : EnvL → StO → List SD → Prop} {d : Nat}
end
end Go.AL
set_option linter.unusedSimpArgs false
namespace Go.AL
open Go Go.RowKit
class CmpT (P : Program) (t : TypeId) : Prop where
  h : ∃ i, P.info? t = some i ∧ i.comparable = true
theorem CmpT.of {P : Program} {t : TypeId} (h : (P.info? t).map (·.comparable) = some true) : CmpT P t := ⟨by
  cases e : P.info? t with
  | none => rw [e] at h; cases h
  | some i => rw [e] at h; exact ⟨i, rfl, by simpa using h⟩⟩
section
variable {P : Program} {o : Oper} {ρ : Operand → AV}
end
section
variable {P : Program} {nt : Nat} {ops : Array Oper} {o : Oper} {rest : List Oper} {env : EnvL} {st : StO} {acc : List SD} {K : EnvL → StO → List SD → Prop} {d : Nat}
end
end Go.AL
set_option linter.unusedSimpArgs false
namespace Go.AL
open Go Go.RowKit
section
variable {P : Program} {nt : Nat}
end
section
variable {P : Program} {nt : Nat} {ops : Array Oper} {o : Oper} {rest : List Oper} {env : EnvL} {st : StO} {acc : List SD} {K : EnvL → StO → List SD → Prop} {d : Nat}
end
section
variable {P : Program} {nt : Nat} {ops : Array Oper} {o : Oper} {rest : List Oper} {env : EnvL} {st : StO} {acc : List SD} {K : EnvL → StO → List SD → Prop} {d : Nat}
end
section
variable {P : Program} {fn : Func} {env : EnvL} {st : StO}
theorem jY {t u s : Nat} {ty : TypeId} {id : Id} {vty : TypeId} {cs : List AV} {d : TypeDesc} {size bytes : Nat} {z : Value} {x y q : AV} (hr : fn.results = #[.cell t ty, .tmp u, .tmp s]) (ht : env.get t = .ref id 0 0 0) (hst : StO.get st id = some (.var vty cs)) (tu : TyU P ty d) (hd : yG d = true) (ti : TyI P ty size bytes z) (hl : cs.length = size) (hx : AVLE (qv cs) x) (hy : AVLE (env.get u) y) (hq : AVLE (env.get s) q) : zej P fn env.get st.get (.tup [x, y, q]) := fun nt h m a w c => by
  obtain ⟨v, ad, k0, k1, k2⟩ := kR (P := P) c ht hst tu hd ti hl
  refine ⟨.tuple #[v, a.tmps.getD u undef, a.tmps.getD s undef], by simp [results, hr, k0, asAddr, k1], #[v, a.tmps.getD u undef, a.tmps.getD s undef], rfl, rfl, ?_⟩
  simp only [RepAs, and_true]
  exact ⟨⟨_, rfl, hx h m v k2⟩, ⟨_, rfl, hy h m _ (c.env u)⟩, ⟨_, rfl, hq h m _ (c.env s)⟩⟩
end
end Go.AL
set_option linter.unusedSimpArgs false
namespace Go.AL
open Go Go.RowKit
section
variable {P : Program} {o : Oper} {ρ : Operand → AV}
end
section
variable {P : Program} {nt : Nat} {ops : Array Oper} {o : Oper} {rest : List Oper} {env : EnvL} {st : StO} {acc : List SD} {K : EnvL → StO → List SD → Prop} {d : Nat}
end
end Go.AL
namespace Go.AL
open Go Go.RowKit Go.ChangeShapes Go.WideShapes Go.ChangeMaps
mutual
def T.noG : T → Bool
  | .int .u8 _ => false
  | .int .u64 _ => false
  | .iface => false
  | .ifi _ _ _ => false
  | .agg cs => T.noGL cs
  | .sl sz es => decide (0 < sz) && T.noGL es
  | .slq _ _ => false
  | _ => true
def T.noGL : List T → Bool
  | [] => true
  | x :: xs => x.noG && T.noGL xs
end
end Go.AL
set_option linter.unusedSimpArgs false
namespace Go.AL
open Go Go.RowKit
section
variable {P : Program} {o : Oper} {ρ : Operand → AV}
end
section
variable {P : Program} {nt : Nat} {ops : Array Oper} {o : Oper} {rest : List Oper} {env : EnvL} {st : StO} {acc : List SD} {K : EnvL → StO → List SD → Prop} {d : Nat}
end
end Go.AL
set_option linter.unusedSimpArgs false
namespace Go.AL
open Go Go.RowKit
theorem OpT.frz {P : Program} {o : Oper} {ρ : Operand → AV} {id : Id} {e : TypeId} {sz : Nat} {es : List T} (H : OpT P o ρ (StL.get []) (.row id) (StL.get [(id, .slt e sz es)]) [id]) : OpT P o ρ (StL.get []) (.t (.sl sz es)) (StL.get []) [] := by
  intro h m a w hs hr K Q hK
  refine H h m a w hs hr K Q fun v h1 m1 w1 hv hs1 hf hN => ?_
  have hve : v = m1 id := hv.1
  subst hve
  obtain ⟨xs, k1, k2⟩ := hs1.rows id _ (zZ id _)
  let h2 : Heap := fun b => if blk (m1 id) = some b then w1.heap[b]? else h1 b
  have hh : h1.le h2 := fun b ob hb => by
    show (if blk (m1 id) = some b then w1.heap[b]? else h1 b) = some ob
    split
    · exact hs1.imm b ob hb
    · exact hb
  have himm : ∀ b ob, h2 b = some ob → w1.heap[b]? = some ob := fun b ob hb => by
    simp only [h2] at hb
    split at hb
    · exact hb
    · exact hs1.imm b ob hb
  have hx : RepT h2 (m1 id) (.sl sz es) := by
    simp only [RepT]
    rcases k1.2 with ⟨hv, hn⟩ | ⟨g, cap, cur, lo, hi, hv, hg, hf, hnc, hcm, hcs, ht⟩
    · exact ⟨none, 0, 0, hv, hn.symm, Nat.le_refl _, ⟨Nat.zero_le _, fun _ => rfl⟩, fun h => absurd rfl h⟩
    · refine ⟨_, _, cap, hv, rfl, hnc, ⟨hcm, fun h => by cases h⟩, fun _ => ⟨g, 0, rfl, RepEs.mono hh (fun j u hu => ?_) k2⟩⟩
      have hb : h2 g = some (.cells cur e (lo, hi)) := by
        show (if blk (m1 id) = some g then w1.heap[g]? else h1 g) = _
        rw [hv]
        simp [blk, hg]
      simp only [hcell, hb]
      rw [← ht, List.getElem?_take] at hu
      split at hu
      · simpa using hu
      · cases hu
  refine hK _ h2 m w1 (by simpa [RepA] using hx) ⟨himm, fun _ _ hx => by simp [StL.get] at hx, fun _ _ _ hx => by simp [StL.get] at hx, fun _ _ _ _ _ hx => by simp [StL.get] at hx⟩
    ⟨hf.os, hf.tape, hf.output, hf.size, fun b hb hn => ⟨(hf.keep b hb hn).1, ?_⟩, fun b ob hb => hh b ob (hf.grow b ob hb), fun _ _ _ hx => by simp [StL.get] at hx⟩ fun _ _ => rfl
  show (if blk (m1 id) = some b then w1.heap[b]? else h1 b) = h b
  rw [if_neg fun e => ?_]
  · exact (hf.keep b hb hn).2
  · rcases hf.fresh id _ b (zZ id _) e with h3 | ⟨_, _, h3, _⟩
    · omega
    · simp [StL.get] at h3
section
variable {P : Program} {nt : Nat} {ops : Array Oper} {o : Oper} {rest : List Oper} {env : EnvL} {st : StO} {acc : List SD} {K : EnvL → StO → List SD → Prop} {d : Nat}
theorem yS {t elem : TypeId} {len : Nat} {parts : Array (Nat × Operand)} {sz bytes : Nat} {z : Value} {es : List T} (ho : o.op = .buildSlice t len parts) [tu : TyU P t (.slice elem)] [ti : TyI P elem sz bytes z]
    (hes : zcO 0 (parts.toList.map (fun p => (p.1, zr env.get p.2))) = some es) (hside : (decide (es.length = len) && (es.all (fun e => decide (e.cells.length = sz)) && (decide (z.cells.size = sz) && (decide (0 < sz) && (z.cells.toList.all Value.oneCell' && decide (len * sz ≤ 16777216)))))) = true)
    (hd : o.dst = some d) (hn : (decide (d < nt)) = true) (hg : zm ops o env = true)
    (H : LexP P nt ops rest ((d, .t (.sl sz es)) :: env) st (⟨true, [], .t (.sl sz es), [], [], []⟩ :: acc) K) : LexP P nt ops (o :: rest) env st acc K := by
  simp only [Bool.and_eq_true, decide_eq_true_eq, List.all_eq_true] at hside
  obtain ⟨s1, s2, s3, s4, s5, s6⟩ := hside
  have e := zau hes
  subst s1
  have f := zbt (sz := sz) es [] 0 (by simp) s2
  simp only [List.nil_append] at f
  exact zK (OpT.frz (vR (.loc d) ho tu ti s3 s4 s5 s6 (jx _ _ 0 e s2 (by simp)) f rfl s2)) hd hn hg H
end
end Go.AL
set_option linter.unusedSimpArgs false
namespace Go.AL
open Go Go.RowKit
section
variable {P : Program} {o : Oper} {ρ : Operand → AV}
end
section
variable {P : Program} {nt : Nat} {ops : Array Oper} {o : Oper} {rest : List Oper} {env : EnvL} {st : StO} {acc : List SD} {K : EnvL → StO → List SD → Prop} {d : Nat}
end
end Go.AL
set_option linter.unusedSimpArgs false
namespace Go.AL
open Go Go.RowKit
section
variable {P : Program} {o : Oper} {ρ : Operand → AV}
end
section
variable {P : Program} {nt : Nat} {ops : Array Oper} {o : Oper} {rest : List Oper} {env : EnvL} {st : StO} {acc : List SD} {K : EnvL → StO → List SD → Prop} {d : Nat}
end
end Go.AL
set_option linter.unusedSimpArgs false
namespace Go.AL
open Go Go.RowKit
section
variable {P : Program} {nt : Nat} {ops : Array Oper} {o : Oper} {rest : List Oper} {env : EnvL} {st : StO} {acc : List SD} {K : EnvL → StO → List SD → Prop} {d : Nat}
end
end Go.AL
set_option linter.unusedSimpArgs false
namespace Go.AL
open Go Go.RowKit
end Go.AL
set_option linter.unusedSimpArgs false
namespace Go.AL
open Go Go.RowKit
section
variable {P : Program} {o : Oper} {ρ : Operand → AV} {w : World} {h : Heap} {m : zI}
end
section
variable {P : Program} {nt : Nat} {ops : Array Oper} {o : Oper} {rest : List Oper} {env : EnvL} {st : StO} {acc : List SD} {K : EnvL → StO → List SD → Prop} {d : Nat}
end
end Go.AL
namespace Go.AL
open Go Go.RowKit
section
variable {P : Program} {nt : Nat} {ops : Array Oper} {o : Oper} {rest : List Oper} {env : EnvL} {st : StO} {acc : List SD} {K : EnvL → StO → List SD → Prop} {d : Nat}
end
end Go.AL
set_option linter.unusedSimpArgs false
namespace Go.AL
open Go Go.RowKit
section
variable {P : Program} {nt : Nat} {ops : Array Oper} {o : Oper} {rest : List Oper} {env : EnvL} {st : StO} {acc : List SD} {K : EnvL → StO → List SD → Prop} {d : Nat}
end
section
variable {P : Program} {nt : Nat} {ops : Array Oper} {o : Oper} {rest : List Oper} {env : EnvL} {st : StO} {acc : List SD} {K : EnvL → StO → List SD → Prop} {d : Nat}
end
section
variable {P : Program} {fn : Func} {env : EnvL} {st : StO}
theorem qR {t u s : Nat} {ty : TypeId} {id : Id} {vty : TypeId} {cs : List AV} {d : TypeDesc} {size bytes : Nat} {z : Value} {x y q : AV} (hr : fn.results = #[.tmp u, .cell t ty, .tmp s]) (ht : env.get t = .ref id 0 0 0) (hst : StO.get st id = some (.var vty cs)) (tu : TyU P ty d) (hd : yG d = true) (ti : TyI P ty size bytes z) (hl : cs.length = size) (hy : AVLE (env.get u) y) (hx : AVLE (qv cs) x) (hq : AVLE (env.get s) q) : zej P fn env.get st.get (.tup [y, x, q]) := fun nt h m a w c => by
  obtain ⟨v, ad, k0, k1, k2⟩ := kR (P := P) c ht hst tu hd ti hl
  refine ⟨.tuple #[a.tmps.getD u undef, v, a.tmps.getD s undef], by simp [results, hr, k0, asAddr, k1], #[a.tmps.getD u undef, v, a.tmps.getD s undef], rfl, rfl, ?_⟩
  simp only [RepAs, and_true]
  exact ⟨⟨_, rfl, hy h m _ (c.env u)⟩, ⟨_, rfl, hx h m v k2⟩, ⟨_, rfl, hq h m _ (c.env s)⟩⟩
end
end Go.AL
