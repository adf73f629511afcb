/- Nodes as plain data; no program in sight. -/
import Derived.Test.YtkfjchmmhabocaaAl3
import Derived.Test.YtkfjchmmhabocaaAl4
set_option linter.unusedVariables false
namespace Go.AL
open Go Go.RowKit

inductive Nd where
  | mk (kind : Int) (b : Bool) (num : Int) (text : ByteArray) (names : List ByteArray) (items : List Nd)
  deriving Inhabited

mutual
def Nd.toT : Nd → T
  | .mk k b n t ns is => .agg [.int .i64 k, .bool b, .int .i64 n, .str t, .sl 1 (ns.map .str), .sl 6 (Nd.toTs is)]
def Nd.toTs : List Nd → List T
  | [] => []
  | x :: xs => x.toT :: Nd.toTs xs
end
def Nd.items : Nd → List Nd
  | .mk _ _ _ _ _ is => is
def Nd.names : Nd → List ByteArray
  | .mk _ _ _ _ ns _ => ns
/-- No slice of it is too long. -/
inductive Nd.Ok : Nd → Prop
  | mk {k : Int} {b : Bool} {n : Int} {t : ByteArray} {ns : List ByteArray} {is : List Nd} : ns.length ≤ 8796093021952 → is.length ≤ 1599289640354 → (∀ x ∈ is, x.Ok) → Nd.Ok (.mk k b n t ns is)

section
variable {P : Program} {nt : Nat} {ops : Array Oper} {o : Oper} {rest : List Oper} {env : EnvL} {st : StO} {acc : List SD} {K : EnvL → StO → List SD → Prop} {d : Nat}
theorem lx_load_elsAM {α : Type} [Inhabited α] {f : α → T} {l : List α} {ty : TypeId} {p : Operand} {id : Id} {i sz : Nat} {e : TypeId} {dd : TypeDesc} {bytes : Nat} {z : Value} (ho : o.op = .load ty p) (hp : evalA env.get p = .ref id i sz 0) [tu : TyU P ty dd] (ha : isAggD dd = true) [ti : TyI P ty sz bytes z] (hst : StO.get st id = some (.slt e sz (l.map f))) (hd : o.dst = some d) (hn : (decide (d < nt)) = true) (hg : guardOK ops o env = true) (hx : i < l.length) (hagg : (f (l.getD i default)).isAgg = true)
    (H : LexP P nt ops rest ((d, .t (f (l.getD i default))) :: env) st (⟨true, [(id, .slt e sz (l.map f))], .t (f (l.getD i default)), [(id, .slt e sz (l.map f))], [], []⟩ :: acc) K) : LexP P nt ops (o :: rest) env st acc K :=
  lx_load_elsA ho hp ha hst hd hn hg (x := f (l.getD i default)) (by rw [List.getElem?_map]; simp [List.getD_eq_getElem?_getD, hx]) hagg H
end
end Go.AL
/- Which nodes are valid, as plain data; no program in sight. -/
set_option linter.unusedVariables false
namespace Go.AL
open Go Go.RowKit

def Nd.fieldsOK : Nd → Bool
  | .mk k b n t ns is => (decide (k = 1) || !b) && (decide (k = 2) || decide (n = 0)) && (decide (k = 3) || decide (t = ⟨#[]⟩)) && (decide (k = 4) || decide (k = 5) || decide ((is.length : Int) = 0)) && (decide (k = 5) || decide ((ns.length : Int) = 0))

def textB (V : ByteArray → Bool) (s : ByteArray) : Bool := decide ((s.size : Int) ≤ 65536) && V s

def inB (s : ByteArray) (l : List ByteArray) : Bool := l.any fun x => decide (s = x)
/-- No name twice, each one a text. -/
def namesOk (tx : ByteArray → Bool) : List ByteArray → List ByteArray → Bool
  | _, [] => true
  | seen, s :: l => if inB s seen || !tx s then false else namesOk tx (s :: seen) l

mutual
def Nd.validB (V : ByteArray → Bool) : Nd → Int → Bool
  | .mk k b n t ns is, d => !(decide (d < 1) || decide (k < 0) || decide (5 < k) || !(Nd.mk k b n t ns is).fieldsOK || !textB V t || decide (256 < (is.length : Int))) && (!decide (k = 5) || (namesOk (textB V) [] ns && decide ((ns.length : Int) = is.length))) && !Nd.anyBad V is (d - 1)
def Nd.anyBad (V : ByteArray → Bool) : List Nd → Int → Bool
  | [], _ => false
  | x :: xs, d => !x.validB V d || Nd.anyBad V xs d
end
end Go.AL
/- Maps as plain data: places, puts, and what they keep; no program in sight. -/
set_option linter.unusedVariables false
namespace Go.AL
open Go Go.RowKit

def Nd.kind : Nd → Int
  | .mk k _ _ _ _ _ => k
def Nd.bool : Nd → Bool
  | .mk _ b _ _ _ _ => b
def Nd.num : Nd → Int
  | .mk _ _ n _ _ _ => n
def Nd.text : Nd → ByteArray
  | .mk _ _ _ t _ _ => t
def Nd.zero : Nd := .mk 0 false 0 ⟨#[]⟩ [] []
def idxB (s : ByteArray) : List ByteArray → Int → Int
  | [], _ => -1
  | x :: xs, j => if s = x then j else idxB s xs (j + 1)
def Nd.place (n : Nd) (s : ByteArray) : Int := if n.kind = 5 then idxB s (n.names.take (min n.names.length n.items.length)) 0 else -1
def Nd.get (n : Nd) (s : ByteArray) : Nd × Bool := if n.place s < 0 then (Nd.zero, false) else (n.items.getD (n.place s).toNat default, true)
def Nd.set (n : Nd) (s : ByteArray) (v : Nd) : Nd :=
  if 0 ≤ n.place s then .mk n.kind n.bool n.num n.text n.names (n.items.set (n.place s).toNat v)
  else .mk n.kind n.bool n.num n.text (n.names ++ [s]) (n.items ++ [v])
def Nd.put (V : ByteArray → Bool) (n : Nd) (s : ByteArray) (v : Nd) : Nd × Int :=
  if n.kind = 5 ∧ n.validB V 8 = true ∧ (n.set s v).validB V 8 = true then (n.set s v, 0) else (Nd.zero, 1)

theorem idxB_at (s : ByteArray) : ∀ (l : List ByteArray) (j : Int) (i : Nat), l.Nodup → l[i]? = some s → idxB s l j = j + i
  | [], j, i, _, h => by simp at h
  | x :: xs, j, 0, _, h => by
    simp only [List.getElem?_cons_zero, Option.some.injEq] at h
    simp [idxB, h]
  | x :: xs, j, i + 1, hn, h => by
    simp only [List.getElem?_cons_succ] at h
    have hm : s ∈ xs := List.mem_of_getElem? h
    have hx : s ≠ x := fun e => (List.nodup_cons.1 hn).1 (e ▸ hm)
    rw [idxB, if_neg hx, idxB_at s xs (j + 1) i (List.nodup_cons.1 hn).2 h]
    omega
end Go.AL
/- Dice and the nodes that the kit makes of them, as plain data; no program in sight. -/
set_option linter.unusedVariables false
namespace Go.AL
open Go Go.RowKit

/-- Dice: the numbers, and how many of them are used. -/
structure Dc where
  l : List Int
  k : Nat
def modI (n m : Int) : Int := if m < 1 then 0 else n % m
def Dc.next (d : Dc) (n : Int) : Int × Dc := if (d.l.length : Int) ≤ d.k then (0, d) else (modI (d.l.getD d.k 0) n, ⟨d.l, d.k + 1⟩)
def Dc.word (d : Dc) (l : List ByteArray) : ByteArray × Dc := (l.getD (d.next l.length).1.toNat default, (d.next l.length).2)
theorem modI_lt (n m : Int) (h : 1 ≤ m) : 0 ≤ modI n m ∧ modI n m < m := by
  unfold modI
  rw [if_neg (by omega)]
  exact ⟨Int.emod_nonneg _ (by omega), Int.emod_lt_of_pos _ (by omega)⟩
theorem Dc.next_lt (d : Dc) (n : Int) (h : 1 ≤ n) : 0 ≤ (d.next n).1 ∧ (d.next n).1 < n := by
  unfold Dc.next; split
  · exact ⟨Int.le_refl 0, by show (0 : Int) < n; omega⟩
  · exact modI_lt _ _ h
theorem Dc.next_l (d : Dc) (n : Int) : (d.next n).2.l = d.l := by
  unfold Dc.next; split <;> rfl
def eS : ByteArray := ⟨#[]⟩
def xS : ByteArray := ⟨#[120]⟩
def kTexts : List ByteArray := [⟨#[]⟩, ⟨#[97]⟩, ⟨#[66, 111, 110, 110]⟩, ⟨#[97, 32, 34, 113, 117, 111, 116, 101, 100, 34, 32, 92, 32, 116, 101, 120, 116]⟩, ⟨#[108, 105, 110, 101, 10, 97, 110, 100, 9, 116, 97, 98, 1, 31, 127]⟩, ⟨#[195, 164, 226, 130, 172, 240, 159, 152, 128]⟩, ⟨#[75, 69, 82, 73, 49, 48, 74, 83, 79, 78, 48, 48, 48, 48, 50, 97, 95]⟩]
def kSizes : List Int := [23, 24, 31, 32, 255, 256]
def kPad : Nat → ByteArray → Dc → ByteArray × Dc
  | 0, s, d => (s, (d.next 6).2)
  | f + 1, s, d => if (s.size : Int) < kSizes.getD (d.next 6).1.toNat 0 then kPad f (s ++ xS) (d.next 6).2 else (s, (d.next 6).2)
def kText (d : Dc) : ByteArray × Dc :=
  if ((d.word kTexts).2.next 10).1 = 1 then kPad 300 (d.word kTexts).1 ((d.word kTexts).2.next 10).2 else ((d.word kTexts).1, ((d.word kTexts).2.next 10).2)
def kFill : Nat → List Nd → Dc → List Nd × Dc
  | 0, l, d => (l, (d.next 3).2)
  | f + 1, l, d => if (l.length : Int) < 15 + (d.next 3).1 then kFill f (l ++ [Nd.zero]) (d.next 3).2 else (l, (d.next 3).2)
def kWords : List ByteArray := [⟨#[97]⟩, ⟨#[98]⟩, ⟨#[118]⟩, ⟨#[100]⟩, ⟨#[]⟩]
def kTwo (i : Nat) : ByteArray := ⟨#[UInt8.ofNat (48 + i % 10), UInt8.ofNat (48 + i / 10)]⟩
def kNames : Nat → Nat → Dc → List ByteArray × Dc
  | 0, _, d => ([], d)
  | c + 1, i, d => (((d.word kWords).1 ++ kTwo i) :: (kNames c (i + 1) (d.word kWords).2).1, (kNames c (i + 1) (d.word kWords).2).2)
def kItems (f : Dc → Nd × Dc) : Nat → Dc → List Nd × Dc
  | 0, d => ([], d)
  | c + 1, d => ((f d).1 :: (kItems f c (f d).2).1, (kItems f c (f d).2).2)
def kNums : List Int := [0, 1, 23, 24, 127, 128, 255, 256, 65535, 65536, 4294967296, 9223372036854775807]
def kSeq (k : Int) (f : Dc → Nd × Dc) (d : Dc) : Nd × Dc :=
  let q := d.next 4
  let is := kItems f q.1.toNat q.2
  let z := is.2.next 20
  let g := if z.1 = 1 then kFill 20 is.1 z.2 else (is.1, z.2)
  let ns := if k = 5 then kNames g.1.length 0 g.2 else ([], g.2)
  (.mk k false 0 eS ns.1 g.1, ns.2)
def kTree (rec : Option (Dc → Nd × Dc)) (d : Dc) : Nd × Dc :=
  let k := (d.next 6).1
  let e := (d.next 6).2
  if k = 1 then (.mk 1 (decide ((e.next 2).1 = 1)) 0 eS [] [], (e.next 2).2)
  else if k = 2 then (.mk 2 false (if ((e.next 12).2.next 2).1 = 1 then -1 - kNums.getD (e.next 12).1.toNat 0 else kNums.getD (e.next 12).1.toNat 0) eS [] [], ((e.next 12).2.next 2).2)
  else if k = 3 then (.mk 3 false 0 (kText e).1 [] [], (kText e).2)
  else if k = 4 ∨ k = 5 then match rec with
    | none => (.mk k false 0 eS [] [], e)
    | some f => kSeq k f e
  else (Nd.zero, e)
def kNode : Nat → Dc → Nd × Dc
  | 0, d => kTree none d
  | 1, d => kTree none d
  | n + 2, d => kTree (some (kNode (n + 1))) d
def kMapNames : List ByteArray := [⟨#[97]⟩, ⟨#[98]⟩, ⟨#[118]⟩, ⟨#[100]⟩]
def kMap (n : Nat) (d : Dc) : Nd × Dc :=
  (.mk 5 false 0 eS (kMapNames.take (d.next 4).1.toNat) (kItems (kNode (n - 1)) (d.next 4).1.toNat (d.next 4).2).1, (kItems (kNode (n - 1)) (d.next 4).1.toNat (d.next 4).2).2)

/-! ### they are valid -/
/-- What is asked of the test of texts. -/
structure VOk (V : ByteArray → Bool) : Prop where
  asc : ∀ s : ByteArray, (∀ b ∈ s.data.toList, b.toNat < 128) → V s = true
  app : ∀ s : ByteArray, V s = true → V (s ++ xS) = true
  odd : V ⟨#[195, 164, 226, 130, 172, 240, 159, 152, 128]⟩ = true

end Go.AL
/- That the nodes of the kit are valid, as plain data; no program in sight. -/
set_option linter.unusedVariables false
set_option linter.unusedSimpArgs false
namespace Go.AL
open Go Go.RowKit

end Go.AL
/- What putting into a map keeps, and when two nodes are the same, as plain data; no program in sight. -/
set_option linter.unusedVariables false
set_option linter.unusedSimpArgs false
namespace Go.AL
open Go Go.RowKit

mutual
def Nd.same : Nd → Nd → Bool
  | .mk k b n t ns is, .mk k' b' n' t' ns' is' => decide (k = k') && decide (b = b') && decide (n = n') && decide (t = t') && decide (ns = ns') && Nd.sames is is'
def Nd.sames : List Nd → List Nd → Bool
  | [], [] => true
  | x :: xs, y :: ys => x.same y && Nd.sames xs ys
  | [], _ :: _ => false
  | _ :: _, [] => false
end
mutual
theorem Nd.same_iff : ∀ x y : Nd, x.same y = true ↔ x = y
  | .mk k b n t ns is, .mk k' b' n' t' ns' is' => by
    simp only [Nd.same, Bool.and_eq_true, decide_eq_true_eq, Nd.sames_iff is is', Nd.mk.injEq]
    constructor
    · rintro ⟨⟨⟨⟨⟨h1, h2⟩, h3⟩, h4⟩, h5⟩, h6⟩; exact ⟨h1, h2, h3, h4, h5, h6⟩
    · rintro ⟨h1, h2, h3, h4, h5, h6⟩; exact ⟨⟨⟨⟨⟨h1, h2⟩, h3⟩, h4⟩, h5⟩, h6⟩
theorem Nd.sames_iff : ∀ x y : List Nd, Nd.sames x y = true ↔ x = y
  | [], [] => by simp [Nd.sames]
  | x :: xs, y :: ys => by simp only [Nd.sames, Bool.and_eq_true, Nd.same_iff x y, Nd.sames_iff xs ys, List.cons.injEq]
  | [], _ :: _ => by simp [Nd.sames]
  | _ :: _, [] => by simp [Nd.sames]
end
/-- A map whose names are all different, and as many as its items. -/
structure Nd.IsMap (m : Nd) : Prop where
  kind : m.kind = 5
  len : m.names.length = m.items.length
  nodup : m.names.Nodup
theorem Nd.IsMap.place_eq {m : Nd} (h : m.IsMap) (s : ByteArray) : m.place s = idxB s m.names 0 := by
  unfold Nd.place
  rw [if_pos h.kind, ← h.len, Nat.min_self, List.take_length]
theorem Nd.IsMap.place_at {m : Nd} (h : m.IsMap) {i : Nat} {s : ByteArray} (hi : m.names[i]? = some s) : m.place s = i := by
  rw [h.place_eq, idxB_at s _ 0 i h.nodup hi]; omega
theorem Nd.IsMap.set {m : Nd} (h : m.IsMap) (s : ByteArray) (v : Nd) : (m.set s v).IsMap := by
  unfold Nd.set
  split
  · exact ⟨h.kind, by simpa [Nd.names, Nd.items] using h.len, h.nodup⟩
  · rename_i hp
    refine ⟨h.kind, by simp only [Nd.names, Nd.items, List.length_append, List.length_singleton]; have := h.len; simp only [Nd.names, Nd.items] at this; cases m; simpa using this, ?_⟩
    show (m.names ++ [s]).Nodup
    rw [List.nodup_append]
    refine ⟨h.nodup, by simp, fun a ha b hb => ?_⟩
    simp only [List.mem_singleton] at hb
    subst hb
    rintro rfl
    obtain ⟨i, hi⟩ := List.getElem?_of_mem ha
    have := h.place_at hi
    omega
end Go.AL
/- The second serialisation as plain data: how a node is written and read, and that it comes back; no program in sight. -/
set_option linter.unusedVariables false
namespace Go.AL
open Go Go.RowKit

def ofL (l : List UInt8) : ByteArray := ⟨l.toArray⟩
def bigL : Nat → Nat → List UInt8
  | 0, _ => []
  | k + 1, n => UInt8.ofNat (n / 256 ^ k) :: bigL k n
def hdL (m n : Nat) : List UInt8 :=
  if n < 24 then [UInt8.ofNat (32 * m + n)] else if n < 256 then UInt8.ofNat (32 * m + 24) :: bigL 1 n
  else if n < 65536 then UInt8.ofNat (32 * m + 25) :: bigL 2 n else if n < 4294967296 then UInt8.ofNat (32 * m + 26) :: bigL 4 n
  else UInt8.ofNat (32 * m + 27) :: bigL 8 n
mutual
def Nd.cb : Nd → List UInt8
  | .mk k b n t ns is =>
    if k = 0 then hdL 7 22 else if k = 1 then hdL 7 (if b then 21 else 20) else if k = 2 then (if n < 0 then hdL 1 (-1 - n).toNat else hdL 0 n.toNat)
    else if k = 3 then hdL 3 t.size ++ t.data.toList else if k = 4 then hdL 4 is.length ++ Nd.cbs is else hdL 5 is.length ++ Nd.cbm ns is
def Nd.cbs : List Nd → List UInt8
  | [] => []
  | x :: xs => x.cb ++ Nd.cbs xs
def Nd.cbm : List ByteArray → List Nd → List UInt8
  | s :: ns, x :: xs => hdL 3 s.size ++ s.data.toList ++ x.cb ++ Nd.cbm ns xs
  | _, _ => []
end

/-! ### the reader -/
structure Rs where
  s : ByteArray
  bad : Bool
def Rs.take (r : Rs) (n : Int) : ByteArray × Rs :=
  if r.bad = true ∨ n < 0 ∨ (r.s.size : Int) < n then (eS, ⟨r.s, true⟩) else (r.s.extract 0 n.toNat, ⟨r.s.extract n.toNat r.s.size, false⟩)
def Rs.byte (r : Rs) : Int × Rs := (if (r.take 1).1 = eS then 0 else bAt (r.take 1).1 0, (r.take 1).2)
def u64Step (n : Int) (b : UInt8) : Int := n * 256 % 18446744073709551616 + b.toNat
def Rs.uint (r : Rs) (k : Int) : Int × Rs := ((r.take k).1.data.toList.foldl u64Step 0, (r.take k).2)
def Rs.fits (r : Rs) (n : Int) : Int × Rs := if (r.s.size : Int) < n then (0, ⟨r.s, true⟩) else (n, r)
def cHead (r : Rs) : (Int × Int) × Rs :=
  if r.byte.1 % 32 < 24 then ((r.byte.1 / 32, r.byte.1 % 32), r.byte.2)
  else if 27 < r.byte.1 % 32 then ((r.byte.1 / 32, 0), ⟨r.byte.2.s, true⟩)
  else ((r.byte.1 / 32, (r.byte.2.uint (2 ^ (r.byte.1 % 32 - 24).toNat)).1), (r.byte.2.uint (2 ^ (r.byte.1 % 32 - 24).toNat)).2)
def cText (r : Rs) (n : Int) : ByteArray × Rs := (r.fits n).2.take (r.fits n).1
def cName (r : Rs) : ByteArray × Rs := cText (if (cHead r).1.1 = 3 then (cHead r).2 else ⟨(cHead r).2.s, true⟩) (cHead r).1.2
def cItems (f : Rs → Nd × Rs) (k : Int) : Nat → List ByteArray → List Nd → Rs → Nd × Rs
  | 0, ns, is, r => (.mk k false 0 eS ns is, r)
  | c + 1, ns, is, r => if r.bad = true then (.mk k false 0 eS ns is, r)
    else if k = 5 then cItems f k c (ns ++ [(cName r).1]) (is ++ [(f (cName r).2).1]) (f (cName r).2).2
    else cItems f k c ns (is ++ [(f r).1]) (f r).2
def i64 (n : Int) : Int := IntKind.i64.wrap n
def cNode : Nat → Rs → Nd × Rs
  | 0, r => (Nd.zero, ⟨(cHead r).2.s, true⟩)
  | d + 1, r =>
    let m := (cHead r).1.1
    let n := (cHead r).1.2
    let q := (cHead r).2
    if m = 0 then (.mk 2 false (i64 n) eS [] [], q)
    else if m = 1 then (.mk 2 false (-1 - i64 n) eS [] [], q)
    else if m = 3 then (.mk 3 false 0 (cText q n).1 [] [], (cText q n).2)
    else if m = 4 then cItems (cNode d) 4 (q.fits n).1.toNat [] [] (q.fits n).2
    else if m = 5 then cItems (cNode d) 5 (q.fits n).1.toNat [] [] (q.fits n).2
    else if m = 7 ∧ (n = 21 ∨ n = 20) then (.mk 1 (decide (n = 21)) 0 eS [] [], q)
    else (Nd.zero, q)

/-! ### what was written comes back -/
/-- Its numbers are of 64 bits. -/
inductive Nd.In : Nd → Prop
  | mk {k : Int} {b : Bool} {n : Int} {t : ByteArray} {ns : List ByteArray} {is : List Nd} : -9223372036854775808 ≤ n → n ≤ 9223372036854775807 → (∀ x ∈ is, x.In) → Nd.In (.mk k b n t ns is)

end Go.AL
/- That dice keep their numbers, as plain data; no program in sight. -/
set_option linter.unusedVariables false
namespace Go.AL
open Go Go.RowKit
end Go.AL
/- That valid nodes are small, as plain data; no program in sight. -/
set_option linter.unusedVariables false
namespace Go.AL
open Go Go.RowKit
end Go.AL
/- That the bytes of a valid node are read as that node, as plain data; no program in sight. -/
set_option linter.unusedVariables false
namespace Go.AL
open Go Go.RowKit

end Go.AL
/- How many bytes the kit's nodes take, as plain data; no program in sight. -/
set_option linter.unusedVariables false
namespace Go.AL
open Go Go.RowKit

def kB : Nat → Nat
  | 0 => 303
  | 1 => 303
  | n + 2 => 3 * kB (n + 1) + 300
end Go.AL
/- What the reader of the second serialisation takes, as plain data; no program in sight. -/
set_option linter.unusedVariables false
namespace Go.AL
open Go Go.RowKit

end Go.AL
/- The second serialisation's reading and writing as plain functions of bytes; no program in sight. -/
set_option linter.unusedVariables false
namespace Go.AL
open Go Go.RowKit

def cEnc (V : ByteArray → Bool) (x : Nd) : ByteArray × Int := if x.validB V 8 = true then (if 65536 < x.cb.length then (eS, 3) else (ofL x.cb, 0)) else (eS, 1)
def cRead (s : ByteArray) : Nd × Rs := cNode 8 ⟨s, false⟩
def cGood (V : ByteArray → Bool) (s : ByteArray) : Prop := (cRead s).2.bad = false ∧ (cRead s).2.s = eS ∧ (cRead s).1.validB V 8 = true ∧ cEnc V (cRead s).1 = (s, 0)
instance (V : ByteArray → Bool) (s : ByteArray) : Decidable (cGood V s) := by unfold cGood; exact inferInstance
def cDec (V : ByteArray → Bool) (s : ByteArray) : Nd × Int := if cGood V s then ((cRead s).1, 0) else (Nd.zero, 4)

end Go.AL
/- The reader's rest never grows, and what it reads is not too large; no program in sight. -/
set_option linter.unusedVariables false
namespace Go.AL
open Go Go.RowKit

end Go.AL
/- The document's reader of the second serialisation as plain functions, and that it reads what was written; no program in sight. -/
set_option linter.unusedVariables false
namespace Go.AL
open Go Go.RowKit

/-- A head at a place: its type, its number, and the place after it, or -1. -/
def rRead (s : ByteArray) (p : Nat) : (Int × Int) × Int :=
  if s.size ≤ p then ((0, 0), -1)
  else if bAt s p % 32 < 24 then ((bAt s p / 32, bAt s p % 32), (p : Int) + 1)
  else if 27 < bAt s p % 32 then ((0, 0), -1)
  else if (s.size : Int) - p - 1 < 2 ^ (bAt s p % 32 - 24).toNat then ((0, 0), -1)
  else ((bAt s p / 32, ((s.data.toList.drop (p + 1)).take (2 ^ (bAt s p % 32 - 24).toNat)).foldl u64Step 0), (p : Int) + 1 + 2 ^ (bAt s p % 32 - 24).toNat)
def rText (s : ByteArray) (p : Nat) : ByteArray × Int :=
  if (rRead s p).2 < 0 ∨ (rRead s p).1.1 ≠ 3 ∨ (s.size : Int) - (rRead s p).2 < (rRead s p).1.2 then (eS, -1)
  else (s.extract (rRead s p).2.toNat ((rRead s p).2 + (rRead s p).1.2).toNat, (rRead s p).2 + (rRead s p).1.2)
def rItems (f : Nat → Nd × Int) (s : ByteArray) (k : Int) : Nat → List ByteArray → List Nd → Nat → Nd × Int
  | 0, ns, is, q => (.mk k false 0 eS ns is, q)
  | c + 1, ns, is, q =>
    if k = 5 then
      (if (rText s q).2 < 0 then (Nd.zero, -1)
       else if (f (rText s q).2.toNat).2 < 0 then (Nd.zero, -1)
       else rItems f s k c (ns ++ [(rText s q).1]) (is ++ [(f (rText s q).2.toNat).1]) (f (rText s q).2.toNat).2.toNat)
    else (if (f q).2 < 0 then (Nd.zero, -1) else rItems f s k c ns (is ++ [(f q).1]) (f q).2.toNat)
def rVal (s : ByteArray) : Nat → Nat → Nd × Int
  | 0, p => (Nd.zero, -1)
  | d + 1, p =>
    if s.size ≤ p then (Nd.zero, -1)
    else if bAt s p = 244 ∨ bAt s p = 245 then (.mk 1 (decide (bAt s p = 245)) 0 eS [] [], (p : Int) + 1)
    else if bAt s p = 246 then (Nd.zero, (p : Int) + 1)
    else
      let m := (rRead s p).1.1
      let n := (rRead s p).1.2
      let q := (rRead s p).2
      if q < 0 ∨ 5 < m ∨ m = 2 ∨ (m < 2 ∧ 9223372036854775807 < n) ∨ (3 < m ∧ 256 < n) then (Nd.zero, -1)
      else if m = 0 then (.mk 2 false (i64 n) eS [] [], q)
      else if m = 1 then (.mk 2 false (i64 (-1 - i64 n)) eS [] [], q)
      else if m = 3 then (.mk 3 false 0 (rText s p).1 [] [], (rText s p).2)
      else rItems (rVal s d) s m n.toNat [] [] q.toNat

/-! ### it reads what was written -/
end Go.AL
/- What the document's reader of the second serialisation takes, and that both readers take the same; no program in sight. -/
set_option linter.unusedVariables false
namespace Go.AL
open Go Go.RowKit

def VGood (s : ByteArray) (p : Nat) (r : Nd × Int) : Prop := r.1.Ok ∧ -1 ≤ r.2 ∧ (r.2 ≠ -1 → (p : Int) < r.2 ∧ r.2 ≤ s.size ∧ (r.1.cb.length : Int) + p ≤ r.2 ∧ r.1.In)
def rDec (V : ByteArray → Bool) (s : ByteArray) : Nd × Int :=
  if 65536 < s.size then (Nd.zero, 4)
  else if (rVal s 8 0).2 = s.size ∧ (rVal s 8 0).1.validB V 8 = true ∧ ofL (rVal s 8 0).1.cb = s then ((rVal s 8 0).1, 0) else (Nd.zero, 4)
end Go.AL
/- SHA-256 as plain functions; no program in sight. -/
set_option linter.unusedVariables false
namespace Go.AL
open Go Go.RowKit

def wx (a b : Int) : Int := IntKind.u32.wrap ((BitVec.ofInt 32 a ^^^ BitVec.ofInt 32 b).toNat : Int)
def wa (a b : Int) : Int := IntKind.u32.wrap ((BitVec.ofInt 32 a &&& BitVec.ofInt 32 b).toNat : Int)
def wo (a b : Int) : Int := IntKind.u32.wrap ((BitVec.ofInt 32 a ||| BitVec.ofInt 32 b).toNat : Int)
def wn (a : Int) : Int := IntKind.u32.wrap ((BitVec.ofInt 32 4294967295 ^^^ BitVec.ofInt 32 a).toNat : Int)
def wp (a b : Int) : Int := IntKind.u32.wrap (a + b)
def wr (a : Int) (n : Nat) : Int := a / 2 ^ n
def wl (a : Int) (n : Nat) : Int := IntKind.u32.wrap (a * 2 ^ n)
/-- Rotated to the right. -/
def rr (x : Int) (n : Nat) : Int := wo (wr x n) (wl x (32 - n))

def bL (p : List UInt8) (i : Nat) : Int := ((p.getD i 0).toNat : Int)
/-- The word of four bytes. -/
def wordL (p : List UInt8) (t : Nat) : Int := wo (wo (wo (wl (bL p (4 * t)) 24) (wl (bL p (4 * t + 1)) 16)) (wl (bL p (4 * t + 2)) 8)) (bL p (4 * t + 3))
def newW (x y u v : Int) : Int := wp (wp (wp (wx (wx (rr y 17) (rr y 19)) (wr y 10)) u) (wx (wx (rr x 7) (rr x 18)) (wr x 3))) v

structure H8 where
  a : Int
  b : Int
  c : Int
  d : Int
  e : Int
  f : Int
  g : Int
  h : Int
  deriving DecidableEq
def H8.l (v : H8) : List Int := [v.a, v.b, v.c, v.d, v.e, v.f, v.g, v.h]
def H8.t (v : H8) : List T := [.int .u32 v.a, .int .u32 v.b, .int .u32 v.c, .int .u32 v.d, .int .u32 v.e, .int .u32 v.f, .int .u32 v.g, .int .u32 v.h]

def rnd (k w : Int) (v : H8) : H8 :=
  let t1 := wp (wp (wp (wp v.h (wx (wx (rr v.e 6) (rr v.e 11)) (rr v.e 25))) (wx (wa v.e v.f) (wa (wn v.e) v.g))) k) w
  let t2 := wp (wx (wx (rr v.a 2) (rr v.a 13)) (rr v.a 22)) (wx (wx (wa v.a v.b) (wa v.a v.c)) (wa v.b v.c))
  ⟨wp t1 t2, v.a, v.b, v.c, wp v.d t1, v.e, v.f, v.g⟩

def iter {α : Type} (f : Nat → α → α) : Nat → Nat → α → α
  | 0, _, a => a
  | c + 1, t, a => iter f c (t + 1) (f t a)

def kTab : List Int := [
  0x428a2f98, 0x71374491, 0xb5c0fbcf, 0xe9b5dba5, 0x3956c25b, 0x59f111f1, 0x923f82a4, 0xab1c5ed5,
  0xd807aa98, 0x12835b01, 0x243185be, 0x550c7dc3, 0x72be5d74, 0x80deb1fe, 0x9bdc06a7, 0xc19bf174,
  0xe49b69c1, 0xefbe4786, 0x0fc19dc6, 0x240ca1cc, 0x2de92c6f, 0x4a7484aa, 0x5cb0a9dc, 0x76f988da,
  0x983e5152, 0xa831c66d, 0xb00327c8, 0xbf597fc7, 0xc6e00bf3, 0xd5a79147, 0x06ca6351, 0x14292967,
  0x27b70a85, 0x2e1b2138, 0x4d2c6dfc, 0x53380d13, 0x650a7354, 0x766a0abb, 0x81c2c92e, 0x92722c85,
  0xa2bfe8a1, 0xa81a664b, 0xc24b8b70, 0xc76c51a3, 0xd192e819, 0xd6990624, 0xf40e3585, 0x106aa070,
  0x19a4c116, 0x1e376c08, 0x2748774c, 0x34b0bcb5, 0x391c0cb3, 0x4ed8aa4a, 0x5b9cca4f, 0x682e6ff3,
  0x748f82ee, 0x78a5636f, 0x84c87814, 0x8cc70208, 0x90befffa, 0xa4506ceb, 0xbef9a3f7, 0xc67178f2]
def hTab : H8 := ⟨0x6a09e667, 0xbb67ae85, 0x3c6ef372, 0xa54ff53a, 0x510e527f, 0x9b05688c, 0x1f83d9ab, 0x5be0cd19⟩

def w0L : List Int := List.replicate 64 0
def loadW (p : List UInt8) : List Int := iter (fun t w => w.set t (wordL p t)) 16 0 w0L
def schedStep (t : Nat) (w : List Int) : List Int := w.set t (newW (w.getD (t - 15) 0) (w.getD (t - 2) 0) (w.getD (t - 7) 0) (w.getD (t - 16) 0))
def sched (w : List Int) : List Int := iter schedStep 48 16 w
def rounds (w : List Int) (v : H8) : H8 := iter (fun t v => rnd (kTab.getD t 0) (w.getD t 0) v) 64 0 v
def plus8 (u v : H8) : H8 := ⟨wp u.a v.a, wp u.b v.b, wp u.c v.c, wp u.d v.d, wp u.e v.e, wp u.f v.f, wp u.g v.g, wp u.h v.h⟩
def addB (h : H8) (p : List UInt8) : H8 := plus8 h (rounds (sched (loadW p)) h)
def shaGo : Nat → H8 → List UInt8 → H8
  | 0, h, _ => h
  | n + 1, h, p => shaGo n (addB h p) (p.drop 64)
def w4 (x : Int) : List UInt8 := bigL 4 x.toNat
def H8.out (v : H8) : List UInt8 := w4 v.a ++ w4 v.b ++ w4 v.c ++ w4 v.d ++ w4 v.e ++ w4 v.f ++ w4 v.g ++ w4 v.h
/-- What is behind the whole blocks of a string, in a padded string. -/
def restL (left : List UInt8) (n : Nat) : List UInt8 := left ++ 128 :: (List.replicate ((119 - left.length % 64) % 64) 0 ++ bigL 8 (8 * n))
def padL (s : List UInt8) : List UInt8 := restL s s.length
def shaL (s : List UInt8) : List UInt8 := (shaGo ((padL s).length / 64) hTab (padL s)).out
def sha (s : ByteArray) : ByteArray := ofL (shaL s.data.toList)
end Go.AL
/- Facts of SHA-256 as plain functions: blocks one behind the other, lengths, ranges; no program in sight. -/
set_option linter.unusedVariables false
namespace Go.AL
open Go Go.RowKit

def H8.In (v : H8) : Prop := (0 ≤ v.a ∧ v.a < 4294967296) ∧ (0 ≤ v.b ∧ v.b < 4294967296) ∧ (0 ≤ v.c ∧ v.c < 4294967296) ∧ (0 ≤ v.d ∧ v.d < 4294967296) ∧ (0 ≤ v.e ∧ v.e < 4294967296) ∧ (0 ≤ v.f ∧ v.f < 4294967296) ∧ (0 ≤ v.g ∧ v.g < 4294967296) ∧ (0 ≤ v.h ∧ v.h < 4294967296)
end Go.AL
/- Hexadecimal digits. -/
set_option linter.unusedVariables false
namespace Go.AL
open Go

section
open Go.RowKit
end
def hexC (d : Nat) : UInt8 := if d < 10 then UInt8.ofNat (48 + d) else UInt8.ofNat (87 + d)
/-- The low digits of a number. -/
def lowHex : Nat → Nat → List UInt8
  | 0, _ => []
  | k + 1, n => hexC (n / 16 ^ k % 16) :: lowHex k n
abbrev hexS : ByteArray := ⟨#[48, 49, 50, 51, 52, 53, 54, 55, 56, 57, 97, 98, 99, 100, 101, 102, 103, 104, 105, 106, 107, 108, 109, 110, 111, 112, 113, 114, 115, 116, 117, 118, 119, 120, 121, 122]⟩
end Go.AL
namespace Go.AL
def lowN (c : Nat) : Nat := c ||| 32
/-- The value of a hexadecimal digit, as strconv reads it. -/
def hv (c : Nat) : Option Nat := if 48 ≤ c ∧ c ≤ 57 then some (c - 48) else if 97 ≤ lowN c ∧ lowN c ≤ 102 then some (lowN c - 87) else none
/-- What strconv.ParseUint reads in base 16 up to a greatest value: the number, or which error. -/
def pgo (mx : Nat) : List UInt8 → Nat → Except Int Nat
  | [], n => .ok n
  | c :: l, n => match hv c.toNat with
    | none => .error 2
    | some d => if mx < 16 * n + d then .error 1 else pgo mx l (16 * n + d)
end Go.AL
namespace Go.AL
theorem drop_getD {α : Type} [Inhabited α] : ∀ (L : List α) (j : Nat), j < L.length → L.drop j = L.getD j default :: L.drop (j + 1)
  | [], j, h => by simp at h
  | x :: L, 0, h => by simp
  | x :: L, j + 1, h => by simpa using drop_getD L j (by simpa using h)
end Go.AL
namespace Go.AL
end Go.AL
namespace Go.AL
end Go.AL
