/- A layer of abstract values over the machine, first part: what values, rows and memory are, and what pieces of code do to them; no conditions. -/
import Derived.Maps.AppendAt
import Derived.Below
import Derived.WalkKit
import Derived.OrdersIn
import Derived.RangeFuncRecord
import Derived.Orders
import Derived.KernelRfl
set_option linter.unusedVariables false
namespace Go.AL
open Go Go.RowKit
inductive T where
  | int (k : IntKind) (n : Int)
  | bool (b : Bool)
  | str (s : ByteArray)
  | agg (cs : List T)
  | sl (sz : Nat) (es : List T)
  | nilsl
  | nilp
  | nilf
  | esl
  | fn (f : FuncId)
  | nili
  | iface
  | ifi (t : TypeId) (k : IntKind) (n : Int)
  | slq (sz : Nat) (es : List T)
  deriving Inhabited
def T.cells : T → List T
  | .agg cs => cs
  | t => [t]
inductive Id where
  | loc (n : Nat)
  | par (n : Nat)
  | res (n : Nat)
  deriving DecidableEq, Inhabited
inductive AV where
  | t (x : T)
  | tp (e : T) (off : Nat)
  | ref (id : Id) (i sz off : Nat)
  | view (id : Id) (n c : Nat)
  | row (id : Id)
  | agg (cs : List AV)
  | tup (vs : List AV)
  | fn (f : FuncId) (caps : List AV)
  | junk
  deriving Inhabited
def AV.cells : AV → List AV
  | .agg cs => cs
  | .t (.agg cs) => cs.map .t
  | v => [v]
inductive DatK where
  | map (es : List (T × T))
  | fix (b : Nat) (o : Obj)
  | siter (s : ByteArray) (pos : Nat)
  | miter (last : Option (T × T)) (left : List (T × T))
structure LoopK where
  nt : Nat
  fn : FuncId
  params : Array Tmp
  assign : Code
  body : Code
  defers : Nat
def LoopK.obj (k : LoopK) (arr : Array Value) : Loop := { state := .ready, pending := none, fn := k.fn, tmps := arr, params := k.params, assign := k.assign, body := k.body, defers := k.defers }
inductive Row where
  | var (ty : TypeId) (cs : List AV)
  | slt (e : TypeId) (sz : Nat) (es : List T)
  | arr (ty : TypeId) (sz : Nat) (es : List T)
  | dat (k : DatK)
  | loop (k : LoopK) (cs : List (Nat × AV))
  deriving Inhabited
abbrev Heap := Nat → Option Obj
abbrev zQ := Id → Value
abbrev Env := Nat → AV
abbrev zG := Id → Option Row
def hcell (h : Heap) (b o : Nat) : Option Value :=
  match h b with
  | some (.cells c _ _) => c[o]?
  | _ => none
mutual
def RepT (h : Heap) : Value → T → Prop
  | v, .int k n => v = .int k n
  | v, .bool b => v = .bool b
  | v, .str s => v = .string s
  | v, .agg cs => ∃ vs : Array Value, v = .agg vs ∧ vs.size = cs.length ∧ RepL h (fun j => vs[j]?) 0 cs
  | v, .sl sz es => ∃ A n c, v = .slice A n c ∧ n = es.length ∧ n ≤ c ∧ (c ≤ maxLen ∧ (A = none → c = 0)) ∧ (n ≠ 0 → ∃ b o, A = some ⟨b, o, none⟩ ∧ RepEs h (hcell h b) o sz es)
  | v, .nilsl => v = .slice none 0 0
  | v, .nilp => v = .pointer none
  | v, .nilf => v = .nilFunc
  | v, .esl => ∃ a c, v = .slice (some a) 0 c ∧ c ≤ maxLen
  | v, .fn f => v = .func (.func f) #[] #[]
  | v, .nili => v = .nilIface
  | v, .iface => ∃ t u, v = .iface t u
  | v, .ifi t k n => v = .iface t (.int k n)
  | v, .slq sz es => ∃ A n, v = .slice A n n ∧ n = es.length ∧ (n ≤ maxLen ∧ (A = none → n = 0)) ∧ (n ≠ 0 → ∃ b o, A = some ⟨b, o, none⟩ ∧ RepEs h (hcell h b) o sz es)
def RepL (h : Heap) (g : Nat → Option Value) : Nat → List T → Prop
  | _, [] => True
  | o, t :: ts => (∃ u, g o = some u ∧ u.oneCell' = true ∧ RepT h u t) ∧ RepL h g (o + 1) ts
def RepEs (h : Heap) (g : Nat → Option Value) : Nat → Nat → List T → Prop
  | _, _, [] => True
  | o, sz, .agg cs :: es => (cs.length = sz ∧ RepL h g o cs) ∧ RepEs h g (o + sz) sz es
  | o, sz, e :: es => (sz = 1 ∧ ∃ u, g o = some u ∧ u.oneCell' = true ∧ RepT h u e) ∧ RepEs h g (o + sz) sz es
end
def T.isAgg : T → Bool
  | .agg _ => true
  | _ => false
theorem yU {h : Heap} {g : Nat → Option Value} {o sz : Nat} {e : T} {es : List T} :
    RepEs h g o sz (e :: es) ↔ (e.cells.length = sz ∧ RepL h g o e.cells) ∧ RepEs h g (o + sz) sz es := by
  have one : ∀ (e : T), ((sz = 1 ∧ ∃ u, g o = some u ∧ u.oneCell' = true ∧ RepT h u e) ↔ ([e].length = sz ∧ RepL h g o [e])) := fun e => by
    simp only [RepL, List.length_cons, List.length_nil, and_true]
    constructor
    · rintro ⟨h1, h2⟩; exact ⟨h1.symm, h2⟩
    · rintro ⟨h1, h2⟩; exact ⟨h1.symm, h2⟩
  cases e <;> simp only [RepEs, T.cells] <;> first | rfl | (rw [one])
theorem zgj {h : Heap} {g : Nat → Option Value} {as bs : List T} {o : Nat} :
    RepL h g o (as ++ bs) ↔ RepL h g o as ∧ RepL h g (o + as.length) bs := by
  induction as generalizing o with
  | nil => simp [RepL]
  | cons a as ih => simp [RepL, ih, and_assoc, Nat.add_assoc, Nat.add_comm 1]
theorem zfN {h : Heap} {g : Nat → Option Value} {as bs : List T} {o sz : Nat} :
    RepEs h g o sz (as ++ bs) ↔ RepEs h g o sz as ∧ RepEs h g (o + as.length * sz) sz bs := by
  induction as generalizing o with
  | nil => simp [RepEs]
  | cons a as ih =>
    rw [List.cons_append, yU, yU, ih, List.length_cons, Nat.add_mul, Nat.one_mul]
    rw [show o + sz + as.length * sz = o + (as.length * sz + sz) from by omega]
    simp [and_assoc]
def Heap.le (h h' : Heap) : Prop := ∀ b o, h b = some o → h' b = some o
theorem ko {h h' : Heap} (hh : h.le h') {b o : Nat} {u : Value} (hc : hcell h b o = some u) : hcell h' b o = some u := by
  unfold hcell at hc ⊢
  cases hb : h b with
  | none => simp [hb] at hc
  | some ob => rw [hh b ob hb]; rw [hb] at hc; exact hc
mutual
theorem RepT.mono {h h' : Heap} (hh : h.le h') : ∀ {v : Value} {t : T}, RepT h v t → RepT h' v t
  | v, .int k n, H => by simpa [RepT] using H
  | v, .bool b, H => by simpa [RepT] using H
  | v, .str s, H => by simpa [RepT] using H
  | v, .agg cs, H => by
    simp only [RepT] at H ⊢
    obtain ⟨vs, e, hs, hl⟩ := H
    exact ⟨vs, e, hs, RepL.mono hh (fun _ _ => id) hl⟩
  | v, .sl sz es, H => by
    simp only [RepT] at H ⊢
    obtain ⟨A, n, c, e, hn, hc, hm, hr⟩ := H
    refine ⟨A, n, c, e, hn, hc, hm, fun hne => ?_⟩
    obtain ⟨b, o, hA, hes⟩ := hr hne
    exact ⟨b, o, hA, RepEs.mono hh (fun j u hu => ko hh hu) hes⟩
  | v, .nilsl, H => by simpa [RepT] using H
  | v, .nilp, H => by simpa [RepT] using H
  | v, .nilf, H => by simpa [RepT] using H
  | v, .esl, H => by simpa [RepT] using H
  | v, .fn f, H => by simpa [RepT] using H
  | v, .nili, H => by simpa [RepT] using H
  | v, .iface, H => by simpa [RepT] using H
  | v, .ifi t k n, H => by simpa [RepT] using H
  | v, .slq sz es, H => by
    simp only [RepT] at H ⊢
    obtain ⟨A, n, e, hn, hm, hr⟩ := H
    refine ⟨A, n, e, hn, hm, fun hne => ?_⟩
    obtain ⟨b, o, hA, hes⟩ := hr hne
    exact ⟨b, o, hA, RepEs.mono hh (fun j u hu => ko hh hu) hes⟩
theorem RepL.mono {h h' : Heap} (hh : h.le h') {g g' : Nat → Option Value} (hg : ∀ j u, g j = some u → g' j = some u) : ∀ {o : Nat} {ts : List T}, RepL h g o ts → RepL h' g' o ts
  | _, [], _ => by simp [RepL]
  | o, t :: ts, H => by
    simp only [RepL] at H ⊢
    obtain ⟨⟨u, h1, h2, h3⟩, h4⟩ := H
    exact ⟨⟨u, hg _ _ h1, h2, RepT.mono hh h3⟩, RepL.mono hh hg h4⟩
theorem RepEs.mono {h h' : Heap} (hh : h.le h') {g g' : Nat → Option Value} (hg : ∀ j u, g j = some u → g' j = some u) : ∀ {o sz : Nat} {ts : List T}, RepEs h g o sz ts → RepEs h' g' o sz ts
  | _, _, [], _ => by simp [RepEs]
  | o, sz, .agg cs :: es, H => by
    simp only [RepEs] at H ⊢
    exact ⟨⟨H.1.1, RepL.mono hh hg H.1.2⟩, RepEs.mono hh hg H.2⟩
  | o, sz, .int k n :: es, H => by
    simp only [RepEs] at H ⊢
    obtain ⟨⟨hs, u, h1, h2, h3⟩, h4⟩ := H
    exact ⟨⟨hs, u, hg _ _ h1, h2, RepT.mono hh h3⟩, RepEs.mono hh hg h4⟩
  | o, sz, .bool b :: es, H => by
    simp only [RepEs] at H ⊢
    obtain ⟨⟨hs, u, h1, h2, h3⟩, h4⟩ := H
    exact ⟨⟨hs, u, hg _ _ h1, h2, RepT.mono hh h3⟩, RepEs.mono hh hg h4⟩
  | o, sz, .str s :: es, H => by
    simp only [RepEs] at H ⊢
    obtain ⟨⟨hs, u, h1, h2, h3⟩, h4⟩ := H
    exact ⟨⟨hs, u, hg _ _ h1, h2, RepT.mono hh h3⟩, RepEs.mono hh hg h4⟩
  | o, sz, .sl s2 es2 :: es, H => by
    simp only [RepEs] at H ⊢
    obtain ⟨⟨hs, u, h1, h2, h3⟩, h4⟩ := H
    exact ⟨⟨hs, u, hg _ _ h1, h2, RepT.mono hh h3⟩, RepEs.mono hh hg h4⟩
  | o, sz, .nilsl :: es, H => by
    simp only [RepEs] at H ⊢
    obtain ⟨⟨hs, u, h1, h2, h3⟩, h4⟩ := H
    exact ⟨⟨hs, u, hg _ _ h1, h2, RepT.mono hh h3⟩, RepEs.mono hh hg h4⟩
  | o, sz, .nilp :: es, H => by
    simp only [RepEs] at H ⊢
    obtain ⟨⟨hs, u, h1, h2, h3⟩, h4⟩ := H
    exact ⟨⟨hs, u, hg _ _ h1, h2, RepT.mono hh h3⟩, RepEs.mono hh hg h4⟩
  | o, sz, .nilf :: es, H => by
    simp only [RepEs] at H ⊢
    obtain ⟨⟨hs, u, h1, h2, h3⟩, h4⟩ := H
    exact ⟨⟨hs, u, hg _ _ h1, h2, RepT.mono hh h3⟩, RepEs.mono hh hg h4⟩
  | o, sz, .esl :: es, H => by
    simp only [RepEs] at H ⊢
    obtain ⟨⟨hs, u, h1, h2, h3⟩, h4⟩ := H
    exact ⟨⟨hs, u, hg _ _ h1, h2, RepT.mono hh h3⟩, RepEs.mono hh hg h4⟩
  | o, sz, .fn f :: es, H => by
    simp only [RepEs] at H ⊢
    obtain ⟨⟨hs, u, h1, h2, h3⟩, h4⟩ := H
    exact ⟨⟨hs, u, hg _ _ h1, h2, RepT.mono hh h3⟩, RepEs.mono hh hg h4⟩
  | o, sz, .nili :: es, H => by
    simp only [RepEs] at H ⊢
    obtain ⟨⟨hs, u, h1, h2, h3⟩, h4⟩ := H
    exact ⟨⟨hs, u, hg _ _ h1, h2, RepT.mono hh h3⟩, RepEs.mono hh hg h4⟩
  | o, sz, .iface :: es, H => by
    simp only [RepEs] at H ⊢
    obtain ⟨⟨hs, u, h1, h2, h3⟩, h4⟩ := H
    exact ⟨⟨hs, u, hg _ _ h1, h2, RepT.mono hh h3⟩, RepEs.mono hh hg h4⟩
  | o, sz, .ifi t k n :: es, H => by
    simp only [RepEs] at H ⊢
    obtain ⟨⟨hs, u, h1, h2, h3⟩, h4⟩ := H
    exact ⟨⟨hs, u, hg _ _ h1, h2, RepT.mono hh h3⟩, RepEs.mono hh hg h4⟩
  | o, sz, .slq s2 e2 :: es, H => by
    simp only [RepEs] at H ⊢
    obtain ⟨⟨hs, u, h1, h2, h3⟩, h4⟩ := H
    exact ⟨⟨hs, u, hg _ _ h1, h2, RepT.mono hh h3⟩, RepEs.mono hh hg h4⟩
end
def blk : Value → Option Nat
  | .pointer (some a) => some a.block
  | .slice (some a) _ _ => some a.block
  | .map (some r) => some r
  | .func (.yield l) _ _ => some l
  | _ => none
mutual
def RepA (h : Heap) (m : zQ) : Value → AV → Prop
  | v, .t x => RepT h v x
  | v, .tp e off => ∃ b o, v = .pointer (some ⟨b, o + off, none⟩) ∧ RepL h (hcell h b) o e.cells
  | v, .ref id i sz off => ∃ b, blk (m id) = some b ∧ v = .pointer (some ⟨b, i * sz + off, none⟩)
  | v, .view id n c => ∃ b, blk (m id) = some b ∧ v = .slice (some ⟨b, 0, none⟩) n c
  | v, .row id => v = m id ∧ v.oneCell' = true
  | v, .agg cs => ∃ vs : Array Value, v = .agg vs ∧ vs.size = cs.length ∧ RepAL h m (fun j => vs[j]?) 0 cs
  | v, .tup ts => ∃ vs : Array Value, v = .tuple vs ∧ vs.size = ts.length ∧ RepAs h m (fun j => vs[j]?) 0 ts
  | v, .fn f caps => ∃ vs : Array Value, v = .func (.func f) #[] vs ∧ vs.size = caps.length ∧ RepAs h m (fun j => vs[j]?) 0 caps
  | _, .junk => True
def RepAL (h : Heap) (m : zQ) (g : Nat → Option Value) : Nat → List AV → Prop
  | _, [] => True
  | o, t :: ts => (∃ u, g o = some u ∧ u.oneCell' = true ∧ RepA h m u t) ∧ RepAL h m g (o + 1) ts
def RepAs (h : Heap) (m : zQ) (g : Nat → Option Value) : Nat → List AV → Prop
  | _, [] => True
  | o, t :: ts => (∃ u, g o = some u ∧ RepA h m u t) ∧ RepAs h m g (o + 1) ts
end
mutual
def AV.clean (N : List Id) : AV → Bool
  | .ref id _ _ _ => !N.contains id
  | .view id _ _ => !N.contains id
  | .row id => !N.contains id
  | .agg cs => AV.cleanL N cs
  | .tup cs => AV.cleanL N cs
  | .fn _ cs => AV.cleanL N cs
  | _ => true
def AV.cleanL (N : List Id) : List AV → Bool
  | [] => true
  | c :: cs => c.clean N && AV.cleanL N cs
end
mutual
theorem RepA.mono {h h' : Heap} {m m' : zQ} {N : List Id} (hh : h.le h') (hm : ∀ id, id ∉ N → m' id = m id) : ∀ {v : Value} {x : AV}, x.clean N = true → RepA h m v x → RepA h' m' v x
  | v, .t x, _, H => by simp only [RepA] at H ⊢; exact H.mono hh
  | v, .tp e off, _, H => by
    simp only [RepA] at H ⊢
    obtain ⟨b, o, e, hl⟩ := H
    exact ⟨b, o, e, hl.mono hh fun j u => ko hh⟩
  | v, .ref id i sz off, hc, H => by
    simp only [RepA] at H ⊢
    rw [hm id (by simpa [AV.clean] using hc)]; exact H
  | v, .view id n c, hc, H => by
    simp only [RepA] at H ⊢
    rw [hm id (by simpa [AV.clean] using hc)]; exact H
  | v, .row id, hc, H => by
    simp only [RepA] at H ⊢
    rw [hm id (by simpa [AV.clean] using hc)]; exact H
  | v, .agg cs, hc, H => by
    simp only [RepA] at H ⊢
    obtain ⟨vs, e, hs, hl⟩ := H
    exact ⟨vs, e, hs, RepAL.mono hh hm (fun _ _ => id) (by simpa [AV.clean] using hc) hl⟩
  | v, .tup cs, hc, H => by
    simp only [RepA] at H ⊢
    obtain ⟨vs, e, hs, hl⟩ := H
    exact ⟨vs, e, hs, RepAs.mono hh hm (fun _ _ => id) (by simpa [AV.clean] using hc) hl⟩
  | v, .fn f cs, hc, H => by
    simp only [RepA] at H ⊢
    obtain ⟨vs, e, hs, hl⟩ := H
    exact ⟨vs, e, hs, RepAs.mono hh hm (fun _ _ => id) (by simpa [AV.clean] using hc) hl⟩
  | v, .junk, _, _ => by simp [RepA]
theorem RepAL.mono {h h' : Heap} {m m' : zQ} {N : List Id} (hh : h.le h') (hm : ∀ id, id ∉ N → m' id = m id) {g g' : Nat → Option Value} (hg : ∀ j u, g j = some u → g' j = some u) :
    ∀ {o : Nat} {xs : List AV}, AV.cleanL N xs = true → RepAL h m g o xs → RepAL h' m' g' o xs
  | _, [], _, _ => by simp [RepAL]
  | o, x :: xs, hc, H => by
    simp only [RepAL] at H ⊢
    simp only [AV.cleanL, Bool.and_eq_true] at hc
    obtain ⟨⟨u, h1, h2, h3⟩, h4⟩ := H
    exact ⟨⟨u, hg _ _ h1, h2, RepA.mono hh hm hc.1 h3⟩, RepAL.mono hh hm hg hc.2 h4⟩
theorem RepAs.mono {h h' : Heap} {m m' : zQ} {N : List Id} (hh : h.le h') (hm : ∀ id, id ∉ N → m' id = m id) {g g' : Nat → Option Value} (hg : ∀ j u, g j = some u → g' j = some u) :
    ∀ {o : Nat} {xs : List AV}, AV.cleanL N xs = true → RepAs h m g o xs → RepAs h' m' g' o xs
  | _, [], _, _ => by simp [RepAs]
  | o, x :: xs, hc, H => by
    simp only [RepAs] at H ⊢
    simp only [AV.cleanL, Bool.and_eq_true] at hc
    obtain ⟨⟨u, h1, h3⟩, h4⟩ := H
    exact ⟨⟨u, hg _ _ h1, RepA.mono hh hm hc.1 h3⟩, RepAs.mono hh hm hg hc.2 h4⟩
end
def Row.clean (N : List Id) : Row → Bool
  | .var _ cs => AV.cleanL N cs
  | .slt .. => true
  | .arr .. => true
  | .dat _ => true
  | .loop _ cs => cs.all fun x => x.2.clean N
def jA (w : World) (e : TypeId) (size : Nat) (v : Value) (n : Nat) (xs : List Value) : Prop :=
  xs.length = n * size ∧
  ((v = .slice none 0 0 ∧ n = 0) ∨
   ∃ g cap cur lo hi, v = .slice (some ⟨g, 0, none⟩) n cap ∧ w.heap[g]? = some (.cells cur e (lo, hi)) ∧ (hi ≤ lo ∨ cur.size ≤ lo) ∧ n ≤ cap ∧ cap ≤ maxLen ∧ cur.size = cap * size ∧ cur.toList.take (n * size) = xs)
def RepEnts (h : Heap) : List MapEntry → List (T × T) → Prop
  | [], [] => True
  | x :: xs, (k, v) :: es => RepT h x.key k ∧ RepT h x.val v ∧ RepEnts h xs es
  | _, _ => False
theorem RepEnts.mono {h h' : Heap} (hh : h.le h') : ∀ {xs : List MapEntry} {es : List (T × T)}, RepEnts h xs es → RepEnts h' xs es
  | [], [], _ => trivial
  | x :: xs, (k, v) :: es, H => ⟨H.1.mono hh, H.2.1.mono hh, RepEnts.mono hh H.2.2⟩
  | [], _ :: _, H => H.elim
  | _ :: _, [], H => H.elim
def zaN (ents : List MapEntry) (clock : Nat) : Prop := (∀ x ∈ ents, x.born < clock) ∧ (ents.map (·.born)).Nodup
def DatK.sat (h : Heap) (v : Value) (o : Obj) : DatK → Prop
  | .map es => ∃ r ents clock, v = .map (some r) ∧ o = .map ents clock ∧ RepEnts h ents.toList es ∧ zaN ents.toList clock
  | .fix b o0 => v = .pointer (some ⟨b, 0, none⟩) ∧ o = o0
  | .siter s pos => ∃ b, v = .pointer (some ⟨b, 0, none⟩) ∧ o = .stringIter s pos
  | .miter last left => ∃ b bm since seen stepped ents clock, v = .pointer (some ⟨b, 0, none⟩) ∧ o = .mapIter (some bm) since seen stepped ∧ h bm = some (.map ents clock) ∧ since = clock ∧ stepped = clock ∧ zaN ents.toList clock ∧
      RepEnts h (ents.toList.filter fun e => !seen.contains e.born) left ∧ ∀ k v, last = some (k, v) → ∃ e ∈ ents.toList, seen.back? = some e.born ∧ RepT h e.key k ∧ RepT h e.val v
theorem DatK.sat_mono {h h' : Heap} (hh : h.le h') {v : Value} {o : Obj} : ∀ {k : DatK}, k.sat h v o → k.sat h' v o
  | .map es, ⟨r, ents, clock, e1, e2, H, S⟩ => ⟨r, ents, clock, e1, e2, H.mono hh, S⟩
  | .fix b o0, H => H
  | .siter s pos, H => H
  | .miter last left, ⟨b, bm, since, seen, stepped, ents, clock, e1, e2, e3, e4, e5, S, H, L⟩ => ⟨b, bm, since, seen, stepped, ents, clock, e1, e2, hh _ _ e3, e4, e5, S, H.mono hh, fun k v hl =>
      let ⟨e, he, g1, g2, g3⟩ := L k v hl
      ⟨e, he, g1, g2.mono hh, g3.mono hh⟩⟩
def SimRow (h : Heap) (m : zQ) (w : World) (id : Id) : Row → Prop
  | .var ty cs => ∃ (b : Nat) (arr : Array Value), m id = .pointer (some ⟨b, 0, none⟩) ∧ w.heap[b]? = some (.cells arr ty (0, 0)) ∧ arr.size = cs.length ∧ RepAL h m (fun j => arr[j]?) 0 cs
  | .slt e sz es => ∃ xs : List Value, jA w e sz (m id) es.length xs ∧ RepEs h (fun j => xs[j]?) 0 sz es
  | .arr ty sz es => ∃ (b : Nat) (arr : Array Value), m id = .pointer (some ⟨b, 0, none⟩) ∧ w.heap[b]? = some (.cells arr ty (0, 0)) ∧ arr.size = es.length * sz ∧ RepEs h (fun j => arr[j]?) 0 sz es
  | .dat k => ∃ b o, blk (m id) = some b ∧ w.heap[b]? = some o ∧ k.sat h (m id) o
  | .loop k cs => ∃ (l : Nat) (arr : Array Value), m id = .func (.yield l) #[] #[] ∧ w.heap[l]? = some (.loop (k.obj arr)) ∧ arr.size = k.nt ∧ ∀ x ∈ cs, RepA h m (arr.getD x.1 undef) x.2
structure Sim (h : Heap) (m : zQ) (st : zG) (w : World) : Prop where
  imm : ∀ b o, h b = some o → w.heap[b]? = some o
  rows : ∀ id row, st id = some row → SimRow h m w id row
  sep : ∀ id row b, st id = some row → blk (m id) = some b → h b = none ∧ b < w.heap.size
  inj : ∀ id id' r r' b, st id = some r → st id' = some r' → blk (m id) = some b → blk (m id') = some b → id = id'
structure Foot (h : Heap) (m : zQ) (R : zG) (w : World) (h' : Heap) (m' : zQ) (R' : zG) (w' : World) : Prop where
  os : w'.os = w.os
  tape : w'.tape = w.tape
  output : w'.output = w.output
  size : w.heap.size ≤ w'.heap.size
  keep : ∀ b, b < w.heap.size → (∀ id row, R id = some row → blk (m id) ≠ some b) → w'.heap[b]? = w.heap[b]? ∧ h' b = h b
  grow : h.le h'
  fresh : ∀ id row b, R' id = some row → blk (m' id) = some b → w.heap.size ≤ b ∨ ∃ id0 row0, R id0 = some row0 ∧ blk (m id0) = some b
theorem Foot.refl (h : Heap) (m : zQ) (R : zG) (w : World) : Foot h m R w h m R w :=
  ⟨rfl, rfl, rfl, Nat.le_refl _, fun _ _ _ => ⟨rfl, rfl⟩, fun _ _ => id, fun id row b h1 h2 => .inr ⟨id, row, h1, h2⟩⟩
theorem Foot.trans {h h1 h2 : Heap} {m m1 m2 : zQ} {R R1 R2 : zG} {w w1 w2 : World} (a : Foot h m R w h1 m1 R1 w1) (b : Foot h1 m1 R1 w1 h2 m2 R2 w2) : Foot h m R w h2 m2 R2 w2 where
  os := b.os.trans a.os
  tape := b.tape.trans a.tape
  output := b.output.trans a.output
  size := Nat.le_trans a.size b.size
  keep := fun k hk hn => by
    obtain ⟨e1, e2⟩ := a.keep k hk hn
    have : ∀ id row, R1 id = some row → blk (m1 id) ≠ some k := fun id row hr he => by
      rcases a.fresh id row k hr he with h | ⟨i, r, hi, hb⟩
      · omega
      · exact hn i r hi hb
    obtain ⟨e3, e4⟩ := b.keep k (Nat.lt_of_lt_of_le hk a.size) this
    exact ⟨e3.trans e1, e4.trans e2⟩
  grow := fun k o hk => b.grow k o (a.grow k o hk)
  fresh := fun id row k hr hb => by
    rcases b.fresh id row k hr hb with h | ⟨i, r, hi, hb'⟩
    · exact .inl (Nat.le_trans a.size h)
    · exact a.fresh i r k hi hb'
structure Marks (h : Heap) (m : zQ) (st : zG) (w : World) (ds : List Deferred) : Prop where
  nodup : ds.Nodup
  all : ∀ d ∈ ds, ∃ B, d = { target := .collected B, args := #[] } ∧ w.heap[B]? = some (.deferred (some [])) ∧ h B = none ∧ ∀ id row, st id = some row → blk (m id) ≠ some B
theorem Marks.nil (h : Heap) (m : zQ) (st : zG) (w : World) : Marks h m st w [] := ⟨List.nodup_nil, fun _ hd => by cases hd⟩
theorem Marks.foot {h h' : Heap} {m m' : zQ} {st st' : zG} {w w' : World} {ds : List Deferred} (M : Marks h m st w ds) (f : Foot h m st w h' m' st' w') : Marks h' m' st' w' ds := by
  refine ⟨M.nodup, fun d hd => ?_⟩
  obtain ⟨B, e, h1, h2, h3⟩ := M.all d hd
  have hlt : B < w.heap.size := (Array.getElem?_eq_some_iff.1 h1).1
  obtain ⟨k1, k2⟩ := f.keep B hlt h3
  refine ⟨B, e, k1.trans h1, k2.trans h2, fun id row hr hb => ?_⟩
  rcases f.fresh id row B hr hb with h | ⟨i, r, hi, hb'⟩
  · omega
  · exact h3 i r hi hb'
structure Conc (nt : Nat) (h : Heap) (m : zQ) (env : Env) (st : zG) (a : Act) (w : World) : Prop where
  sim : Sim h m st w
  size : a.tmps.size = nt
  defers : Marks h m st w a.defers
  env : ∀ t, RepA h m (a.tmps.getD t undef) (env t)
def ke : Value → AV
  | .int k n => .t (.int k n)
  | .bool b => .t (.bool b)
  | .string s => .t (.str s)
  | .slice none 0 0 => .t .nilsl
  | .pointer none => .t .nilp
  | .nilFunc => .t .nilf
  | .nilIface => .t .nili
  | .iface t (.int k n) => .t (.ifi t k n)
  | _ => .junk
theorem zde (h : Heap) (m : zQ) (v : Value) : RepA h m v (ke v) := by
  unfold ke
  split <;> simp [RepA, RepT]
def zE (env : Env) : Operand → AV
  | .tmp t => env t
  | .const v => ke v
  | .func f => .t (.fn f)
  | .global _ => .junk
theorem Conc.eval {nt : Nat} {h : Heap} {m : zQ} {env : Env} {st : zG} {a : Act} {w : World} (c : Conc nt h m env st a w) (x : Operand) : RepA h m (a.eval x) (zE env x) := by
  cases x with
  | tmp t => exact c.env t
  | const v => exact zde h m v
  | func f => simp [Act.eval, zE, RepA, RepT]
  | global g => simp [zE, RepA]
def ROF (ro : Option Nat) : Fence := { Fence.wide with round := ro }
theorem zcf {ro : Option Nat} {n : Nat} {P : Program} {f : FuncId} {args : Array Value} {w : World} {R : Ending → World → Prop} (H : Calls P f args w R) : CallsIn (ROF ro) n P f args w R := by
  have := (callsIn_wide (n := n)).2 H
  cases ro with
  | none => exact this
  | some l => exact this
theorem zky {ro : Option Nat} {n : Nat} {P : Program} {f : FuncId} {args : Array Value} {w : World} {R : Ending → World → Prop} (H : CallsIn (ROF ro) n P f args w R) : Calls P f args w R := by
  cases ro with
  | none => exact (callsIn_wide (n := n)).1 H
  | some l => exact (callsIn_wide (n := n)).1 H
def wpR (P : Program) (o : Oper) (a : Act) (w : World) (K : Act → World → Prop) (Q : Exit → Act → World → Prop) : Prop := ∀ ro, o.wpIn (ROF ro) 0 P a w K Q
theorem zbA {P : Program} {o : Oper} {a : Act} {w : World} {K : Act → World → Prop} {Q : Exit → Act → World → Prop} (hd : ∀ c, o.op ≠ .defer c) (H : o.wp P a w K Q) : wpR P o a w K Q := by
  intro ro
  refine ⟨fun _ _ => trivial, ?_⟩
  rw [Oper.semAt_eq _ _ _ hd]
  unfold Oper.wp at H
  generalize (execOp a.eval o).run P w = r at H
  cases r with
  | ok x w' =>
    cases x with
    | value v => exact H
    | skip => exact H
    | defer d => exact H
    | enter f args => exact ⟨fun h => by simp [ROF, Fence.wide] at h, zcf H⟩
    | row row args =>
      refine ⟨fun h => by simp [ROF, Fence.wide] at h, fun c cs _ => ?_⟩
      obtain ⟨v, w'', h1, h2⟩ := H c cs
      exact ⟨v, w'', h1, (StepsIn.of_steps h2).mono fun m _ => fenced_wide P m⟩
    | round l f tmps assign body => exact H.elim
    | _ => exact H.elim
  | halt x w' =>
    cases x with
    | panic v => exact H
    | _ => exact H.elim
def OpW (P : Program) (o : Oper) (ρ : Operand → AV) (R : zG) (r : AV) (R' : zG) (N : List Id) : Prop :=
  ∀ h m a w, Sim h m R w → (∀ x ∈ o.op.operands, RepA h m (a.eval x) (ρ x)) →
    ∀ (K : Act → World → Prop) (Q : Exit → Act → World → Prop),
      (∀ v h' m' w', RepA h' m' v r → Sim h' m' R' w' → Foot h m R w h' m' R' w' → (∀ id, id ∉ N → m' id = m id) → K (a.put o.dst v) w') → o.wp P a w K Q
def OpT (P : Program) (o : Oper) (ρ : Operand → AV) (R : zG) (r : AV) (R' : zG) (N : List Id) : Prop :=
  ∀ h m a w, Sim h m R w → (∀ x ∈ o.op.operands, RepA h m (a.eval x) (ρ x)) →
    ∀ (K : Act → World → Prop) (Q : Exit → Act → World → Prop),
      (∀ v h' m' w', RepA h' m' v r → Sim h' m' R' w' → Foot h m R w h' m' R' w' → (∀ id, id ∉ N → m' id = m id) → K (a.put o.dst v) w') → wpR P o a w K Q
theorem OpT.of {P : Program} {o : Oper} {ρ : Operand → AV} {R : zG} {r : AV} {R' : zG} {N : List Id} (H : OpW P o ρ R r R' N) : OpT P o ρ R r R' N := by
  intro h m a w hs hr K Q hK
  refine zbA (fun c hc => ?_) (H h m a w hs hr K Q hK)
  have := H h m a w hs hr (fun a' _ => a'.defers = a.defers) (fun _ _ _ => False) (fun v h' m' w' _ _ _ _ => by cases o.dst <;> rfl)
  unfold Oper.wp at this
  simp only [execOp, hc, Sem.run_bind] at this
  cases e : (resolve a.eval c o.type).run P w with
  | ok d w' =>
    rw [e] at this
    simp only [Result.andThen_ok, Sem.run_pure, Oper.upon_defer] at this
    have h2 : (({ tmps := a.tmps, defers := d :: a.defers } : Act).put o.dst undef).defers = d :: a.defers := by cases o.dst <;> rfl
    rw [h2] at this
    have := congrArg List.length this
    simp at this
  | halt x w' =>
    rw [e] at this
    cases x <;> simp [Result.andThen, Oper.upon] at this
end Go.AL
set_option linter.unusedSimpArgs false
namespace Go.AL
open Go Go.RowKit
abbrev StL := List (Id × Row)
abbrev EnvL := List (Nat × AV)
def StL.get : StL → zG
  | [], _ => none
  | (i, r) :: l, id => if i = id then some r else StL.get l id
def StL.ids (l : StL) : List Id := l.map (·.1)
def EnvL.get : EnvL → Env
  | [], _ => .junk
  | (i, r) :: l, t => if i = t then r else EnvL.get l t
theorem StL.get_none {l : StL} {id : Id} : StL.get l id = none ↔ id ∉ l.ids := by
  induction l with
  | nil => simp [StL.get, StL.ids]
  | cons x l ih =>
    obtain ⟨i, r⟩ := x
    simp only [StL.get, StL.ids, List.map_cons, List.mem_cons, not_or]
    by_cases h : i = id
    · simp [h]
    · simp only [h, if_false]
      rw [ih]
      exact ⟨fun h1 => ⟨fun e => h e.symm, h1⟩, fun h1 => h1.2⟩
theorem StL.mem_ids {l : StL} {id : Id} {row : Row} (h : StL.get l id = some row) : id ∈ l.ids := by
  refine Classical.byContradiction fun hn => ?_
  rw [StL.get_none.2 hn] at h
  cases h
def xO (st : zG) (R R' : StL) (N : List Id) : zG := fun id =>
  match StL.get R' id with
  | some r => some r
  | none => if id ∈ N ∨ id ∈ R.ids then none else st id
def qP (env : Env) (dst : Option Tmp) (r : AV) : Env := fun t => if dst = some t then r else env t
structure SD where
  exec : Bool
  R : StL
  r : AV
  R' : StL
  W : List Id
  N : List Id
  deriving Inhabited
def qG (N : List Id) (env : Env) (st : zG) : Prop :=
  (∀ t, (env t).clean N = true) ∧ ∀ id row, st id = some row → id ∉ N ∧ row.clean N = true
def Id.isLoc : Id → Bool
  | .par _ => false
  | _ => true
def x5 (ops : Array Oper) (j : Nat) : Option Tmp := (ops[j]?).bind (·.dst)
def q8 (ops : Array Oper) (o : Oper) (env : Env) : Prop :=
  match o.guard with
  | none => True
  | some (j, want) => ∃ t, x5 ops j = some t ∧ env t = .t (.bool want)
def zeF (ops : Array Oper) (o : Oper) (env : Env) : Prop :=
  ∃ j want t, o.guard = some (j, want) ∧ x5 ops j = some t ∧ (env t = .t (.bool (!want)) ∨ env t = .tup [])
structure DomOK (d : SD) : Prop where
  dom : ∀ id, id ∈ d.R'.ids → id ∈ d.R.ids ∨ id ∈ d.N
  same : ∀ id, id ∈ d.R.ids → id ∉ d.W → StL.get d.R' id = StL.get d.R id
  loc : ∀ id, id ∈ d.N → id.isLoc = true
structure StepOK (P : Program) (nt : Nat) (ops : Array Oper) (o : Oper) (d : SD) (env : Env) (st : zG) : Prop where
  dst : ∀ t, o.dst = some t → t < nt
  run : d.exec = true → q8 ops o env ∧ OpT P o (zE env) (StL.get d.R) d.r (StL.get d.R') d.N
  skip : d.exec = false → zeF ops o env ∧ d.R = [] ∧ d.R' = [] ∧ d.N = [] ∧ d.r = .tup []
  sub : ∀ id row, StL.get d.R id = some row → st id = some row
  dok : DomOK d
  fresh : qG d.N env st
theorem OpT.congr {P : Program} {o : Oper} {ρ ρ' : Operand → AV} {R R' : zG} {r : AV} {N : List Id} (h : OpT P o ρ R r R' N) (e : ∀ x ∈ o.op.operands, ρ x = ρ' x) : OpT P o ρ' R r R' N :=
  fun hp m a w hs hr K Q hk => h hp m a w hs (fun x hx => by rw [e x hx]; exact hr x hx) K Q hk
theorem zb9 {w w' : World} {e : TypeId} {sz n : Nat} {v : Value} {xs : List Value} (h : jA w e sz v n xs) (hk : ∀ b, blk v = some b → w'.heap[b]? = w.heap[b]?) : jA w' e sz v n xs := by
  refine ⟨h.1, ?_⟩
  rcases h.2 with hn | ⟨g, cap, cur, lo, hi, rfl, hgg, rest⟩
  · exact .inl hn
  · exact .inr ⟨g, cap, cur, lo, hi, rfl, by rw [hk g rfl]; exact hgg, rest⟩
theorem SimRow.mono {h h' : Heap} {m m' : zQ} {w w' : World} {id : Id} {row : Row} {N : List Id} (hh : h.le h') (hm : ∀ id, id ∉ N → m' id = m id) (hid : id ∉ N) (hc : row.clean N = true)
    (hk : ∀ b, blk (m id) = some b → w'.heap[b]? = w.heap[b]?) (H : SimRow h m w id row) : SimRow h' m' w' id row := by
  cases row with
  | var ty cs =>
    obtain ⟨b, arr, e1, e2, e3, e4⟩ := H
    exact ⟨b, arr, by rw [hm id hid]; exact e1, by rw [hk b (by rw [e1]; rfl)]; exact e2, e3, RepAL.mono hh hm (fun _ _ hu => hu) (by simpa [Row.clean] using hc) e4⟩
  | slt e sz es =>
    obtain ⟨xs, h1, h2⟩ := H
    exact ⟨xs, by rw [hm id hid]; exact zb9 h1 hk, RepEs.mono hh (fun _ _ hu => hu) h2⟩
  | arr ty sz es =>
    obtain ⟨b, arr, e1, e2, e3, e4⟩ := H
    exact ⟨b, arr, by rw [hm id hid]; exact e1, by rw [hk b (by rw [e1]; rfl)]; exact e2, e3, RepEs.mono hh (fun _ _ hu => hu) e4⟩
  | dat k =>
    obtain ⟨b, o, e1, e2, e3⟩ := H
    exact ⟨b, o, by rw [hm id hid]; exact e1, by rw [hk b e1]; exact e2, by rw [hm id hid]; exact DatK.sat_mono hh e3⟩
  | loop k cs =>
    obtain ⟨l, arr, e1, e2, e3, e4⟩ := H
    exact ⟨l, arr, by rw [hm id hid]; exact e1, by rw [hk l (by rw [e1]; rfl)]; exact e2, e3, fun x hx => RepA.mono hh hm (by simp only [Row.clean, List.all_eq_true] at hc; exact hc x hx) (e4 x hx)⟩
theorem zcj {h h' : Heap} {m m' : zQ} {st : zG} {w w' : World} {env : Env} {d : SD} (hs : Sim h m st w) (hfr : qG d.N env st) (hdok : DomOK d)
    (hsub : ∀ id row, StL.get d.R id = some row → st id = some row)
    (hs' : Sim h' m' (StL.get d.R') w') (hf : Foot h m (StL.get d.R) w h' m' (StL.get d.R') w') (hm : ∀ id, id ∉ d.N → m' id = m id) :
    Sim h' m' (xO st d.R d.R' d.N) w' ∧ Foot h m st w h' m' (xO st d.R d.R' d.N) w' := by
  have frame : ∀ id row, StL.get d.R' id = none → xO st d.R d.R' d.N id = some row → st id = some row ∧ id ∉ d.N ∧ id ∉ d.R.ids := fun id row hn ha => by
    simp only [xO, hn] at ha
    split at ha
    · cases ha
    · rename_i hx
      exact ⟨ha, fun h => hx (.inl h), fun h => hx (.inr h)⟩
  have inR : ∀ id, id ∈ d.R.ids → ∃ row, StL.get d.R id = some row := fun id hi => by
    cases e : StL.get d.R id with
    | none => exact absurd hi (StL.get_none.1 e)
    | some row => exact ⟨row, rfl⟩
  have blkne : ∀ id row b, st id = some row → id ∉ d.R.ids → blk (m id) = some b → ∀ id0 row0, StL.get d.R id0 = some row0 → blk (m id0) ≠ some b := fun id row b h1 h2 h3 id0 row0 h4 h5 => by
    have := hs.inj id id0 row row0 b h1 (hsub id0 row0 h4) h3 h5
    subst this
    exact h2 (StL.mem_ids h4)
  have framek : ∀ id row b, st id = some row → id ∉ d.R.ids → blk (m id) = some b → w'.heap[b]? = w.heap[b]? ∧ h' b = h b := fun id row b h1 h2 h3 =>
    hf.keep b (hs.sep id row b h1 h3).2 (blkne id row b h1 h2 h3)
  refine ⟨⟨hs'.imm, ?_, ?_, ?_⟩, ?_⟩
  · intro id row ha
    cases e : StL.get d.R' id with
    | some r =>
      have : xO st d.R d.R' d.N id = some r := by simp only [xO, e]
      rw [this] at ha
      cases ha
      exact hs'.rows id _ e
    | none =>
      obtain ⟨h1, h2, h3⟩ := frame id row e ha
      exact SimRow.mono hf.grow hm h2 (hfr.2 id row h1).2 (fun b hb => (framek id row b h1 h3 hb).1) (hs.rows id row h1)
  · intro id row b ha hb
    cases e : StL.get d.R' id with
    | some r => exact hs'.sep id r b e hb
    | none =>
      obtain ⟨h1, h2, h3⟩ := frame id row e ha
      rw [hm id h2] at hb
      obtain ⟨k1, k2⟩ := hs.sep id row b h1 hb
      exact ⟨by rw [(framek id row b h1 h3 hb).2]; exact k1, Nat.lt_of_lt_of_le k2 hf.size⟩
  · intro id id' r r' b ha ha' hb hb'
    have key : ∀ id id' r r', xO st d.R d.R' d.N id = some r → xO st d.R d.R' d.N id' = some r' → blk (m' id) = some b → blk (m' id') = some b → ∀ r1, StL.get d.R' id = some r1 → StL.get d.R' id' = none → False := by
      intro id id' r r' ha ha' hb hb' r1 e e'
      obtain ⟨h1, h2, h3⟩ := frame id' r' e' ha'
      rw [hm id' h2] at hb'
      rcases hf.fresh id r1 b e hb with hge | ⟨id0, row0, h4, h5⟩
      · have := (hs.sep id' r' b h1 hb').2
        omega
      · exact blkne id' r' b h1 h3 hb' id0 row0 h4 h5
    cases e : StL.get d.R' id with
    | some r1 =>
      cases e' : StL.get d.R' id' with
      | some r2 => exact hs'.inj id id' r1 r2 b e e' hb hb'
      | none => exact (key id id' r r' ha ha' hb hb' r1 e e').elim
    | none =>
      cases e' : StL.get d.R' id' with
      | some r2 => exact (key id' id r' r ha' ha hb' hb r2 e' e).elim
      | none =>
        obtain ⟨h1, h2, h3⟩ := frame id r e ha
        obtain ⟨h1', h2', h3'⟩ := frame id' r' e' ha'
        rw [hm id h2] at hb
        rw [hm id' h2'] at hb'
        exact hs.inj id id' r r' b h1 h1' hb hb'
  · refine ⟨hf.os, hf.tape, hf.output, hf.size, fun b hb hn => hf.keep b hb fun id row hr => hn id row (hsub id row hr), hf.grow, ?_⟩
    intro id row b ha hb
    cases e : StL.get d.R' id with
    | some r1 =>
      rcases hf.fresh id r1 b e hb with hge | ⟨id0, row0, h4, h5⟩
      · exact .inl hge
      · exact .inr ⟨id0, row0, hsub id0 row0 h4, h5⟩
    | none =>
      obtain ⟨h1, h2, h3⟩ := frame id row e ha
      rw [hm id h2] at hb
      exact .inr ⟨id, row, h1, hb⟩
theorem zdZ {a : Act} {dst : Option Tmp} {v : Value} {t : Tmp} (hd : ∀ t, dst = some t → t < a.tmps.size) : (a.put dst v).tmps.getD t undef = if dst = some t then v else a.tmps.getD t undef := by
  cases dst with
  | none => simp [Act.put]
  | some d =>
    have := hd d rfl
    by_cases h : d = t
    · subst h; simp [Act.put, Array.getD, this]
    · simp [Act.put, h]
theorem zeA (a : Act) (dst : Option Tmp) (v : Value) : (a.put dst v).tmps.size = a.tmps.size := by cases dst <;> simp [Act.put]
theorem ve (a : Act) (dst : Option Tmp) (v : Value) : (a.put dst v).defers = a.defers := by cases dst <;> rfl
theorem kI {nt : Nat} {h : Heap} {m : zQ} {env : Env} {st : zG} {a : Act} {w : World} {ops : Array Oper} (c : Conc nt h m env st a w) {j : Nat} {t : Tmp} (ht : x5 ops j = some t) {b : Bool} (he : env t = .t (.bool b)) : yielded ops a.tmps j = some b := by
  have := c.env t
  rw [he] at this
  simp only [RepA, RepT] at this
  unfold yielded
  unfold x5 at ht
  rw [ht]
  simp only [Option.bind_some]
  cases e : a.tmps[t]? with
  | none => simp [Array.getD_eq_getD_getElem?, e, undef] at this
  | some v => simp [Array.getD_eq_getD_getElem?, e] at this; subst this; rfl
theorem za9 {nt : Nat} {h : Heap} {m : zQ} {env : Env} {st : zG} {a : Act} {w : World} {ops : Array Oper} (c : Conc nt h m env st a w) {j : Nat} {t : Tmp} (ht : x5 ops j = some t) (he : env t = .tup []) : yielded ops a.tmps j = none := by
  have := c.env t
  rw [he] at this
  simp only [RepA, RepAs] at this
  obtain ⟨vs, hv, hs, _⟩ := this
  unfold yielded
  unfold x5 at ht
  rw [ht]
  simp only [Option.bind_some]
  cases e : a.tmps[t]? with
  | none => rfl
  | some v => simp [Array.getD_eq_getD_getElem?, e] at hv; subst hv; rfl
theorem zj9 {nt : Nat} {h : Heap} {m : zQ} {env : Env} {st : zG} {a : Act} {w : World} {ops : Array Oper} {o : Oper} (c : Conc nt h m env st a w) (hw : q8 ops o env) : Region.wanted o (yielded ops a.tmps) = true := by
  unfold q8 at hw
  unfold Region.wanted
  cases hg : o.guard with
  | none => rfl
  | some x =>
    obtain ⟨j, want⟩ := x
    rw [hg] at hw
    obtain ⟨t, h1, h2⟩ := hw
    simp [kI c h1 h2]
theorem zhZ {nt : Nat} {h : Heap} {m : zQ} {env : Env} {st : zG} {a : Act} {w : World} {ops : Array Oper} {o : Oper} (c : Conc nt h m env st a w) (hw : zeF ops o env) : Region.wanted o (yielded ops a.tmps) = false := by
  obtain ⟨j, want, t, hg, h1, h2⟩ := hw
  unfold Region.wanted
  rw [hg]
  rcases h2 with h2 | h2
  · cases want <;> simp [kI c h1 h2]
  · simp [za9 c h1 h2]
def yp (o : Oper) (d : SD) (env : Env) : Env := qP env o.dst d.r
def yG (d : SD) (st : zG) : zG := xO st d.R d.R' d.N
theorem zbQ (st : zG) : xO st [] [] [] = st := by
  funext id
  simp [xO, StL.get, StL.ids]
structure Since (h : Heap) (m : zQ) (st : zG) (w : World) (h' : Heap) (m' : zQ) (st' : zG) (w' : World) : Prop where
  foot : Foot h m st w h' m' st' w'
  par : ∀ k, m' (.par k) = m (.par k)
theorem Since.refl (h : Heap) (m : zQ) (st : zG) (w : World) : Since h m st w h m st w := ⟨Foot.refl h m st w, fun _ => rfl⟩
theorem Since.trans {h h1 h2 : Heap} {m m1 m2 : zQ} {R R1 R2 : zG} {w w1 w2 : World} (a : Since h m R w h1 m1 R1 w1) (b : Since h1 m1 R1 w1 h2 m2 R2 w2) : Since h m R w h2 m2 R2 w2 :=
  ⟨a.foot.trans b.foot, fun k => (b.par k).trans (a.par k)⟩
theorem zdh {P : Program} {nt : Nat} {ops : Array Oper} {o : Oper} {d : SD} {env : Env} {st : zG} (H : StepOK P nt ops o d env st) {h : Heap} {m : zQ} {a : Act} {w : World} (c : Conc nt h m env st a w)
    {K : Act → World → Prop} {Q : Exit → Act → World → Prop}
    (hK : ∀ a' w' h' m', Conc nt h' m' (yp o d env) (yG d st) a' w' → Since h m st w h' m' (yG d st) w' → a'.defers = a.defers → K a' w') :
    if Region.wanted o (yielded ops a.tmps) then wpR P o a w K Q else K (a.put o.dst undef) w := by
  cases hx : d.exec with
  | true =>
    obtain ⟨hw, hT⟩ := H.run hx
    rw [if_pos (zj9 c hw)]
    refine hT h m a w ?_ (fun x _ => c.eval x) K Q ?_
    · exact ⟨c.sim.imm, fun id row hr => c.sim.rows id row (H.sub id row hr), fun id row b hr => c.sim.sep id row b (H.sub id row hr), fun id id' r r' b h1 h2 => c.sim.inj id id' r r' b (H.sub _ _ h1) (H.sub _ _ h2)⟩
    · intro v h' m' w' hv hs' hf hm
      obtain ⟨hsim, hfoot⟩ := zcj c.sim H.fresh H.dok H.sub hs' hf hm
      refine hK _ _ h' m' ⟨hsim, by rw [zeA]; exact c.size, by rw [ve]; exact c.defers.foot hfoot, fun t => ?_⟩ ⟨hfoot, fun k => hm _ fun hk => by have := H.dok.loc _ hk; simp [Id.isLoc] at this⟩ (ve _ _ _)
      rw [zdZ (by rw [c.size]; exact H.dst)]
      unfold yp qP
      split
      · exact hv
      · exact RepA.mono hf.grow hm (H.fresh.1 t) (c.env t)
  | false =>
    obtain ⟨hsk, e1, e2, e3, e4⟩ := H.skip hx
    rw [if_neg (by rw [zhZ c hsk]; simp)]
    have est : yG d st = st := by unfold yG; rw [e1, e2, e3]; exact zbQ st
    refine hK _ _ h m ⟨by rw [est]; exact c.sim, by rw [zeA]; exact c.size, by rw [ve, est]; exact c.defers, fun t => ?_⟩ (by rw [est]; exact Since.refl h m st w) (ve _ _ _)
    rw [zdZ (by rw [c.size]; exact H.dst)]
    unfold yp qP
    split
    · rw [e4]; exact ⟨#[], rfl, rfl, trivial⟩
    · exact c.env t
end Go.AL
set_option linter.unusedSimpArgs false
namespace Go.AL
open Go Go.RowKit
section
variable {P : Program} {nt : Nat} {ops : Array Oper} {D : Nat → SD}
inductive Run (P : Program) (nt : Nat) (ops : Array Oper) (D : Nat → SD) : List Nat → Env → zG → Env → zG → Prop
  | nil (env : Env) (st : zG) : Run P nt ops D [] env st env st
  | cons {i : Nat} {o : Oper} {l : List Nat} {env env' : Env} {st st' : zG} (ho : ops[i]? = some o) (hs : StepOK P nt ops o (D i) env st)
      (hr : Run P nt ops D l (yp o (D i) env) (yG (D i) st) env' st') : Run P nt ops D (i :: l) env st env' st'
theorem zgb {Q : Exit → Act → World → Prop} {l : List Nat} {env env' : Env} {st st' : zG} (H : Run P nt ops D l env st env' st') :
    ∀ {h : Heap} {m : zQ} {a : Act} {w : World} {h0 : Heap} {m0 : zQ} {st0 : zG} {w0 : World}, Conc nt h m env st a w → Since h0 m0 st0 w0 h m st w →
      (∀ h' m' a' w', Conc nt h' m' env' st' a' w' → Since h0 m0 st0 w0 h' m' st' w' → a'.defers = a.defers → Q .normal a' w') → ∀ ro, wpOpsIn (ROF ro) 0 P ops Q l a w := by
  induction H with
  | nil env st => exact fun c s hQ ro => by simpa [wpOpsIn] using hQ _ _ _ _ c s rfl
  | @cons i o l env env' st st' ho hs hr ih =>
    intro h m a w h0 m0 st0 w0 c s hQ ro
    simp only [wpOpsIn, ho]
    have := zdh hs c (K := wpOpsIn (ROF ro) 0 P ops Q l) (Q := Q) fun a' w' h' m' c' s' hd => ih c' (s.trans s') (fun h2 m2 a2 w2 c2 s2 hd2 => hQ h2 m2 a2 w2 c2 s2 (hd2.trans hd)) ro
    by_cases hw : Region.wanted o (yielded ops a.tmps) = true
    · rw [if_pos hw] at this ⊢; exact this ro
    · rw [if_neg hw] at this ⊢; exact ⟨fun _ _ => trivial, this⟩
def qd (d : SD) (N : List Id) : Prop := d.r.clean N = true ∧ ∀ id row, StL.get d.R' id = some row → id ∉ N ∧ row.clean N = true
theorem zae {N : List Id} {o : Oper} {d : SD} {env : Env} {st : zG} (hf : qG N env st) (ho : qd d N) : qG N (yp o d env) (yG d st) := by
  refine ⟨fun t => ?_, fun id row hr => ?_⟩
  · unfold yp qP; split
    · exact ho.1
    · exact hf.1 t
  · unfold yG xO at hr
    cases e : StL.get d.R' id with
    | some r => rw [e] at hr; cases hr; exact ho.2 id _ e
    | none =>
      rw [e] at hr
      simp only at hr
      split at hr
      · cases hr
      · exact hf.2 id row hr
structure Compat (ops : Array Oper) (ok oi : Oper) (dk di : SD) : Prop where
  apart : ok.apart ops oi = true
  wk : ∀ id, id ∈ dk.W → id ∉ di.R.ids
  wi : ∀ id, id ∈ di.W → id ∉ dk.R.ids
  nk : ∀ id, id ∈ dk.N → id ∉ di.R.ids
  nn : ∀ id, id ∈ dk.N → id ∉ di.N
theorem zgB {ops : Array Oper} {o : Oper} {env env' : Env} (h : ∀ t, t ∈ o.looksAt ops → env t = env' t) : ∀ x ∈ o.op.operands, zE env x = zE env' x := by
  intro x hx
  cases x with
  | tmp t =>
    refine h t (List.mem_append_left _ (List.mem_filterMap.2 ⟨.tmp t, by simpa using hx, rfl⟩))
  | _ => rfl
theorem zbG {ops : Array Oper} {o : Oper} {j : Nat} {want : Bool} {t : Tmp} (hg : o.guard = some (j, want)) (ht : x5 ops j = some t) : t ∈ o.looksAt ops := by
  unfold Oper.looksAt
  unfold x5 at ht
  simp [hg, ht]
theorem StepOK.env_congr {o : Oper} {d : SD} {env env' : Env} {st st' : zG} (H : StepOK P nt ops o d env st) (he : ∀ t, t ∈ o.looksAt ops → env t = env' t) (hsub : ∀ id row, StL.get d.R id = some row → st' id = some row) (hf : qG d.N env' st') :
    StepOK P nt ops o d env' st' where
  dst := H.dst
  run := fun hx => by
    obtain ⟨hw, hT⟩ := H.run hx
    refine ⟨?_, hT.congr (zgB he)⟩
    unfold q8 at hw ⊢
    cases hg : o.guard with
    | none => trivial
    | some x =>
      obtain ⟨j, want⟩ := x
      rw [hg] at hw
      obtain ⟨t, h1, h2⟩ := hw
      exact ⟨t, h1, by rw [← he t (zbG hg h1)]; exact h2⟩
  skip := fun hx => by
    obtain ⟨⟨j, want, t, hg, h1, h2⟩, h3⟩ := H.skip hx
    exact ⟨⟨j, want, t, hg, h1, by rw [← he t (zbG hg h1)]; exact h2⟩, h3⟩
  sub := hsub
  dok := H.dok
  fresh := hf
theorem StL.ids_get {l : StL} {id : Id} (h : id ∈ l.ids) : ∃ row, StL.get l id = some row := by
  cases e : StL.get l id with
  | none => exact absurd h (StL.get_none.1 e)
  | some row => exact ⟨row, rfl⟩
theorem zic {ok oi : Oper} {dk di : SD} {env : Env} {st : zG} (Hk : StepOK P nt ops ok dk env st) (Hi : StepOK P nt ops oi di (yp ok dk env) (yG dk st))
    (hc : Compat ops ok oi dk di) (hf : qG di.N env st) (ho : qd di dk.N) :
    StepOK P nt ops oi di env st ∧ StepOK P nt ops ok dk (yp oi di env) (yG di st) ∧
      yp ok dk (yp oi di env) = yp oi di (yp ok dk env) ∧ yG dk (yG di st) = yG di (yG dk st) := by
  obtain ⟨a1, a2, a3⟩ := Oper.apart_spec hc.apart
  have hsubi : ∀ id row, StL.get di.R id = some row → st id = some row := fun id row hr => by
    have h1 := Hi.sub id row hr
    have hid := StL.mem_ids hr
    by_cases hk : id ∈ dk.R.ids
    · have hw : id ∉ dk.W := fun h => hc.wk id h hid
      obtain ⟨row', hk'⟩ := StL.ids_get hk
      have := Hk.dok.same id hk hw
      unfold yG xO at h1
      rw [this, hk'] at h1
      simp only at h1
      rw [Hk.sub id row' hk']
      exact h1
    · unfold yG xO at h1
      have hn : StL.get dk.R' id = none := by
        refine StL.get_none.2 fun h => ?_
        rcases Hk.dok.dom id h with h' | h'
        · exact hk h'
        · exact hc.nk id h' hid
      rw [hn] at h1
      simp only at h1
      split at h1
      · cases h1
      · exact h1
  have hsubk : ∀ id row, StL.get dk.R id = some row → yG di st id = some row := fun id row hr => by
    have h1 := Hk.sub id row hr
    have hid := StL.mem_ids hr
    by_cases hk : id ∈ di.R.ids
    · have hw : id ∉ di.W := fun h => hc.wi id h hid
      obtain ⟨row', hk'⟩ := StL.ids_get hk
      have := Hi.dok.same id hk hw
      unfold yG xO
      rw [this, hk']
      simp only
      rw [← hsubi id row' hk', h1]
    · unfold yG xO
      have hnN : id ∉ di.N := (hf.2 id row h1).1
      have hn : StL.get di.R' id = none := by
        refine StL.get_none.2 fun h => ?_
        rcases Hi.dok.dom id h with h' | h'
        · exact hk h'
        · exact hnN h'
      rw [hn]
      simp only
      rw [if_neg (by rintro (h | h); exact hnN h; exact hk h)]
      exact h1
  refine ⟨Hi.env_congr (fun t ht => ?_) hsubi hf, Hk.env_congr (fun t ht => ?_) hsubk (zae Hk.fresh ho), ?_, ?_⟩
  · unfold yp qP
    rw [if_neg (fun e => a1 t e ht)]
  · unfold yp qP
    rw [if_neg (fun e => a3 t e ht)]
  · funext t
    unfold yp qP
    by_cases h1 : ok.dst = some t
    · have : oi.dst ≠ some t := a2 t h1
      simp [h1, this]
    · simp [h1]
  · funext id
    unfold yG xO
    cases ek : StL.get dk.R' id with
    | some rk =>
      have hk : id ∈ dk.R'.ids := StL.mem_ids ek
      cases ei : StL.get di.R' id with
      | some ri =>
        have hi : id ∈ di.R'.ids := StL.mem_ids ei
        simp only
        rcases Hk.dok.dom id hk with h1 | h1
        · rcases Hi.dok.dom id hi with h2 | h2
          · have e1 := Hk.dok.same id h1 (fun h => hc.wk id h h2)
            have e2 := Hi.dok.same id h2 (fun h => hc.wi id h h1)
            obtain ⟨row, hrow⟩ := StL.ids_get h1
            obtain ⟨row', hrow'⟩ := StL.ids_get h2
            have e3 := Hk.sub id row hrow
            have e4 := hsubi id row' hrow'
            rw [e3] at e4
            cases e4
            rw [e1, hrow] at ek
            rw [e2, hrow'] at ei
            rw [← ek, ← ei]
          · obtain ⟨row, hrow⟩ := StL.ids_get h1
            exact absurd h2 (hf.2 id row (Hk.sub id row hrow)).1
        · exact absurd h1 ((ho.2 id ri ei).1)
      | none =>
        simp only
        rw [if_neg]
        rintro (h | h)
        · rcases Hk.dok.dom id hk with h1 | h1
          · obtain ⟨row, hrow⟩ := StL.ids_get h1
            exact (hf.2 id row (Hk.sub id row hrow)).1 h
          · exact hc.nn id h1 h
        · rcases Hk.dok.dom id hk with h1 | h1
          · have := Hi.dok.same id h (fun h' => hc.wi id h' h1)
            obtain ⟨row, hrow⟩ := StL.ids_get h
            rw [this, hrow] at ei
            cases ei
          · exact hc.nk id h1 h
    | none =>
      cases ei : StL.get di.R' id with
      | some ri =>
        have hi : id ∈ di.R'.ids := StL.mem_ids ei
        simp only
        rw [if_neg]
        rintro (h | h)
        · exact (ho.2 id ri ei).1 h
        · rcases Hi.dok.dom id hi with h1 | h1
          · have := Hk.dok.same id h (fun h' => hc.wk id h' h1)
            obtain ⟨row, hrow⟩ := StL.ids_get h
            rw [this, hrow] at ek
            cases ek
          · obtain ⟨row, hrow⟩ := StL.ids_get h
            exact (hf.2 id row (Hk.sub id row hrow)).1 h1
      | none =>
        simp only
        by_cases h1 : id ∈ dk.N ∨ id ∈ dk.R.ids <;> by_cases h2 : id ∈ di.N ∨ id ∈ di.R.ids <;> simp [h1, h2]
theorem zdJ {i : Nat} {oi : Oper} (hoi : ops[i]? = some oi) : ∀ (pre : List Nat) {post : List Nat} {env env' : Env} {st st' : zG}, Run P nt ops D (pre ++ i :: post) env st env' st' →
    (∀ k ∈ pre, ∀ ok, ops[k]? = some ok → Compat ops ok oi (D k) (D i) ∧ qd (D i) (D k).N ∧ qd (D k) (D i).N) → qG (D i).N env st →
    StepOK P nt ops oi (D i) env st ∧ Run P nt ops D (pre ++ post) (yp oi (D i) env) (yG (D i) st) env' st'
  | [], post, env, env', st, st', H, _, _ => by
    cases H with
    | cons ho hs hr =>
      rw [hoi] at ho
      cases ho
      exact ⟨hs, hr⟩
  | k :: pre, post, env, env', st, st', H, hc, hf => by
    cases H with
    | @cons _ ok _ _ _ _ _ ho hs hr =>
      obtain ⟨c1, c2, c3⟩ := hc k (by simp) ok ho
      obtain ⟨h1, h2⟩ := zdJ hoi pre hr (fun k' hk' => hc k' (by simp [hk'])) (zae hf c3)
      obtain ⟨s1, s2, s3, s4⟩ := zic hs h1 c1 hf c2
      exact ⟨s1, .cons ho s2 (by rw [s3, s4]; exact h2)⟩
inductive Anc (ops : Array Oper) (k : Nat) : Nat → Prop
  | edge {i : Nat} {o : Oper} {e : Edge} (ho : ops[i]? = some o) (he : e ∈ o.after) (hb : Region.binds .any e = true) (hk : e.on = k) : Anc ops k i
  | step {i : Nat} {o : Oper} {e : Edge} (ho : ops[i]? = some o) (he : e ∈ o.after) (hb : Region.binds .any e = true) (h : Anc ops k e.on) : Anc ops k i
def zmq (ops : Array Oper) (listed : Array Bool) : Prop :=
  ∀ x o, listed.getD x false = true → ops[x]? = some o → ∀ e ∈ o.after, Region.binds .any e = true → listed.getD e.on false = true
theorem ziu {listed : Array Bool} (hc : zmq ops listed) {k i : Nat} (H : Anc ops k i) : ∀ {o : Oper}, ops[i]? = some o → (∀ e ∈ o.after, Region.binds .any e = true → listed.getD e.on false = true) → listed.getD k false = true := by
  induction H with
  | edge ho he hb hk =>
    intro o ho' hall
    rw [ho] at ho'
    cases ho'
    rw [← hk]
    exact hall _ he hb
  | @step i o1 e ho he hb h ih =>
    intro o ho' hall
    rw [ho] at ho'
    cases ho'
    have hl := hall _ he hb
    cases ho2 : ops[e.on]? with
    | none => cases h with
      | edge ho3 => rw [ho2] at ho3; cases ho3
      | step ho3 => rw [ho2] at ho3; cases ho3
    | some o2 => exact ih ho2 fun e' he' hb' => hc e.on o2 hl ho2 e' he' hb'
structure Checks (ops : Array Oper) (D : Nat → SD) : Prop where
  edges : ∀ i o, ops[i]? = some o → ∀ e ∈ o.after, Region.binds .any e = true → e.on < i
  out : ∀ i j oi oj, ops[i]? = some oi → ops[j]? = some oj → i ≠ j → Anc ops j i ∨ qd (D i) (D j).N
  compat : ∀ k i ok oi, ops[k]? = some ok → ops[i]? = some oi → k < i → Anc ops k i ∨ Compat ops ok oi (D k) (D i)
theorem zn2 (hc : Checks ops D) {k i : Nat} (H : Anc ops k i) : k < i := by
  induction H with
  | edge ho he hb hk => rw [← hk]; exact hc.edges _ _ ho _ he hb
  | step ho he hb h ih => exact Nat.lt_trans ih (hc.edges _ _ ho _ he hb)
theorem zjv (hc : Checks ops D) {Q : Exit → Act → World → Prop} {env' : Env} {st' : zG} {h0 : Heap} {m0 : zQ} {st0 : zG} {w0 : World} {ds : List Deferred}
    (hQ : ∀ h' m' a' w', Conc nt h' m' env' st' a' w' → Since h0 m0 st0 w0 h' m' st' w' → a'.defers = ds → Q .normal a' w') (ro : Option Nat) :
    ∀ (fuel : Nat) (rem : List Nat) (listed : Array Bool) (env : Env) (st : zG) (h : Heap) (m : zQ) (a : Act) (w : World), rem.length = fuel → rem.Pairwise (· < ·) → (∀ j, j ∈ rem ↔ j < ops.size ∧ listed.getD j true = false) → listed.size = ops.size → zmq ops listed →
      Run P nt ops D rem env st env' st' → (∀ j ∈ rem, qG (D j).N env st) → Conc nt h m env st a w → Since h0 m0 st0 w0 h m st w → a.defers = ds → wpAnyIn (ROF ro) 0 P .any ops Q fuel listed a w := by
  intro fuel
  induction fuel with
  | zero =>
    intro rem listed env st h m a w hlen hp hmem hsz hcl hr hfr c s hds
    obtain rfl : rem = [] := List.eq_nil_of_length_eq_zero hlen
    refine ⟨?_, ?_⟩
    · refine List.eq_nil_iff_forall_not_mem.2 fun i hi => ?_
      obtain ⟨h1, o, h2, _⟩ := mem_ready.1 hi
      have := (hmem i).2 ⟨(Array.getElem?_eq_some_iff.1 h2).1, h1⟩
      cases this
    · cases hr with
      | nil => exact hQ _ _ _ _ c s hds
  | succ fuel ih =>
    intro rem listed env st h m a w hlen hp hmem hsz hcl hr hfr c s hds
    have listed_of : ∀ x, x < ops.size → x ∉ rem → listed.getD x false = true := fun x hx hn => by
      have : ¬ listed.getD x true = false := fun h => hn ((hmem x).2 ⟨hx, h⟩)
      rw [Array.getD_eq_getD_getElem?] at this ⊢
      rw [Array.getElem?_eq_getElem (by omega)] at this ⊢
      simpa using this
    refine ⟨fun hnil => ?_, fun i hi => ?_⟩
    · exfalso
      cases rem with
      | nil => simp at hlen
      | cons k0 rem' =>
        obtain ⟨hk, hl⟩ := (hmem k0).1 (by simp)
        have hin : k0 ∈ Region.ready .any ops listed := by
          refine mem_ready.2 ⟨hl, ops[k0], Array.getElem?_eq_getElem hk, fun e he hb => ?_⟩
          have hlt := hc.edges k0 _ (Array.getElem?_eq_getElem hk) e he hb
          refine listed_of e.on (by omega) fun hm => ?_
          rcases List.mem_cons.1 hm with h | h
          · omega
          · have := (List.pairwise_cons.1 hp).1 _ h
            omega
        rw [hnil] at hin
        cases hin
    · obtain ⟨hli, oi, hoi, hall⟩ := mem_ready.1 hi
      have hilt : i < ops.size := (Array.getElem?_eq_some_iff.1 hoi).1
      have hirem : i ∈ rem := (hmem i).2 ⟨hilt, hli⟩
      obtain ⟨pre, post, rfl⟩ := List.append_of_mem hirem
      have notanc : ∀ k, k ∈ pre ++ i :: post → Anc ops k i → False := fun k hk ha => by
        have h1 := ziu hcl ha hoi hall
        obtain ⟨hk1, hk2⟩ := (hmem k).1 hk
        rw [Array.getD_eq_getD_getElem?] at h1 hk2
        rw [Array.getElem?_eq_getElem (by omega)] at h1 hk2
        simp at h1 hk2
        rw [h1] at hk2
        cases hk2
      have hpre : ∀ k ∈ pre, k < i := fun k hk => by
        have := List.pairwise_append.1 hp
        exact this.2.2 k hk i (by simp)
      obtain ⟨h1, h2⟩ := zdJ hoi pre hr (fun k hk ok hok => by
        have hlt := hpre k hk
        refine ⟨(hc.compat k i ok oi hok hoi hlt).resolve_left fun h => notanc k (by simp [hk]) h, (hc.out i k oi ok hoi hok (by omega)).resolve_left fun h => notanc k (by simp [hk]) h, (hc.out k i ok oi hok hoi (by omega)).resolve_left fun h => ?_⟩
        have := zn2 hc h
        omega) (hfr i hirem)
      unfold wpOpIn
      simp only [hoi]
      have fin := zdh h1 c (K := wpAnyIn (ROF ro) 0 P .any ops Q fuel (listed.setIfInBounds i true)) (Q := Q) ?_
      · by_cases hw : Region.wanted oi (yielded ops a.tmps) = true
        · rw [if_pos hw] at fin ⊢; exact fin ro
        · rw [if_neg hw] at fin ⊢; exact ⟨fun _ _ => trivial, fin⟩
      intro a' w' h' m' c' s' hd'
      have hnodup : i ∉ pre ++ post := fun hm => by
        rcases List.mem_append.1 hm with hm | hm
        · have := hpre i hm; omega
        · have := (List.pairwise_cons.1 (List.pairwise_append.1 hp).2.1).1 i hm
          omega
      refine ih (pre ++ post) _ _ _ h' m' a' w' (by simp at hlen ⊢; omega) ?_ ?_ (by simp [hsz]) ?_ h2 ?_ c' (s.trans s') (hd'.trans hds)
      · exact hp.sublist (by simp)
      · intro j
        by_cases hj : j = i
        · subst hj
          constructor
          · intro h; exact absurd h hnodup
          · rintro ⟨_, h⟩
            simp [Array.getD_eq_getD_getElem?, hsz, hilt] at h
        · have h3 := hmem j
          rw [getD_set_ne true (Ne.symm hj)]
          rw [← h3]
          simp [hj]
      · intro x o hx ho e he hb
        by_cases hxi : x = i
        · subst hxi
          rw [hoi] at ho
          cases ho
          exact getD_set_true (hall e he hb)
        · rw [getD_set_ne false (Ne.symm hxi)] at hx
          exact getD_set_true (hcl x o hx ho e he hb)
      · intro j hj
        have hj' : j ∈ pre ++ i :: post := by
          rcases List.mem_append.1 hj with h | h
          · simp [h]
          · simp [h]
        have hne : j ≠ i := fun e => hnodup (e ▸ hj)
        obtain ⟨hjl, _⟩ := (hmem j).1 hj'
        refine zae (hfr j hj') ((hc.out i j oi ops[j] hoi (Array.getElem?_eq_getElem hjl) (Ne.symm hne)).resolve_left fun h => notanc j hj' h)
def Code.roundless : Code → Bool
  | .rangeFunc .. => false
  | .seq x y => Code.roundless x && Code.roundless y
  | .cond _ x y => Code.roundless x && Code.roundless y
  | .block _ x => Code.roundless x
  | .loop x => Code.roundless x
  | .scope x => Code.roundless x
  | _ => true
def Newer (w : World) (a a' : Act) : Prop := ∀ d ∈ a'.defers, d ∈ a.defers ∨ ∃ B, d = { target := .collected B, args := #[] } ∧ w.heap.size ≤ B
theorem Newer.same {w : World} {a a' : Act} (e : a'.defers = a.defers) : Newer w a a' := fun d hd => .inl (e ▸ hd)
theorem Newer.trans {w w1 : World} {a a1 a2 : Act} (H : Newer w a a1) (hs : w.heap.size ≤ w1.heap.size) (K : Newer w1 a1 a2) : Newer w a a2 := fun d hd => by
  rcases K d hd with h | ⟨B, e, h⟩
  · exact H d h
  · exact .inr ⟨B, e, Nat.le_trans hs h⟩
def ziW (nt : Nat) (h : Heap) (m : zQ) (st : zG) (a : Act) (w : World) (Q : Exit → Env → zG → Prop) (e : Exit) (a' : Act) (w' : World) : Prop :=
  ∃ env' st' h' m', Q e env' st' ∧ Conc nt h' m' env' st' a' w' ∧ Since h m st w h' m' st' w' ∧ Newer w a a'
structure CodeT (P : Program) (nt : Nat) (c : Code) (env : Env) (st : zG) (Q : Exit → Env → zG → Prop) : Prop where
  run : ∀ ro, (ro = none ∨ Code.roundless c = true) → ∀ h m a w, Conc nt h m env st a w → c.wpIn (ROF ro) 0 P (ziW nt h m st a w Q) a w
theorem ze5 {id : Nat} {env env' : Env} {st st' : zG} {Q : Exit → Env → zG → Prop} (hr : Run P nt ops D (List.range ops.size) env st env' st') (hq : Q .normal env' st') : CodeT P nt (.region id ops false) env st Q :=
  ⟨fun ro _ h m a w c => wpIn_region (zgb hr c (Since.refl h m st w) (fun h' m' a' w' c' s' hd => ⟨env', st', h', m', hq, c', s', Newer.same hd⟩) ro)⟩
theorem zaa {id : Nat} {env env' : Env} {st st' : zG} {Q : Exit → Env → zG → Prop} (hm : P.follows .mixedOrders = true) (hc : Checks ops D) (hfr : ∀ j, j < ops.size → qG (D j).N env st)
    (hr : Run P nt ops D (List.range ops.size) env st env' st') (hq : Q .normal env' st') : CodeT P nt (.region id ops true) env st Q := by
  refine ⟨?_⟩
  intro ro _ h m a w c
  have rowd : ∀ id row, SimRow h m w id row → SimRow h m { w with drawn := w.drawn + 1 } id row := fun id row H => by
    cases row with
    | var ty cs => exact H
    | slt e sz es => exact H
    | arr ty sz es => exact H
    | dat k => exact H
    | loop k cs => exact H
  have c' : Conc nt h m env st a { w with drawn := w.drawn + 1 } := ⟨⟨c.sim.imm, fun id row hr => rowd id row (c.sim.rows id row hr), c.sim.sep, c.sim.inj⟩, c.size, ⟨c.defers.nodup, c.defers.all⟩, c.env⟩
  refine wpIn_region_any hm (zjv hc (h0 := h) (m0 := m) (st0 := st) (w0 := w) (env' := env') (st' := st') (ds := a.defers) (fun h' m' a' w' c' s' hd => ⟨env', st', h', m', hq, c', s', Newer.same hd⟩) ro _ (List.range ops.size) _ env st h m a _ (by simp) List.pairwise_lt_range ?_ (by simp) ?_ hr (fun j hj => hfr j (by simpa using hj)) c' ?_ rfl)
  · intro j
    simp only [List.mem_range]
    constructor
    · intro hj
      exact ⟨hj, by simp [Array.getD_eq_getD_getElem?, hj]⟩
    · exact fun h => h.1
  · intro x o hx
    by_cases h : x < ops.size
    · simp [Array.getD_eq_getD_getElem?, h] at hx
    · simp [Array.getD_eq_getD_getElem?, h] at hx
  · exact ⟨⟨rfl, rfl, rfl, Nat.le_refl _, fun _ _ _ => ⟨rfl, rfl⟩, fun _ _ hu => hu, fun id row b h1 h2 => .inr ⟨id, row, h1, h2⟩⟩, fun _ => rfl⟩
end
end Go.AL
set_option linter.unusedSimpArgs false
namespace Go.AL
open Go Go.RowKit
section
variable {P : Program} {nt : Nat}
def ziL (P : Program) (nt : Nat) (y : Code) (Q : Exit → Env → zG → Prop) : Exit → Env → zG → Prop
  | .normal, env, st => CodeT P nt y env st Q
  | e, env, st => Q e env st
theorem zcs {c : Code} {env : Env} {st : zG} {Q : Exit → Env → zG → Prop} (H : CodeT P nt c env st Q) {ro : Option Nat} (hro : ro = none ∨ Code.roundless c = true) {h0 h : Heap} {m0 m : zQ} {st0 : zG} {w0 w : World} {a0 a : Act} (c' : Conc nt h m env st a w) (s : Since h0 m0 st0 w0 h m st w) (n : Newer w0 a0 a) :
    c.wpIn (ROF ro) 0 P (ziW nt h0 m0 st0 a0 w0 Q) a w :=
  wpIn_mono (H.run ro hro h m a w c') fun e a' w' ⟨env', st', h', m', hq, c1, s1, n1⟩ => ⟨env', st', h', m', hq, c1, s.trans s1, n.trans s.foot.size n1⟩
theorem jy {x y : Code} {env : Env} {st : zG} {Q : Exit → Env → zG → Prop} (H : CodeT P nt x env st (ziL P nt y Q)) : CodeT P nt (.seq x y) env st Q := by
  refine ⟨?_⟩
  intro ro hro h m a w c
  simp only [Code.roundless, Bool.and_eq_true] at hro
  refine wpIn_seq (wpIn_mono (H.run ro (hro.imp id (·.1)) h m a w c) ?_)
  rintro e a' w' ⟨env', st', h', m', hq, c', s', n'⟩
  cases e with
  | normal => exact zcs hq (hro.imp id (·.2)) c' s' n'
  | exit id => exact ⟨env', st', h', m', hq, c', s', n'⟩
  | goto l => exact ⟨env', st', h', m', hq, c', s', n'⟩
  | ret => exact ⟨env', st', h', m', hq, c', s', n'⟩
  | panic ch => exact ⟨env', st', h', m', hq, c', s', n'⟩
  | outgrown => exact ⟨env', st', h', m', hq, c', s', n'⟩
theorem zi5 {env : Env} {st : zG} {Q : Exit → Env → zG → Prop} (H : Q .normal env st) : CodeT P nt .skip env st Q :=
  ⟨fun ro _ h m a w c => wpIn_skip ⟨env, st, h, m, H, c, Since.refl h m st w, Newer.same rfl⟩⟩
theorem zkS {env : Env} {st : zG} {Q : Exit → Env → zG → Prop} (H : Q .ret env st) : CodeT P nt .ret env st Q :=
  ⟨fun ro _ h m a w c => wpIn_ret ⟨env, st, h, m, H, c, Since.refl h m st w, Newer.same rfl⟩⟩
theorem zh6 {id : Nat} {env : Env} {st : zG} {Q : Exit → Env → zG → Prop} (H : Q (.exit id) env st) : CodeT P nt (.exit id) env st Q :=
  ⟨fun ro _ h m a w c => wpIn_exit ⟨env, st, h, m, H, c, Since.refl h m st w, Newer.same rfl⟩⟩
theorem zad {x : Operand} {y z : Code} {env : Env} {st : zG} {Q : Exit → Env → zG → Prop} {b : Bool} (hb : zE env x = .t (.bool b)) (H : CodeT P nt (if b then y else z) env st Q) : CodeT P nt (.cond x y z) env st Q := by
  refine ⟨?_⟩
  intro ro hro h m a w c
  have := c.eval x
  rw [hb] at this
  simp only [RepA, RepT] at this
  simp only [Code.roundless, Bool.and_eq_true] at hro
  exact Go.wpIn_cond this (H.run ro (hro.imp id fun h => (by cases b with
    | true => exact h.1
    | false => exact h.2)) h m a w c)
theorem k9 {x : Operand} {y z : Code} {env : Env} {st : zG} {Q : Exit → Env → zG → Prop} {b : Bool} (hb : zE env x = .t (.bool b)) (H1 : b = true → CodeT P nt y env st Q) (H2 : b = false → CodeT P nt z env st Q) : CodeT P nt (.cond x y z) env st Q := by
  refine zad hb ?_
  cases b with
  | true => exact H1 rfl
  | false => exact H2 rfl
def vx (id : Nat) (Q : Exit → Env → zG → Prop) : Exit → Env → zG → Prop
  | .exit id', env, st => if id' = id then Q .normal env st else Q (.exit id') env st
  | e, env, st => Q e env st
theorem zg0 {id : Nat} {x : Code} {env : Env} {st : zG} {Q : Exit → Env → zG → Prop} (H : CodeT P nt x env st (vx id Q)) : CodeT P nt (.block id x) env st Q := by
  refine ⟨?_⟩
  intro ro hro h m a w c
  refine Go.wpIn_block (wpIn_mono (H.run ro hro h m a w c) ?_)
  rintro e a' w' ⟨env', st', h', m', hq, c', s'⟩
  cases e with
  | exit id' =>
    simp only [vx] at hq
    simp only [Exit.inBlock]
    split
    · rename_i e; rw [if_pos e] at hq; exact ⟨env', st', h', m', hq, c', s'⟩
    · rename_i e; rw [if_neg e] at hq; exact ⟨env', st', h', m', hq, c', s'⟩
  | normal => exact ⟨env', st', h', m', hq, c', s'⟩
  | goto l => exact ⟨env', st', h', m', hq, c', s'⟩
  | ret => exact ⟨env', st', h', m', hq, c', s'⟩
  | panic ch => exact ⟨env', st', h', m', hq, c', s'⟩
  | outgrown => exact ⟨env', st', h', m', hq, c', s'⟩
def Ghost (nt : Nat) (env : Env) (st : zG) (env' : Env) (st' : zG) : Prop :=
  ∀ h m a w, Conc nt h m env st a w → ∃ h' m', Conc nt h' m' env' st' a w ∧ Since h m st w h' m' st' w
theorem Conc.step {h h' : Heap} {m m' : zQ} {env env' : Env} {st st' : zG} {a : Act} {w : World} (c : Conc nt h m env st a w) (s : Sim h' m' st' w) (e : ∀ t, RepA h' m' (a.tmps.getD t undef) (env' t)) (f : Since h m st w h' m' st' w) :
    ∃ h' m', Conc nt h' m' env' st' a w ∧ Since h m st w h' m' st' w := ⟨h', m', ⟨s, c.size, c.defers.foot f.foot, e⟩, f⟩
theorem Ghost.refl (env : Env) (st : zG) : Ghost nt env st env st := fun h m a w c => ⟨h, m, c, Since.refl h m st w⟩
theorem Ghost.trans {env env1 env2 : Env} {st st1 st2 : zG} (a : Ghost nt env st env1 st1) (b : Ghost nt env1 st1 env2 st2) : Ghost nt env st env2 st2 := fun h m x w c => by
  obtain ⟨h1, m1, c1, s1⟩ := a h m x w c
  obtain ⟨h2, m2, c2, s2⟩ := b h1 m1 x w c1
  exact ⟨h2, m2, c2, s1.trans s2⟩
theorem zl {x : Code} {env env' : Env} {st st' : zG} {Q : Exit → Env → zG → Prop} (g : Ghost nt env st env' st') (H : CodeT P nt x env' st' Q) : CodeT P nt x env st Q := by
  refine ⟨?_⟩
  intro ro hro h m a w c
  obtain ⟨h1, m1, c1, s1⟩ := g h m a w c
  exact zcs H hro c1 s1 (Newer.same rfl)
theorem ziG {x : Code} {env : Env} {st : zG} {Q Q' : Exit → Env → zG → Prop} (H : CodeT P nt x env st Q) (hq : ∀ e env st, Q e env st → Q' e env st) : CodeT P nt x env st Q' :=
  ⟨fun ro hro h m a w c => wpIn_mono (H.run ro hro h m a w c) fun e a' w' ⟨env', st', h', m', q, c', s'⟩ => ⟨env', st', h', m', hq _ _ _ q, c', s'⟩⟩
def zk8 (nt : Nat) (I : Nat → Env → zG → Prop) (n : Nat) (Q : Exit → Env → zG → Prop) : Exit → Env → zG → Prop
  | .normal, env, st => ∃ n', n' < n ∧ ∃ env1 st1, Ghost nt env st env1 st1 ∧ I n' env1 st1
  | e, env, st => Q e env st
theorem zz {x : Code} {Q : Exit → Env → zG → Prop} (I : Nat → Env → zG → Prop) (round : ∀ n env st, I n env st → CodeT P nt x env st (zk8 nt I n Q)) {n : Nat} {env : Env} {st : zG} (h0 : I n env st) : CodeT P nt (.loop x) env st Q := by
  refine ⟨?_⟩
  intro ro hro h m a w c b k cs hbr hb hr
  have key : ∀ n env st h1 m1 a1 w1, I n env st → Conc nt h1 m1 env st a1 w1 → ∀ {h0 : Heap} {m0 : zQ} {st0 : zG} {w0 : World} {a0 : Act}, Since h0 m0 st0 w0 h1 m1 st w1 → Newer w0 a0 a1 →
      ∃ e a' w', ziW nt h0 m0 st0 a0 w0 Q e a' w' ∧ ArrivesIn (Machine.fenced P (ROF ro)) P (lone (b.atR a1 (.code x :: .inLoop x :: k)) cs w1) b k cs e a' w' := by
    intro n
    induction n using Nat.strongRecOn with
    | _ n ih =>
      intro env st h1 m1 a1 w1 hI c1 h0 m0 st0 w0 a0 s0 n0
      obtain ⟨e, a2, w2, ⟨env', st', h', m', hq, c', s', n'⟩, harr⟩ := (round n env st hI).run ro hro h1 m1 a1 w1 c1 b (.inLoop x :: k) cs hbr hb hr
      have n2 := n0.trans s0.foot.size n'
      cases e with
      | normal =>
        obtain ⟨n', hlt, env2, st2, hg, hI2⟩ := hq
        obtain ⟨h3, m3, c3, s3⟩ := hg h' m' a2 w2 c'
        obtain ⟨e₂, a₂, w₂, hq₂, harr₂⟩ := ih n' hlt env2 st2 h3 m3 a2 w2 hI2 c3 ((s0.trans s').trans s3) n2
        exact ⟨e₂, a₂, w₂, hq₂, .of_steps (StepsIn.trans harr (.one (fenced_calm hb hr rfl) stepR_inLoop)) harr₂⟩
      | exit id => exact ⟨_, a2, w2, ⟨env', st', h', m', hq, c', s0.trans s', n2⟩, .pass (x := .inLoop x) rfl (fun _ _ => .inl (by simp)) harr⟩
      | goto l => exact ⟨_, a2, w2, ⟨env', st', h', m', hq, c', s0.trans s', n2⟩, .pass (x := .inLoop x) rfl (fun _ _ => .inl (by simp)) harr⟩
      | ret => exact ⟨_, a2, w2, ⟨env', st', h', m', hq, c', s0.trans s', n2⟩, .pass (x := .inLoop x) rfl (fun _ _ => .inl (by simp)) harr⟩
      | panic ch => exact ⟨_, a2, w2, ⟨env', st', h', m', hq, c', s0.trans s', n2⟩, .pass (x := .inLoop x) rfl (fun _ _ => .inl (by simp)) harr⟩
      | outgrown => exact ⟨_, a2, w2, ⟨env', st', h', m', hq, c', s0.trans s', n2⟩, .pass (x := .inLoop x) rfl (fun _ _ => .inl (by simp)) harr⟩
  obtain ⟨e, a', w', hq, harr⟩ := key n env st h m a w h0 c (Since.refl h m st w) (Newer.same rfl)
  exact ⟨e, a', w', hq, .of_steps (.one (fenced_calm hb hr rfl) stepR_loop) harr⟩
end
section
variable {P : Program}
structure Spec (P : Program) (f : FuncId) (args : List AV) (S : StL) (r : AV) (S' : StL) : Prop where
  run : ∀ h m (vs : Array Value) w, Sim h m (StL.get S) w → vs.size = args.length → RepAs h m (fun j => vs[j]?) 0 args →
    Calls P f vs w fun e w' => ∃ v h' m', e = .returned v ∧ RepA h' m' v r ∧ Sim h' m' (StL.get S') w' ∧ Since h m (StL.get S) w h' m' (StL.get S') w'
def zaM (k : Nat) : List AV → EnvL
  | [] => []
  | a :: as => (k, a) :: zaM (k + 1) as
theorem zdb {h : Heap} {m : zQ} {vs : Array Value} {pad : Nat} : ∀ {as : List AV} {k : Nat}, RepAs h m (fun j => vs[j]?) k as → vs.size = k + as.length → ∀ t, k ≤ t → RepA h m ((vs ++ Array.replicate pad undef).getD t undef) (EnvL.get (zaM k as) t)
  | [], k, _, hs, t, ht => by simp [zaM, EnvL.get, RepA]
  | a :: as, k, H, hs, t, ht => by
    simp only [RepAs] at H
    obtain ⟨⟨u, h1, h2⟩, h3⟩ := H
    simp only [zaM, EnvL.get]
    by_cases e : k = t
    · subst e
      rw [if_pos rfl]
      have hk : k < vs.size := by simp at hs; omega
      have : (vs ++ Array.replicate pad undef).getD k undef = u := by
        rw [Array.getD_eq_getD_getElem?, Array.getElem?_append_left hk, h1]
        rfl
      rw [this]; exact h2
    · rw [if_neg e]
      exact zdb h3 (by simp at hs; omega) t (by omega)
def zgU (P : Program) (fn : Func) (env : Env) (st : zG) (r : AV) : Prop :=
  ∀ nt h m a w, Conc nt h m env st a w → ∃ v, (results fn a.tmps).run P w = .ok v w ∧ RepA h m v r
def znZ (P : Program) (fn : Func) (r : AV) (S' : StL) : Exit → Env → zG → Prop
  | .normal, env, st => zgU P fn env st r ∧ ∀ id row, StL.get S' id = some row → st id = some row
  | .ret, env, st => zgU P fn env st r ∧ ∀ id row, StL.get S' id = some row → st id = some row
  | _, _, _ => False
theorem SimRow.at_heap {h : Heap} {m : zQ} {w w' : World} {id : Id} {row : Row} (hk : ∀ b, blk (m id) = some b → w'.heap[b]? = w.heap[b]?) (H : SimRow h m w id row) : SimRow h m w' id row := by
  cases row with
  | var ty cs =>
    obtain ⟨b, arr, e1, e2, e3⟩ := H
    exact ⟨b, arr, e1, by rw [hk b (by rw [e1]; rfl)]; exact e2, e3⟩
  | slt e sz es =>
    obtain ⟨xs, h1, h2⟩ := H
    exact ⟨xs, zb9 h1 hk, h2⟩
  | arr ty sz es =>
    obtain ⟨b, arr, e1, e2, e3⟩ := H
    exact ⟨b, arr, e1, by rw [hk b (by rw [e1]; rfl)]; exact e2, e3⟩
  | dat k =>
    obtain ⟨b, o, e1, e2, e3⟩ := H
    exact ⟨b, o, e1, by rw [hk b e1]; exact e2, e3⟩
  | loop k cs =>
    obtain ⟨l, arr, e1, e2, e3⟩ := H
    exact ⟨l, arr, e1, by rw [hk l (by rw [e1]; rfl)]; exact e2, e3⟩
theorem Sim.putObj {h : Heap} {m : zQ} {st : zG} {w : World} {B : Nat} (o : Obj) (hs : Sim h m st w) (hB : h B = none) (hn : ∀ id row, st id = some row → blk (m id) ≠ some B) : Sim h m st (w.putObj B o) := by
  refine ⟨fun b ob hb => ?_, fun id row hr => (hs.rows id row hr).at_heap fun b hb => World.putObj_heap_other fun e => hn id row hr (e ▸ hb), fun id row b hr hb => ?_, hs.inj⟩
  · rw [World.putObj_heap_other]
    · exact hs.imm b ob hb
    · rintro rfl; rw [hB] at hb; cases hb
  · obtain ⟨k1, k2⟩ := hs.sep id row b hr hb
    exact ⟨k1, by simpa using k2⟩
theorem Since.putObj {h0 h : Heap} {m0 m : zQ} {st0 st : zG} {w0 w : World} {B : Nat} (o : Obj) (s : Since h0 m0 st0 w0 h m st w) (hB : w0.heap.size ≤ B) : Since h0 m0 st0 w0 h m st (w.putObj B o) :=
  ⟨⟨s.foot.os, s.foot.tape, s.foot.output, by simpa using s.foot.size, fun b hb hn => by
    obtain ⟨k1, k2⟩ := s.foot.keep b hb hn
    exact ⟨(World.putObj_heap_other (by omega)).trans k1, k2⟩, s.foot.grow, s.foot.fresh⟩, s.par⟩
theorem zjV {fn : Func} {R : Ending → World → Prop} {nt : Nat} {h0 h : Heap} {m0 m : zQ} {env : Env} {st0 st : zG} {w0 : World}
    (fin : ∀ a w, Conc nt h m env st a w → Since h0 m0 st0 w0 h m st w → ∃ v, (results fn a.tmps).run P w = .ok v w ∧ R (.returned v) w) :
    ∀ (ds : List Deferred) (tmps : Array Value) (w : World), Conc nt h m env st { tmps := tmps, defers := ds } w → Since h0 m0 st0 w0 h m st w → (∀ d ∈ ds, ∃ B, d = { target := .collected B, args := #[] } ∧ w0.heap.size ≤ B) →
      LeavesInM (ROF none) 0 P fn tmps R ds .returning w
  | [], tmps, w, c, s, _ => by
    simp only [LeavesInM, LeavesIn]
    exact fin _ w c s
  | d :: ds, tmps, w, c, s, hn => by
    simp only [LeavesInM]
    refine ⟨by simp, .inl ?_⟩
    obtain ⟨B, e, hB, hh, hr⟩ := c.defers.all d (by simp)
    obtain ⟨B', e', hle⟩ := hn d (by simp)
    obtain rfl : B = B' := by rw [e] at e'; simpa using e'
    refine ⟨B, w.putObj B (.deferred none), by rw [e], run_takeDeferred hB, zjV fin ds tmps _ ⟨c.sim.putObj _ hh hr, c.size, ⟨(List.nodup_cons.1 c.defers.nodup).2, fun d' hd' => ?_⟩, c.env⟩ (s.putObj _ hle) fun d' hd' => hn d' (by simp [hd'])⟩
    obtain ⟨B2, f2, k1, k2, k3⟩ := c.defers.all d' (by simp [hd'])
    refine ⟨B2, f2, ?_, k2, k3⟩
    rw [World.putObj_heap_other]
    · exact k1
    · rintro rfl
      have hdd : d = d' := e.trans f2.symm
      exact (List.nodup_cons.1 c.defers.nodup).1 (hdd ▸ hd')
theorem zeW {f : FuncId} {fn : Func} {c : Code} {args : List AV} {S S' : StL} {r : AV} (hf : P.funcs[f]? = some fn) (hb : fn.body = some c) (hn : args.length ≤ fn.ntmps)
    (H : CodeT P fn.ntmps c (EnvL.get (zaM 0 args)) (StL.get S) (znZ P fn r S')) : Spec P f args S r S' := by
  refine ⟨?_⟩
  intro h m vs w hs hsz hr
  refine zky (ro := none) (n := 0) (callsIn_of_wp_marks hf hb trivial ?_)
  have c0 : Conc fn.ntmps h m (EnvL.get (zaM 0 args)) (StL.get S) { tmps := vs ++ Array.replicate (fn.ntmps - vs.size) undef, defers := [] } w :=
    ⟨hs, by simp; omega, Marks.nil h m _ w, fun t => zdb hr (by simpa using hsz) t (Nat.zero_le _)⟩
  refine wpIn_mono (H.run none (.inl rfl) h m _ w c0) ?_
  rintro e a' w' ⟨env', st', h', m', hq, c', s', n'⟩
  have fin : (zgU P fn env' st' r ∧ ∀ id row, StL.get S' id = some row → st' id = some row) → LeavesInM (ROF none) 0 P fn a'.tmps (fun e w'' => ∃ v h' m', e = .returned v ∧ RepA h' m' v r ∧ Sim h' m' (StL.get S') w'' ∧ Since h m (StL.get S) w h' m' (StL.get S') w'') a'.defers .returning w' := by
    rintro ⟨h1, h2⟩
    refine zjV (h0 := h) (m0 := m) (st0 := StL.get S) (w0 := w) (nt := fn.ntmps) (h := h') (m := m') (env := env') (st := st') (fun a1 w1 c1 s1 => ?_) a'.defers a'.tmps w' c' s' fun d hd => ?_
    · obtain ⟨v, hv, hrep⟩ := h1 _ _ _ _ _ c1
      exact ⟨v, hv, v, h', m', rfl, hrep, ⟨c1.sim.imm, fun id row hr => c1.sim.rows id row (h2 id row hr), fun id row b hr => c1.sim.sep id row b (h2 id row hr), fun id id' r r' b k1 k2 => c1.sim.inj id id' r r' b (h2 _ _ k1) (h2 _ _ k2)⟩, ⟨s1.foot.os, s1.foot.tape, s1.foot.output, s1.foot.size, s1.foot.keep, s1.foot.grow, fun id row b hr => s1.foot.fresh id row b (h2 id row hr)⟩, s1.par⟩
    · rcases n' d hd with h | h
      · cases h
      · exact h
  cases e with
  | normal => exact fin hq
  | ret => exact fin hq
  | exit id => exact hq.elim
  | goto l => exact hq.elim
  | panic ch => exact hq.elim
  | outgrown => exact hq.elim
mutual
def AV.ren (σ : Id → Id) : AV → AV
  | .ref id i sz off => .ref (σ id) i sz off
  | .view id n c => .view (σ id) n c
  | .row id => .row (σ id)
  | .agg cs => .agg (AV.renL σ cs)
  | .tup cs => .tup (AV.renL σ cs)
  | .fn f cs => .fn f (AV.renL σ cs)
  | x => x
def AV.renL (σ : Id → Id) : List AV → List AV
  | [] => []
  | c :: cs => c.ren σ :: AV.renL σ cs
end
theorem yX (σ : Id → Id) : ∀ cs : List AV, (AV.renL σ cs).length = cs.length
  | [] => rfl
  | c :: cs => by simp [AV.renL, yX σ cs]
def Row.ren (σ : Id → Id) : Row → Row
  | .var ty cs => .var ty (AV.renL σ cs)
  | .loop k cs => .loop k (cs.map fun x => (x.1, x.2.ren σ))
  | r => r
def StL.ren (σ : Id → Id) (l : StL) : StL := l.map fun x => (σ x.1, x.2.ren σ)
mutual
def AV.all (p : Id → Bool) : AV → Bool
  | .ref id _ _ _ => p id
  | .view id _ _ => p id
  | .row id => p id
  | .agg cs => AV.allL p cs
  | .tup cs => AV.allL p cs
  | .fn _ cs => AV.allL p cs
  | _ => true
def AV.allL (p : Id → Bool) : List AV → Bool
  | [] => true
  | c :: cs => c.all p && AV.allL p cs
end
def Row.all (p : Id → Bool) : Row → Bool
  | .var _ cs => AV.allL p cs
  | .loop _ cs => cs.all fun x => x.2.all p
  | _ => true
mutual
theorem RepA.ren {h : Heap} {m m' : zQ} {σ : Id → Id} {p : Id → Bool} (hm : ∀ id, p id = true → m' (σ id) = m id) : ∀ {v : Value} {x : AV}, x.all p = true → RepA h m v x → RepA h m' v (x.ren σ)
  | v, .t x, _, H => by simpa [RepA, AV.ren] using H
  | v, .tp e off, _, H => by simpa [RepA, AV.ren] using H
  | v, .ref id i sz off, hc, H => by
    simp only [RepA, AV.ren] at H ⊢
    rw [hm id (by simpa [AV.all] using hc)]; exact H
  | v, .view id n c, hc, H => by
    simp only [RepA, AV.ren] at H ⊢
    rw [hm id (by simpa [AV.all] using hc)]; exact H
  | v, .row id, hc, H => by
    simp only [RepA, AV.ren] at H ⊢
    rw [hm id (by simpa [AV.all] using hc)]; exact H
  | v, .agg cs, hc, H => by
    simp only [RepA, AV.ren] at H ⊢
    obtain ⟨vs, e, hs, hl⟩ := H
    exact ⟨vs, e, by rw [yX]; exact hs, RepAL.ren hm (by simpa [AV.all] using hc) hl⟩
  | v, .tup cs, hc, H => by
    simp only [RepA, AV.ren] at H ⊢
    obtain ⟨vs, e, hs, hl⟩ := H
    exact ⟨vs, e, by rw [yX]; exact hs, RepAs.ren hm (by simpa [AV.all] using hc) hl⟩
  | v, .fn f cs, hc, H => by
    simp only [RepA, AV.ren] at H ⊢
    obtain ⟨vs, e, hs, hl⟩ := H
    exact ⟨vs, e, by rw [yX]; exact hs, RepAs.ren hm (by simpa [AV.all] using hc) hl⟩
  | v, .junk, _, _ => by simp [RepA, AV.ren]
theorem RepAL.ren {h : Heap} {m m' : zQ} {σ : Id → Id} {p : Id → Bool} (hm : ∀ id, p id = true → m' (σ id) = m id) {g : Nat → Option Value} : ∀ {o : Nat} {xs : List AV}, AV.allL p xs = true → RepAL h m g o xs → RepAL h m' g o (AV.renL σ xs)
  | _, [], _, _ => by simp [RepAL, AV.renL]
  | o, x :: xs, hc, H => by
    simp only [RepAL, AV.renL] at H ⊢
    simp only [AV.allL, Bool.and_eq_true] at hc
    obtain ⟨⟨u, h1, h2, h3⟩, h4⟩ := H
    exact ⟨⟨u, h1, h2, RepA.ren hm hc.1 h3⟩, RepAL.ren hm hc.2 h4⟩
theorem RepAs.ren {h : Heap} {m m' : zQ} {σ : Id → Id} {p : Id → Bool} (hm : ∀ id, p id = true → m' (σ id) = m id) {g : Nat → Option Value} : ∀ {o : Nat} {xs : List AV}, AV.allL p xs = true → RepAs h m g o xs → RepAs h m' g o (AV.renL σ xs)
  | _, [], _, _ => by simp [RepAs, AV.renL]
  | o, x :: xs, hc, H => by
    simp only [RepAs, AV.renL] at H ⊢
    simp only [AV.allL, Bool.and_eq_true] at hc
    obtain ⟨⟨u, h1, h3⟩, h4⟩ := H
    exact ⟨⟨u, h1, RepA.ren hm hc.1 h3⟩, RepAs.ren hm hc.2 h4⟩
end
mutual
theorem RepA.unren {h : Heap} {m : zQ} {σ : Id → Id} : ∀ {v : Value} {x : AV}, RepA h m v (x.ren σ) → RepA h (fun id => m (σ id)) v x
  | v, .t x, H => by simpa [RepA, AV.ren] using H
  | v, .tp e off, H => by simpa [RepA, AV.ren] using H
  | v, .ref id i sz off, H => by simpa only [RepA, AV.ren] using H
  | v, .view id n c, H => by simpa only [RepA, AV.ren] using H
  | v, .row id, H => by simpa only [RepA, AV.ren] using H
  | v, .agg cs, H => by
    simp only [RepA, AV.ren, yX] at H ⊢
    obtain ⟨vs, e, hs, hl⟩ := H
    exact ⟨vs, e, hs, RepAL.unren hl⟩
  | v, .tup cs, H => by
    simp only [RepA, AV.ren, yX] at H ⊢
    obtain ⟨vs, e, hs, hl⟩ := H
    exact ⟨vs, e, hs, RepAs.unren hl⟩
  | v, .fn f cs, H => by
    simp only [RepA, AV.ren, yX] at H ⊢
    obtain ⟨vs, e, hs, hl⟩ := H
    exact ⟨vs, e, hs, RepAs.unren hl⟩
  | v, .junk, _ => by simp [RepA]
theorem RepAL.unren {h : Heap} {m : zQ} {σ : Id → Id} {g : Nat → Option Value} : ∀ {o : Nat} {xs : List AV}, RepAL h m g o (AV.renL σ xs) → RepAL h (fun id => m (σ id)) g o xs
  | _, [], _ => by simp [RepAL]
  | o, x :: xs, H => by
    simp only [RepAL, AV.renL] at H ⊢
    obtain ⟨⟨u, h1, h2, h3⟩, h4⟩ := H
    exact ⟨⟨u, h1, h2, RepA.unren h3⟩, RepAL.unren h4⟩
theorem RepAs.unren {h : Heap} {m : zQ} {σ : Id → Id} {g : Nat → Option Value} : ∀ {o : Nat} {xs : List AV}, RepAs h m g o (AV.renL σ xs) → RepAs h (fun id => m (σ id)) g o xs
  | _, [], _ => by simp [RepAs]
  | o, x :: xs, H => by
    simp only [RepAs, AV.renL] at H ⊢
    obtain ⟨⟨u, h1, h3⟩, h4⟩ := H
    exact ⟨⟨u, h1, RepA.unren h3⟩, RepAs.unren h4⟩
end
theorem StL.get_ren {σ : Id → Id} : ∀ {l : StL} {x : Id} {row : Row}, StL.get (l.ren σ) x = some row → ∃ k row0, StL.get l k = some row0 ∧ σ k = x ∧ row = row0.ren σ
  | [], _, _, h => by simp [StL.ren, StL.get] at h
  | (i, r) :: l, x, row, h => by
    simp only [StL.ren, List.map_cons, StL.get] at h
    by_cases e : σ i = x
    · rw [if_pos e] at h
      cases h
      exact ⟨i, r, by simp [StL.get], e, rfl⟩
    · rw [if_neg e] at h
      obtain ⟨k, row0, h1, h2, h3⟩ := StL.get_ren (l := l) h
      refine ⟨k, row0, ?_, h2, h3⟩
      simp only [StL.get]
      rw [if_neg]
      · exact h1
      · intro e'; subst e'; exact e h2
theorem StL.ren_get {σ : Id → Id} {L : List Id} (inj : ∀ i ∈ L, ∀ j ∈ L, σ i = σ j → i = j) : ∀ {l : StL} {k : Id} {row : Row}, (∀ i ∈ l.ids, i ∈ L) → StL.get l k = some row → StL.get (l.ren σ) (σ k) = some (row.ren σ)
  | [], _, _, _, h => by simp [StL.get] at h
  | (i, r) :: l, k, row, hL, h => by
    simp only [StL.get] at h
    simp only [StL.ren, List.map_cons, StL.get]
    by_cases e : i = k
    · subst e
      rw [if_pos rfl] at h
      cases h
      simp
    · rw [if_neg e] at h
      have hk : k ∈ L := hL k (by simp [StL.ids]; right; simpa [StL.ids] using StL.mem_ids h)
      rw [if_neg fun e' => e (inj i (hL i (by simp [StL.ids])) k hk e')]
      exact StL.ren_get inj (l := l) (fun j hj => hL j (by simp [StL.ids] at hj ⊢; exact .inr hj)) h
def xq : List (Id × Id) → Id → Id
  | [], id => id
  | (a, b) :: l, id => if a = id then b else xq l id
def xd : Id → Bool
  | .res _ => true
  | _ => false
def vn : Id → Bool
  | .par _ => true
  | _ => false
def x8 (σ : Id → Id) (x : Id) : List Id → Option Id
  | [] => none
  | k :: ks => if xd k = true ∧ σ k = x then some k else x8 σ x ks
theorem vw {σ : Id → Id} {x k : Id} : ∀ {ks : List Id}, x8 σ x ks = some k → k ∈ ks ∧ xd k = true ∧ σ k = x
  | [], h => by simp [x8] at h
  | j :: ks, h => by
    simp only [x8] at h
    split at h
    · rename_i e; cases h; exact ⟨by simp, e.1, e.2⟩
    · obtain ⟨h1, h2⟩ := vw h; exact ⟨by simp [h1], h2⟩
theorem zaP {σ : Id → Id} {x k : Id} : ∀ {ks : List Id}, x8 σ x ks = none → k ∈ ks → xd k = true → σ k ≠ x
  | [], _, hk, _ => by cases hk
  | j :: ks, h, hk, hr => by
    simp only [x8] at h
    split at h
    · cases h
    · rename_i e
      rcases List.mem_cons.1 hk with rfl | hk
      · exact fun he => e ⟨hr, he⟩
      · exact zaP h hk hr
structure CallOK (S S' : StL) (r : AV) (σ : Id → Id) : Prop where
  inj : ∀ i ∈ S.ids ++ S'.ids, ∀ j ∈ S.ids ++ S'.ids, σ i = σ j → i = j
  apar : ∀ k, k ∈ S'.ids → xd k = true → ∀ p, vn p = true → σ k ≠ σ p
  cr : r.all (fun id => vn id || (xd id && S'.ids.contains id)) = true
  crows : ∀ x, x ∈ S' → x.2.all (fun id => vn id || (xd id && S'.ids.contains id)) = true
  ids : ∀ k, k ∈ S'.ids → vn k = true ∨ xd k = true
theorem StL.get_mem : ∀ {l : StL} {id : Id} {row : Row}, StL.get l id = some row → (id, row) ∈ l
  | [], _, _, h => by simp [StL.get] at h
  | (i, r) :: l, id, row, h => by
    simp only [StL.get] at h
    split at h
    · rename_i e; subst e; cases h; simp
    · exact List.mem_cons_of_mem _ (StL.get_mem h)
theorem zfe {S S' : StL} {r : AV} {σ : Id → Id} (ok : CallOK S S' r σ) {h : Heap} {m : zQ} {w : World} (hs : Sim h m (StL.get (S.ren σ)) w) :
    Sim h (fun id => m (σ id)) (StL.get S) w ∧ ∀ {v : Value} {h' : Heap} {m' : zQ} {w' : World}, RepA h' m' v r → Sim h' m' (StL.get S') w' → Since h (fun id => m (σ id)) (StL.get S) w h' m' (StL.get S') w' →
      ∃ m'', RepA h' m'' v (r.ren σ) ∧ Sim h' m'' (StL.get (S'.ren σ)) w' ∧ Foot h m (StL.get (S.ren σ)) w h' m'' (StL.get (S'.ren σ)) w' ∧ ∀ id, id ∉ ((S'.ids.filter xd).map σ) → m'' id = m id := by
  have hS : ∀ k row, StL.get S k = some row → StL.get (S.ren σ) (σ k) = some (row.ren σ) := fun k row hk => StL.ren_get ok.inj (fun i hi => List.mem_append_left _ hi) hk
  have hS' : ∀ k row, StL.get S' k = some row → StL.get (S'.ren σ) (σ k) = some (row.ren σ) := fun k row hk => StL.ren_get ok.inj (fun i hi => List.mem_append_right _ hi) hk
  have hs0 : Sim h (fun id => m (σ id)) (StL.get S) w := by
    refine ⟨hs.imm, fun k row hk => ?_, fun k row b hk hb => hs.sep (σ k) _ b (hS k row hk) hb, fun k k' r r' b h1 h2 h3 h4 => ?_⟩
    · have := hs.rows _ _ (hS k row hk)
      cases row with
      | var ty cs =>
        obtain ⟨b, arr, e1, e2, e3, e4⟩ := this
        rw [yX] at e3
        exact ⟨b, arr, e1, e2, e3, RepAL.unren e4⟩
      | slt e sz es => exact this
      | arr ty sz es => exact this
      | dat k => exact this
      | loop k cs =>
        obtain ⟨l, arr, e1, e2, e3, e4⟩ := this
        exact ⟨l, arr, e1, e2, e3, fun x hx => RepA.unren (e4 (x.1, x.2.ren σ) (List.mem_map_of_mem (f := fun x : Nat × AV => (x.1, x.2.ren σ)) hx))⟩
    · exact ok.inj k (List.mem_append_left _ (StL.mem_ids h1)) k' (List.mem_append_left _ (StL.mem_ids h2)) (hs.inj _ _ _ _ b (hS k r h1) (hS k' r' h2) h3 h4)
  refine ⟨hs0, ?_⟩
  intro v h' m' w' hv hsim hsince
  have hpar : ∀ p, vn p = true → m' p = m (σ p) := fun p hp => by
    cases p with
    | par k => exact hsince.par k
    | _ => simp [vn] at hp
  let m'' : zQ := fun x => match x8 σ x S'.ids with
    | some k => m' k
    | none => m x
  have hm''par : ∀ p, vn p = true → m'' (σ p) = m' p := fun p hp => by
    rw [hpar p hp]
    show (match x8 σ (σ p) S'.ids with | some k => m' k | none => m (σ p)) = m (σ p)
    cases e : x8 σ (σ p) S'.ids with
    | none => rfl
    | some k =>
      obtain ⟨h1, h2, h3⟩ := vw e
      exact absurd h3 (ok.apar k h1 h2 p hp)
  have hm''res : ∀ k, k ∈ S'.ids → xd k = true → m'' (σ k) = m' k := fun k hk hr => by
    show (match x8 σ (σ k) S'.ids with | some k => m' k | none => m (σ k)) = m' k
    cases e : x8 σ (σ k) S'.ids with
    | none => exact absurd rfl (zaP e hk hr)
    | some j =>
      obtain ⟨h1, h2, h3⟩ := vw e
      have := ok.inj j (List.mem_append_right _ h1) k (List.mem_append_right _ hk) h3
      subst this
      rfl
  have hm'' : ∀ id, (vn id || (xd id && S'.ids.contains id)) = true → m'' (σ id) = m' id := fun id hid => by
    simp only [Bool.or_eq_true, Bool.and_eq_true] at hid
    rcases hid with hid | ⟨h1, h2⟩
    · exact hm''par id hid
    · exact hm''res id (by simpa using h2) h1
  have hmem : ∀ k, k ∈ S'.ids → m'' (σ k) = m' k := fun k hk => by
    rcases ok.ids k hk with h | h
    · exact hm''par k h
    · exact hm''res k hk h
  refine ⟨m'', RepA.ren hm'' ok.cr hv, ⟨hsim.imm, ?_, ?_, ?_⟩, ⟨hsince.foot.os, hsince.foot.tape, hsince.foot.output, hsince.foot.size, ?_, hsince.foot.grow, ?_⟩, ?_⟩
  · intro x row hx
    obtain ⟨k, row0, h1, rfl, rfl⟩ := StL.get_ren hx
    have hk := StL.mem_ids h1
    have := hsim.rows k row0 h1
    cases row0 with
    | var ty cs =>
      obtain ⟨b, arr, e1, e2, e3, e4⟩ := this
      refine ⟨b, arr, by rw [hmem k hk]; exact e1, e2, by rw [yX]; exact e3, RepAL.ren hm'' ?_ e4⟩
      have := ok.crows _ (StL.get_mem h1)
      simpa [Row.all] using this
    | slt e sz es =>
      obtain ⟨xs, h2, h3⟩ := this
      exact ⟨xs, by rw [hmem k hk]; exact h2, h3⟩
    | arr ty sz es =>
      obtain ⟨b, arr, e1, e2, e3, e4⟩ := this
      exact ⟨b, arr, by rw [hmem k hk]; exact e1, e2, e3, e4⟩
    | dat kk =>
      obtain ⟨b, o, e1, e2, e3⟩ := this
      exact ⟨b, o, by rw [hmem k hk]; exact e1, e2, by rw [hmem k hk]; exact e3⟩
    | loop kk cs =>
      obtain ⟨l, arr, e1, e2, e3, e4⟩ := this
      refine ⟨l, arr, by rw [hmem k hk]; exact e1, e2, e3, fun x hx => ?_⟩
      obtain ⟨x0, hx0, rfl⟩ := List.mem_map.1 hx
      have := ok.crows _ (StL.get_mem h1)
      simp only [Row.all, List.all_eq_true] at this
      exact RepA.ren hm'' (this x0 hx0) (e4 x0 hx0)
  · intro x row b hx hb
    obtain ⟨k, row0, h1, rfl, rfl⟩ := StL.get_ren hx
    rw [hmem k (StL.mem_ids h1)] at hb
    exact hsim.sep k row0 b h1 hb
  · intro x x' r1 r2 b hx hx' hb hb'
    obtain ⟨k, row0, h1, rfl, rfl⟩ := StL.get_ren hx
    obtain ⟨k', row0', h1', rfl, rfl⟩ := StL.get_ren hx'
    rw [hmem k (StL.mem_ids h1)] at hb
    rw [hmem k' (StL.mem_ids h1')] at hb'
    rw [hsim.inj k k' _ _ b h1 h1' hb hb']
  · intro b hb hn
    exact hsince.foot.keep b hb fun k row hk => hn (σ k) _ (hS k row hk)
  · intro x row b hx hb
    obtain ⟨k, row0, h1, rfl, rfl⟩ := StL.get_ren hx
    rw [hmem k (StL.mem_ids h1)] at hb
    rcases hsince.foot.fresh k row0 b h1 hb with h | ⟨k0, r0, h2, h3⟩
    · exact .inl h
    · exact .inr ⟨σ k0, _, hS k0 r0 h2, h3⟩
  · intro id hid
    show (match x8 σ id S'.ids with | some k => m' k | none => m id) = m id
    cases e : x8 σ id S'.ids with
    | none => rfl
    | some k =>
      obtain ⟨h1, h2, h3⟩ := vw e
      refine absurd ?_ hid
      rw [List.mem_map]
      exact ⟨k, List.mem_filter.2 ⟨h1, h2⟩, h3⟩
theorem zdV {f : FuncId} {args : List AV} {S S' : StL} {r : AV} {σ : Id → Id} (H : Spec P f args S r S') (ok : CallOK S S' r σ) {h : Heap} {m : zQ} {vs : Array Value} {w : World}
    (hs : Sim h m (StL.get (S.ren σ)) w) (hsz : vs.size = args.length) (hr : RepAs h m (fun j => vs[j]?) 0 (AV.renL σ args)) :
    Calls P f vs w fun e w' => ∃ v h' m', e = .returned v ∧ RepA h' m' v (r.ren σ) ∧ Sim h' m' (StL.get (S'.ren σ)) w' ∧ Foot h m (StL.get (S.ren σ)) w h' m' (StL.get (S'.ren σ)) w' ∧ ∀ id, id ∉ ((S'.ids.filter xd).map σ) → m' id = m id := by
  obtain ⟨hs0, k⟩ := zfe ok hs
  refine (H.run h (fun id => m (σ id)) vs w hs0 hsz (RepAs.unren hr)).mono ?_
  rintro e w' ⟨v, h', m', he, hv, hsim, hsince⟩
  obtain ⟨m'', k1, k2, k3, k4⟩ := k hv hsim hsince
  exact ⟨v, h', m'', he, k1, k2, k3, k4⟩
def zkl (P : Program) (g : FuncId) : Prop := ∃ fn, P.funcs[g]? = some fn ∧ (fn.name == "runtime.NumGoroutine") = false ∧ fn.body.isNone = false
theorem zaB {g : FuncId} (hb : zkl P g) (args : Array Value) (w : World) : (callFunc g args).run P w = .ok (.enter g args) w := by
  obtain ⟨fn, h1, h2, h3⟩ := hb
  simp only [callFunc, Sem.run_bind, run_program, Result.andThen_ok, h1, h2, h3]
  rfl
end
end Go.AL
set_option linter.unusedSimpArgs false
namespace Go.AL
open Go Go.RowKit
class TyU (P : Program) (t : TypeId) (d : outParam TypeDesc) : Prop where
  h : P.underlying t = some d
class TyI (P : Program) (t : TypeId) (size bytes : outParam Nat) (zero : outParam Value) : Prop where
  h : (P.info? t).map (fun i => (i.size, i.bytes, i.zero)) = some (size, bytes, some zero)
class FnB (P : Program) (g : FuncId) : Prop where
  h : zkl P g
theorem TyI.get {P : Program} {t : TypeId} {size bytes : Nat} {zero : Value} (h : TyI P t size bytes zero) : ∃ i, P.info? t = some i ∧ i.size = size ∧ i.bytes = bytes ∧ i.zero = some zero := by
  obtain ⟨i, h1, h2⟩ := Option.map_eq_some_iff.1 h.h
  simp only [Prod.mk.injEq] at h2
  exact ⟨i, h1, h2.1, h2.2.1, h2.2.2⟩
def xk : TypeDesc → Bool
  | .struct _ => true
  | .array _ _ => true
  | _ => false
section
variable {P : Program} {o : Oper} {ρ : Operand → AV} {h : Heap} {m : zQ} {w : World}
theorem qg {R : zG} (hs : Sim h m R w) {b o : Nat} {u : Value} (hc : hcell h b o = some u) : w.cell? ⟨b, o, none⟩ = some u := by
  unfold hcell at hc
  unfold World.cell?
  cases hb : h b with
  | none => simp [hb] at hc
  | some ob =>
    rw [hs.imm b ob hb]
    rw [hb] at hc
    cases ob <;> simp at hc ⊢
    exact hc
theorem wu (b o j : Nat) : (⟨b, o, none⟩ : Addr).add j = ⟨b, o + j, none⟩ := by unfold Addr.add; split <;> simp_all
theorem y4 {t : TypeId} {size bytes : Nat} {zero : Value} (ti : TyI P t size bytes zero) : (sizeOf t).run P w = .ok size w := by
  obtain ⟨i, h1, h2, _⟩ := ti.get
  simp [sizeOf, typeInfo, h1, h2]
theorem yv {t : TypeId} {size bytes : Nat} {zero : Value} (ti : TyI P t size bytes zero) : (zeroValue t).run P w = .ok zero w := by
  obtain ⟨i, h1, h2, h3, h4⟩ := ti.get
  simp [zeroValue, typeInfo, h1, h4]
theorem wQ {t : TypeId} {d : TypeDesc} (tu : TyU P t d) : (isAgg t).run P w = .ok (xk d) w := by
  simp [isAgg, run_underlying tu.h]
  cases d <;> simp [xk]
theorem vm {t : TypeId} {d : TypeDesc} (tu : TyU P t d) (hd : xk d = false) {a : Addr} {v : Value} (hc : w.cell? a = some v) : (loadVar t a).run P w = .ok v w := by
  simp [loadVar, wQ tu, hd, hc]
theorem vi {t : TypeId} {d : TypeDesc} (tu : TyU P t d) (hd : xk d = true) {size bytes : Nat} {zero : Value} (ti : TyI P t size bytes zero) {a : Addr} {vs : List Value} (hl : vs.length = size) (hc : ∀ j v, vs[j]? = some v → w.cell? (a.add j) = some v) :
    (loadVar t a).run P w = .ok (.agg vs.toArray) w := by
  have := run_loadCells_list (P := P) w a vs hc
  rw [hl] at this
  simp [loadVar, wQ tu, hd, y4 ti, this]
theorem xX {R : StL} {r : AV} (H : ∀ h m (a : Act) w, Sim h m (StL.get R) w → (∀ x ∈ o.op.operands, RepA h m (a.eval x) (ρ x)) → ∃ v, (execOp a.eval o).run P w = .ok (.value v) w ∧ RepA h m v r) : OpT P o ρ (StL.get R) r (StL.get R) [] := by
  refine OpT.of ?_
  intro h m a w hs hr K Q hK
  obtain ⟨v, h1, h2⟩ := H h m a w hs hr
  unfold Oper.wp
  rw [h1]
  exact hK v h m w h2 hs (Foot.refl _ _ _ _) fun _ _ => rfl
theorem zY {r : AV} (H : ∀ h m (a : Act) w, (∀ b ob, h b = some ob → w.heap[b]? = some ob) → (∀ x ∈ o.op.operands, RepA h m (a.eval x) (ρ x)) → ∃ v, (execOp a.eval o).run P w = .ok (.value v) w ∧ RepA h m v r) : OpT P o ρ (StL.get []) r (StL.get []) [] :=
  xX (R := []) fun h m a w hs hr => H h m a w hs.imm hr
theorem zlq {x : Operand} (ho : o.op = .move x) : OpT P o ρ (StL.get []) (ρ x) (StL.get []) [] :=
  zY fun h m a w _ hr => ⟨a.eval x, by simp [execOp, ho], hr x (by simp [ho, Op.operands])⟩
theorem zid {x : Operand} (ho : o.op = .assign x) : OpT P o ρ (StL.get []) (ρ x) (StL.get []) [] :=
  zY fun h m a w _ hr => ⟨a.eval x, by simp [execOp, ho], hr x (by simp [ho, Op.operands])⟩
theorem zhU {c x y : Operand} {b : Bool} (ho : o.op = .pick c x y) (hc : ρ c = .t (.bool b)) : OpT P o ρ (StL.get []) (if b then ρ x else ρ y) (StL.get []) [] :=
  zY fun h m a w _ hr => by
    have h1 := hr c (by simp [ho, Op.operands])
    rw [hc] at h1
    simp only [RepA, RepT] at h1
    cases b with
    | true => exact ⟨a.eval x, by simp [execOp, ho, h1, asBool], hr x (by simp [ho, Op.operands])⟩
    | false => exact ⟨a.eval y, by simp [execOp, ho, h1, asBool], hr y (by simp [ho, Op.operands])⟩
def AV.boxable : AV → Bool
  | .junk => false
  | .tup _ => false
  | _ => true
theorem zik {t : T} (ht : t.isAgg = false) {v : Value} (H : RepT h v t) : v.oneCell' = true := by
  cases t <;> simp [T.isAgg] at ht <;> simp only [RepT] at H
  case sl sz es => obtain ⟨A, n, c, rfl, _⟩ := H; rfl
  case esl => obtain ⟨A, c, rfl, _⟩ := H; rfl
  case iface => obtain ⟨t, u, rfl⟩ := H; rfl
  case slq sz es => obtain ⟨A, n, rfl, _⟩ := H; rfl
  all_goals (subst H; rfl)
theorem ku {g : Nat → Option Value} : ∀ {ts : List T} {o : Nat}, RepL h g o ts → RepAL h m g o (ts.map AV.t)
  | [], _, _ => by simp [RepAL]
  | t :: ts, o, H => by
    simp only [RepL] at H
    simp only [List.map_cons, RepAL, RepA]
    exact ⟨H.1, ku H.2⟩
theorem zdl {g g' : Nat → Option Value} (hg : ∀ j u, g j = some u → g' j = some u) {o : Nat} {ts : List T} (H : RepL h g o ts) : RepL h g' o ts := RepL.mono (fun _ _ hu => hu) hg H
theorem vR : ∀ xs : List AV, AV.cleanL [] xs = true ∧ True := by
  intro xs
  exact ⟨by
    have key : (∀ x : AV, x.clean [] = true) := by
      intro x
      induction x using AV.rec (motive_2 := fun xs => AV.cleanL [] xs = true) with
      | t x => rfl
      | tp e off => rfl
      | ref id i sz off => simp [AV.clean]
      | view id n c => simp [AV.clean]
      | row id => simp [AV.clean]
      | agg cs ih => simpa [AV.clean] using ih
      | tup cs ih => simpa [AV.clean] using ih
      | fn f cs ih => simpa [AV.clean] using ih
      | junk => rfl
      | nil => rfl
      | cons x xs h1 h2 => simp [AV.cleanL, h1, h2]
    induction xs with
    | nil => rfl
    | cons x xs ih => simp [AV.cleanL, key x, ih], trivial⟩
theorem zgv {g g' : Nat → Option Value} (hg : ∀ j u, g j = some u → g' j = some u) {o : Nat} {ts : List AV} (H : RepAL h m g o ts) : RepAL h m g' o ts := RepAL.mono (N := []) (fun _ _ hu => hu) (fun _ _ => rfl) hg (vR ts).1 H
theorem qt {g g' : Nat → Option Value} {d : Nat} (hg : ∀ j u, g j = some u → g' (j + d) = some u) : ∀ {ts : List AV} {o : Nat}, RepAL h m g o ts → RepAL h m g' (o + d) ts
  | [], _, _ => by simp [RepAL]
  | t :: ts, o, H => by
    simp only [RepAL] at H ⊢
    obtain ⟨⟨u, h1, h2, h3⟩, h4⟩ := H
    exact ⟨⟨u, hg _ _ h1, h2, h3⟩, by rw [show o + d + 1 = o + 1 + d from by omega]; exact qt hg h4⟩
theorem zak {g g' : Nat → Option Value} {d : Nat} (hg : ∀ j u, g j = some u → g' (j + d) = some u) : ∀ {ts : List T} {o : Nat}, RepL h g o ts → RepL h g' (o + d) ts
  | [], _, _ => by simp [RepL]
  | t :: ts, o, H => by
    simp only [RepL] at H ⊢
    obtain ⟨⟨u, h1, h2, h3⟩, h4⟩ := H
    exact ⟨⟨u, hg _ _ h1, h2, h3⟩, by rw [show o + d + 1 = o + 1 + d from by omega]; exact zak hg h4⟩
theorem zbw {v : Value} {x : AV} (hb : x.boxable = true) (H : RepA h m v x) : v.cells.size = x.cells.length ∧ RepAL h m (fun j => v.cells[j]?) 0 x.cells := by
  have one : ∀ {y : AV}, v.oneCell' = true → RepA h m v y → (#[v] : Array Value).size = [y].length ∧ RepAL h m (fun j => (#[v] : Array Value)[j]?) 0 [y] := fun h1 h2 => by
    simp [RepAL, h1, h2]
  have vone : v.oneCell' = true → v.cells = #[v] := fun h1 => by cases v <;> simp [Value.oneCell'] at h1 <;> rfl
  cases x with
  | t x =>
    simp only [RepA] at H
    cases x with
    | agg cs =>
      simp only [RepT] at H
      obtain ⟨vs, rfl, h1, h2⟩ := H
      simp only [Value.cells, AV.cells]
      exact ⟨by simpa using h1, ku h2⟩
    | _ =>
      all_goals
        have h1 := zik (by rfl) H
        rw [vone h1]
        exact one h1 (by simpa [RepA] using H)
  | tp e off =>
    have h1 : v.oneCell' = true := by simp only [RepA] at H; obtain ⟨b, o, rfl, _⟩ := H; rfl
    rw [vone h1]; exact one h1 H
  | ref id i sz off =>
    have h1 : v.oneCell' = true := by simp only [RepA] at H; obtain ⟨b, _, rfl⟩ := H; rfl
    rw [vone h1]; exact one h1 H
  | view id n c =>
    have h1 : v.oneCell' = true := by simp only [RepA] at H; obtain ⟨b, _, rfl⟩ := H; rfl
    rw [vone h1]; exact one h1 H
  | row id =>
    have h1 : v.oneCell' = true := by simp only [RepA] at H; exact H.2
    rw [vone h1]; exact one h1 H
  | agg cs =>
    simp only [RepA] at H
    obtain ⟨vs, rfl, h1, h2⟩ := H
    exact ⟨h1, h2⟩
  | tup cs => simp [AV.boxable] at hb
  | fn f cs =>
    have h1 : v.oneCell' = true := by simp only [RepA] at H; obtain ⟨vs, rfl, _⟩ := H; rfl
    rw [vone h1]; exact one h1 H
  | junk => simp [AV.boxable] at hb
end
end Go.AL
set_option linter.unusedSimpArgs false
namespace Go.AL
open Go Go.RowKit
section
variable {P : Program} {o : Oper} {ρ : Operand → AV} {h : Heap} {m : zQ} {w : World}
def toTs : List AV → Option (List T)
  | [] => some []
  | .t x :: l => match toTs l with
    | some ts => some (x :: ts)
    | none => none
  | _ :: _ => none
def zcN (cs : List AV) : AV := match toTs cs with
  | some ts => .t (.agg ts)
  | none => .agg cs
theorem zfH : ∀ {cs : List AV} {ts : List T}, toTs cs = some ts → cs = ts.map AV.t
  | [], ts, e => by simp [toTs] at e; simp [e]
  | .t x :: l, ts, e => by
    simp only [toTs] at e
    split at e
    · rename_i ts' e'; cases e; simp [zfH e']
    · cases e
  | .tp .. :: _, _, e => by simp [toTs] at e
  | .ref .. :: _, _, e => by simp [toTs] at e
  | .view .. :: _, _, e => by simp [toTs] at e
  | .row .. :: _, _, e => by simp [toTs] at e
  | .agg .. :: _, _, e => by simp [toTs] at e
  | .tup .. :: _, _, e => by simp [toTs] at e
  | .fn .. :: _, _, e => by simp [toTs] at e
  | .junk :: _, _, e => by simp [toTs] at e
theorem kr {g : Nat → Option Value} : ∀ {ts : List T} {o : Nat}, RepAL h m g o (ts.map AV.t) → RepL h g o ts
  | [], _, _ => by simp [RepL]
  | t :: ts, o, H => by
    simp only [List.map_cons, RepAL, RepA] at H
    simp only [RepL]
    exact ⟨H.1, kr H.2⟩
theorem jD {vs : Array Value} {cs : List AV} (hs : vs.size = cs.length) (H : RepAL h m (fun j => vs[j]?) 0 cs) : RepA h m (.agg vs) (zcN cs) := by
  unfold zcN
  cases e : toTs cs with
  | none => exact ⟨vs, rfl, hs, H⟩
  | some ts =>
    have := zfH e
    subst this
    exact ⟨vs, rfl, by simpa using hs, kr H⟩
theorem zfA {g : Nat → Option Value} : ∀ {xs : List AV} {o j : Nat} {x : AV}, RepAL h m g o xs → xs[j]? = some x → ∃ u, g (o + j) = some u ∧ u.oneCell' = true ∧ RepA h m u x
  | [], _, _, _, _, hx => by simp at hx
  | y :: ys, o, j, x, H, hx => by
    simp only [RepAL] at H
    cases j with
    | zero => simp at hx; subst hx; exact H.1
    | succ j =>
      simp at hx
      have := zfA H.2 hx
      rwa [show o + 1 + j = o + (j + 1) from by omega] at this
theorem zep {g : Nat → Option Value} : ∀ {xs : List T} {o j : Nat} {x : T}, RepL h g o xs → xs[j]? = some x → ∃ u, g (o + j) = some u ∧ u.oneCell' = true ∧ RepT h u x
  | [], _, _, _, _, hx => by simp at hx
  | y :: ys, o, j, x, H, hx => by
    simp only [RepL] at H
    cases j with
    | zero => simp at hx; subst hx; exact H.1
    | succ j =>
      simp at hx
      have := zep H.2 hx
      rwa [show o + 1 + j = o + (j + 1) from by omega] at this
theorem wv {g : Nat → Option Value} {sz : Nat} : ∀ {es : List T} {o i : Nat} {e : T}, RepEs h g o sz es → es[i]? = some e → e.cells.length = sz ∧ RepL h g (o + i * sz) e.cells
  | [], _, _, _, _, hx => by simp at hx
  | y :: ys, o, i, e, H, hx => by
    rw [yU] at H
    cases i with
    | zero => simp at hx; subst hx; simpa using H.1
    | succ i =>
      simp at hx
      have := wv H.2 hx
      rwa [show o + sz + i * sz = o + (i + 1) * sz from by rw [Nat.add_mul]; omega] at this
theorem kl {g : Nat → Option Value} : ∀ {xs : List AV} {o k : Nat}, RepAL h m g o xs → RepAL h m g (o + k) (xs.drop k)
  | [], _, _, _ => by simp [RepAL]
  | x :: xs, o, 0, H => by simpa using H
  | x :: xs, o, k + 1, H => by
    simp only [RepAL] at H
    have := kl (k := k) H.2
    rwa [show o + 1 + k = o + (k + 1) from by omega] at this
theorem kh {g : Nat → Option Value} : ∀ {xs : List AV} {o k : Nat}, RepAL h m g o xs → RepAL h m g o (xs.take k)
  | [], _, _, _ => by simp [RepAL]
  | x :: xs, o, 0, H => by simp [RepAL]
  | x :: xs, o, k + 1, H => by
    simp only [RepAL, List.take_succ_cons] at H ⊢
    exact ⟨H.1, kh H.2⟩
theorem qr {g : Nat → Option Value} : ∀ {xs : List AV} {o : Nat}, RepAL h m g o xs → ∃ vs : List Value, vs.length = xs.length ∧ (∀ j v, vs[j]? = some v → g (o + j) = some v) ∧ RepAL h m (fun j => vs[j]?) 0 xs
  | [], o, _ => ⟨[], rfl, by simp, by simp [RepAL]⟩
  | x :: xs, o, H => by
    simp only [RepAL] at H
    obtain ⟨⟨u, h1, h2, h3⟩, h4⟩ := H
    obtain ⟨vs, k1, k2, k3⟩ := qr h4
    refine ⟨u :: vs, by simp [k1], fun j v hv => ?_, ⟨⟨u, by simp, h2, h3⟩, ?_⟩⟩
    · cases j with
      | zero => simp at hv; subst hv; exact h1
      | succ j =>
        simp at hv
        have := k2 j v hv
        rwa [show o + 1 + j = o + (j + 1) from by omega] at this
    · exact qt (d := 1) (fun j u hu => by simpa using hu) k3
theorem zdo {g : Nat → Option Value} {xs : List T} {o : Nat} (H : RepL h g o xs) : ∃ vs : List Value, vs.length = xs.length ∧ (∀ j v, vs[j]? = some v → g (o + j) = some v) ∧ RepL h (fun j => vs[j]?) 0 xs := by
  obtain ⟨vs, k1, k2, k3⟩ := qr (m := fun _ => undef) (ku H)
  exact ⟨vs, by simpa using k1, k2, kr k3⟩
def zV (m : zQ) (id : Id) (v : Value) : zQ := fun x => if x = id then v else m x
theorem zu (m : zQ) (id : Id) (v : Value) : zV m id v id = v := by simp [zV]
theorem zU {m : zQ} {id x : Id} {v : Value} (hx : x ∉ [id]) : zV m id v x = m x := by simp at hx; simp [zV, hx]
structure Made1 (w w' : World) : Prop where
  os : w'.os = w.os
  tape : w'.tape = w.tape
  output : w'.output = w.output
  size : w'.heap.size = w.heap.size + 1
  old : ∀ b, b < w.heap.size → w'.heap[b]? = w.heap[b]?
theorem vj (w : World) (ob : Obj) : Made1 w (w.alloc ob) := ⟨rfl, rfl, rfl, by simp, fun b hb => heap_alloc_old w ob hb⟩
theorem zaf {w' : World} (himm : ∀ b ob, h b = some ob → w.heap[b]? = some ob) (hm : Made1 w w') {id : Id} {v : Value} (hb : blk v = some w.heap.size) {row : Row} (hrow : SimRow h (zV m id v) w' id row) :
    Sim h (zV m id v) (StL.get [(id, row)]) w' ∧ Foot h m (StL.get []) w h (zV m id v) (StL.get [(id, row)]) w' := by
  have one : ∀ x r, StL.get [(id, row)] x = some r → x = id ∧ r = row := fun x r hx => by
    simp only [StL.get] at hx
    split at hx
    · rename_i e; cases hx; exact ⟨e.symm, rfl⟩
    · cases hx
  have himm' : ∀ b ob, h b = some ob → w'.heap[b]? = some ob := fun b ob hb' => by
    have := himm b ob hb'
    have hlt : b < w.heap.size := (Array.getElem?_eq_some_iff.1 this).1
    rw [hm.old b hlt]; exact this
  refine ⟨⟨himm', ?_, ?_, ?_⟩, ⟨hm.os, hm.tape, hm.output, by rw [hm.size]; omega, fun b hb _ => ⟨hm.old b hb, rfl⟩, fun _ _ hu => hu, ?_⟩⟩
  · intro x r hx
    obtain ⟨rfl, rfl⟩ := one x r hx
    exact hrow
  · intro x r b hx hb'
    obtain ⟨rfl, rfl⟩ := one x r hx
    rw [zu, hb] at hb'
    cases hb'
    refine ⟨?_, by rw [hm.size]; omega⟩
    cases e : h w.heap.size with
    | none => rfl
    | some ob =>
      have := himm _ _ e
      have := (Array.getElem?_eq_some_iff.1 this).1
      omega
  · intro x x' r r' b hx hx' _ _
    rw [(one x r hx).1, (one x' r' hx').1]
  · intro x r b hx hb'
    obtain ⟨rfl, rfl⟩ := one x r hx
    rw [zu, hb] at hb'
    cases hb'
    exact .inl (Nat.le_refl _)
theorem vk (w : World) (ob : Obj) : (w.alloc ob).heap[w.heap.size]? = some ob := heap_alloc_new w ob
theorem zgP {m' : zQ} {g : Nat → Option Value} {N : List Id} {o : Nat} {xs : List AV} (hm : ∀ id, id ∉ N → m' id = m id) (hc : AV.cleanL N xs = true) (H : RepAL h m g o xs) : RepAL h m' g o xs :=
  RepAL.mono (fun _ _ hu => hu) hm (fun _ _ hu => hu) hc H
theorem zmG {ty : TypeId} {x : Operand} (id : Id) (ho : o.op = .box ty x) (hb : (ρ x).boxable = true) (hc : AV.cleanL [id] (ρ x).cells = true) :
    OpT P o ρ (StL.get []) (.ref id 0 0 0) (StL.get [(id, .var ty (ρ x).cells)]) [id] := by
  refine OpT.of ?_
  intro h m a w hs hr K Q hK
  have hx := hr x (by simp [ho, Op.operands])
  obtain ⟨h1, h2⟩ := zbw hb hx
  have hrun : (execOp a.eval o).run P w = .ok (.value (.pointer (some ⟨w.heap.size, 0, none⟩))) (w.alloc (.cells (a.eval x).cells ty)) := by
    simp [execOp, ho, Instr.box, newVar, newRow]
  obtain ⟨s1, s2⟩ := zaf (m := m) hs.imm (vj w (.cells (a.eval x).cells ty)) (id := id) (v := .pointer (some ⟨w.heap.size, 0, none⟩)) rfl (row := .var ty (ρ x).cells)
    ⟨w.heap.size, (a.eval x).cells, zu _ _ _, vk w _, h1, zgP (fun _ => zU) hc h2⟩
  unfold Oper.wp
  rw [hrun]
  exact hK _ h _ _ ⟨w.heap.size, by rw [zu]; rfl, rfl⟩ s1 s2 fun _ => zU
theorem zgi (h : Heap) (m : zQ) : ∀ (vs : List Value) (o : Nat) (g : Nat → Option Value), (∀ j v, vs[j]? = some v → g (o + j) = some v) → (∀ v ∈ vs, v.oneCell' = true) → RepAL h m g o (vs.map ke)
  | [], _, _, _, _ => by simp [RepAL]
  | v :: vs, o, g, hg, h1 => by
    simp only [List.map_cons, RepAL]
    refine ⟨⟨v, hg 0 v (by simp), h1 v (by simp), zde h m v⟩, zgi h m vs (o + 1) g (fun j u hu => ?_) fun u hu => h1 u (by simp [hu])⟩
    have := hg (j + 1) u (by simpa using hu)
    rwa [show o + (j + 1) = o + 1 + j from by omega] at this
theorem zjP {ty : TypeId} {size bytes : Nat} {z : Value} (id : Id) (ho : o.op = .alloc ty) (ti : TyI P ty size bytes z) (h1 : ∀ v ∈ z.cells.toList, v.oneCell' = true) :
    OpT P o ρ (StL.get []) (.ref id 0 0 0) (StL.get [(id, .var ty (z.cells.toList.map ke))]) [id] := by
  refine OpT.of ?_
  intro h m a w hs hr K Q hK
  have hrun : (execOp a.eval o).run P w = .ok (.value (.pointer (some ⟨w.heap.size, 0, none⟩))) (w.alloc (.cells z.cells ty)) := by
    simp [execOp, ho, Instr.alloc, yv ti, newVar, newRow]
  obtain ⟨s1, s2⟩ := zaf (m := m) hs.imm (vj w (.cells z.cells ty)) (id := id) (v := .pointer (some ⟨w.heap.size, 0, none⟩)) rfl (row := .var ty (z.cells.toList.map ke))
    ⟨w.heap.size, z.cells, zu _ _ _, vk w _, by simp, zgi _ _ _ _ _ (fun j v hv => by simpa using hv) h1⟩
  unfold Oper.wp
  rw [hrun]
  exact hK _ h _ _ ⟨w.heap.size, by rw [zu]; rfl, rfl⟩ s1 s2 fun _ => zU
theorem qO {R : StL} {id : Id} {row : Row} (hs : Sim h m (StL.get R) w) (hr : StL.get R id = some row) : SimRow h m w id row := hs.rows id row hr
theorem yI {b : Nat} {arr : Array Value} {ty : TypeId} {fr : Nat × Nat} (hb : w.heap[b]? = some (.cells arr ty fr)) (j : Nat) : w.cell? ⟨b, j, none⟩ = arr[j]? := by simp [World.cell?, hb]
theorem vK {ty : TypeId} {ad : Addr} : (Instr.loadAt ty (.pointer (some ad))).run P w = (loadVar ty ad).run P w := by simp [Instr.loadAt, Instr.sureAddr]
theorem yz (id : Id) (row : Row) : StL.get [(id, row)] id = some row := by simp [StL.get]
theorem zeK {ty : TypeId} {p : Operand} {id : Id} {i sz off : Nat} {vty : TypeId} {cs : List AV} {d : TypeDesc} {x : AV} (ho : o.op = .load ty p) (hp : ρ p = .ref id i sz off) (tu : TyU P ty d) (hd : xk d = false) (hx : cs[i * sz + off]? = some x) :
    OpT P o ρ (StL.get [(id, .var vty cs)]) x (StL.get [(id, .var vty cs)]) [] :=
  xX fun h m a w hs hr => by
    have h1 := hr p (by simp [ho, Op.operands])
    rw [hp] at h1
    obtain ⟨b, hb, e⟩ := h1
    obtain ⟨b', arr, e1, e2, e3, e4⟩ := qO hs (yz id _)
    rw [e1] at hb
    cases hb
    obtain ⟨u, k1, k2, k3⟩ := zfA e4 hx
    refine ⟨u, ?_, k3⟩
    simp only [Nat.zero_add] at k1
    have := vm (P := P) tu hd (a := ⟨b', i * sz + off, none⟩) (v := u) (w := w) (by rw [yI e2]; exact k1)
    simp [execOp, ho, e, vK, this]
theorem zeg {ty : TypeId} {p : Operand} {id : Id} {i sz off : Nat} {vty : TypeId} {cs : List AV} {d : TypeDesc} {size bytes : Nat} {z : Value} (ho : o.op = .load ty p) (hp : ρ p = .ref id i sz off) (tu : TyU P ty d) (hd : xk d = true) (ti : TyI P ty size bytes z) (hx : i * sz + off + size ≤ cs.length) :
    OpT P o ρ (StL.get [(id, .var vty cs)]) (zcN ((cs.drop (i * sz + off)).take size)) (StL.get [(id, .var vty cs)]) [] :=
  xX fun h m a w hs hr => by
    have h1 := hr p (by simp [ho, Op.operands])
    rw [hp] at h1
    obtain ⟨b, hb, e⟩ := h1
    obtain ⟨b', arr, e1, e2, e3, e4⟩ := qO hs (yz id _)
    rw [e1] at hb
    cases hb
    obtain ⟨vs, k1, k2, k3⟩ := qr (kh (k := size) (kl (k := i * sz + off) e4))
    have hl : vs.length = size := by rw [k1]; simp; omega
    refine ⟨.agg vs.toArray, ?_, jD (by simpa using k1) (by simpa using k3)⟩
    have := vi (P := P) tu hd ti (a := ⟨b', i * sz + off, none⟩) (w := w) hl (fun j v hv => by rw [wu, yI e2]; simpa using k2 j v hv)
    simp [execOp, ho, e, vK, this]
theorem zbe {e : TypeId} {sz n : Nat} {v : Value} {xs : List Value} (H : jA w e sz v n xs) {b : Nat} (hb : blk v = some b) {j : Nat} {u : Value} (hu : xs[j]? = some u) : w.cell? ⟨b, j, none⟩ = some u := by
  obtain ⟨h1, h2⟩ := H
  rcases h2 with ⟨rfl, _⟩ | ⟨g, cap, cur, lo, hi, rfl, hg, _, _, _, _, ht⟩
  · simp [blk] at hb
  · simp [blk] at hb
    subst hb
    rw [yI hg, ← Array.getElem?_toList]
    rw [← ht, List.getElem?_take] at hu
    split at hu
    · exact hu
    · cases hu
theorem zkR {row : Row} {id : Id} {sz : Nat} {es : List T} (hrow : (∃ e, row = .slt e sz es) ∨ (∃ ty, row = .arr ty sz es)) (H : SimRow h m w id row) {b : Nat} (hb : blk (m id) = some b) {i : Nat} {x : T} (hx : es[i]? = some x) :
    x.cells.length = sz ∧ RepL h (fun j => w.cell? ⟨b, j, none⟩) (i * sz) x.cells := by
  rcases hrow with ⟨e, rfl⟩ | ⟨ty, rfl⟩
  · obtain ⟨xs, h1, h2⟩ := H
    obtain ⟨k1, k2⟩ := wv h2 hx
    exact ⟨k1, by simpa using zdl (fun j u hu => zbe h1 hb hu) k2⟩
  · obtain ⟨b', arr, e1, e2, e3, e4⟩ := H
    rw [e1] at hb
    cases hb
    obtain ⟨k1, k2⟩ := wv e4 hx
    exact ⟨k1, by simpa using zdl (fun j u hu => by rw [yI e2]; exact hu) k2⟩
theorem zft {ty : TypeId} {p : Operand} {id : Id} {i sz off : Nat} {row : Row} {es : List T} {d : TypeDesc} {x y : T} (ho : o.op = .load ty p) (hp : ρ p = .ref id i sz off) (hrow : (∃ e, row = .slt e sz es) ∨ (∃ ty, row = .arr ty sz es)) (tu : TyU P ty d) (hd : xk d = false)
    (hx : es[i]? = some x) (hy : x.cells[off]? = some y) : OpT P o ρ (StL.get [(id, row)]) (.t y) (StL.get [(id, row)]) [] :=
  xX fun h m a w hs hr => by
    have h1 := hr p (by simp [ho, Op.operands])
    rw [hp] at h1
    obtain ⟨b, hb, e⟩ := h1
    obtain ⟨k1, k2⟩ := zkR hrow (qO hs (yz id _)) hb hx
    obtain ⟨u, j1, j2, j3⟩ := zep k2 hy
    refine ⟨u, ?_, j3⟩
    have := vm (P := P) tu hd (a := ⟨b, i * sz + off, none⟩) (v := u) (w := w) j1
    simp [execOp, ho, e, vK, this]
theorem ze1 {vs : List Value} {x : T} (hx : x.isAgg = true) (hl : vs.length = x.cells.length) (H : RepL h (fun j => vs[j]?) 0 x.cells) : RepT h (.agg vs.toArray) x := by
  cases x <;> simp [T.isAgg] at hx
  exact ⟨vs.toArray, rfl, by simpa [T.cells] using hl, by simpa [T.cells] using H⟩
theorem zf2 {ty : TypeId} {p : Operand} {e x : T} {off : Nat} {d : TypeDesc} (ho : o.op = .load ty p) (hp : ρ p = .tp e off) (tu : TyU P ty d) (hd : xk d = false) (hx : e.cells[off]? = some x) :
    OpT P o ρ (StL.get []) (.t x) (StL.get []) [] :=
  xX (R := []) fun h m a w hs hr => by
    have h1 := hr p (by simp [ho, Op.operands])
    rw [hp] at h1
    obtain ⟨b, q, e1, e2⟩ := h1
    obtain ⟨u, k1, k2, k3⟩ := zep e2 hx
    refine ⟨u, ?_, k3⟩
    have := vm (P := P) tu hd (a := ⟨b, q + off, none⟩) (v := u) (w := w) (qg hs k1)
    simp [execOp, ho, e1, vK, this]
theorem zaL {ty : TypeId} {p : Operand} {e : T} {d : TypeDesc} {size bytes : Nat} {z : Value} (ho : o.op = .load ty p) (hp : ρ p = .tp e 0) (tu : TyU P ty d) (hd : xk d = true) (ti : TyI P ty size bytes z) (hl : e.cells.length = size) (ha : e.isAgg = true) :
    OpT P o ρ (StL.get []) (.t e) (StL.get []) [] :=
  xX (R := []) fun h m a w hs hr => by
    have h1 := hr p (by simp [ho, Op.operands])
    rw [hp] at h1
    obtain ⟨b, q, e1, e2⟩ := h1
    obtain ⟨vs, j1, j2, j3⟩ := zdo e2
    refine ⟨.agg vs.toArray, ?_, ze1 ha j1 j3⟩
    have := vi (P := P) tu hd ti (a := ⟨b, q, none⟩) (w := w) (by rw [j1, hl]) (fun j v hv => by rw [wu]; exact qg hs (j2 j v hv))
    simp [execOp, ho, e1, vK, this]
def AV.nonNil : AV → Bool
  | .ref .. => true
  | .tp .. => true
  | .fn .. => true
  | .t (.fn _) => true
  | _ => false
theorem zfd {x : Operand} (ho : o.op = .nilCheck x) (hx : (ρ x).nonNil = true) : OpT P o ρ (StL.get []) (ρ x) (StL.get []) [] :=
  zY fun h m a w _ hr => by
    have h1 := hr x (by simp [ho, Op.operands])
    refine ⟨a.eval x, ?_, h1⟩
    cases e : ρ x with
    | ref id i sz off => rw [e] at h1; obtain ⟨b, _, e2⟩ := h1; simp [execOp, ho, e2]
    | tp c off => rw [e] at h1; obtain ⟨b, q, e2, _⟩ := h1; simp [execOp, ho, e2]
    | fn f cs => rw [e] at h1; obtain ⟨vs, e2, _⟩ := h1; simp [execOp, ho, e2]
    | t y =>
      cases y with
      | fn f => rw [e] at h1; simp only [RepA, RepT] at h1; simp [execOp, ho, h1]
      | _ => rw [e] at hx; simp [AV.nonNil] at hx
    | _ => rw [e] at hx; simp [AV.nonNil] at hx
end
end Go.AL
set_option linter.unusedSimpArgs false
namespace Go.AL
open Go Go.RowKit
section
variable {P : Program} {o : Oper} {ρ : Operand → AV} {h : Heap} {m : zQ} {w : World}
structure Wrote (w w' : World) (b : Nat) : Prop where
  os : w'.os = w.os
  tape : w'.tape = w.tape
  output : w'.output = w.output
  size : w'.heap.size = w.heap.size
  other : ∀ k, k ≠ b → w'.heap[k]? = w.heap[k]?
theorem Wrote.refl (w : World) (b : Nat) : Wrote w w b := ⟨rfl, rfl, rfl, rfl, fun _ _ => rfl⟩
theorem Wrote.trans {w w1 w2 : World} {b : Nat} (a : Wrote w w1 b) (c : Wrote w1 w2 b) : Wrote w w2 b :=
  ⟨c.os.trans a.os, c.tape.trans a.tape, c.output.trans a.output, c.size.trans a.size, fun k hk => (c.other k hk).trans (a.other k hk)⟩
def yP {α : Type} (cs : List α) (off : Nat) (xs : List α) : List α := cs.take off ++ xs ++ cs.drop (off + xs.length)
theorem vf {cs xs : List Value} {off : Nat} (hl : off + xs.length ≤ cs.length) (j : Nat) : (yP cs off xs)[j]? = if j < off then cs[j]? else if j < off + xs.length then xs[j - off]? else cs[j]? := by
  unfold yP
  have e : min off cs.length = off := by omega
  by_cases c1 : j < off
  · simp [List.getElem?_append, e, c1, show j < off + xs.length from by omega]
  · by_cases c2 : j < off + xs.length
    · rw [if_neg c1, if_pos c2, List.getElem?_append, if_pos (by simp; omega), List.getElem?_append, if_neg (by simp; omega)]
      simp [e]
    · rw [if_neg c1, if_neg c2, List.getElem?_append, if_neg (by simp; omega), List.getElem?_drop]
      congr 1
      simp
      omega
theorem xV {b o : Nat} {ty : TypeId} {lo hi : Nat} : ∀ (vs : List Value) (i : Nat) (arr : Array Value) (w : World), w.heap[b]? = some (.cells arr ty (lo, hi)) → (hi ≤ lo ∨ arr.size ≤ lo) → o + i + vs.length ≤ arr.size → (∀ v ∈ vs, v.oneCell' = true) →
    ∃ w' arr', (storeCells ⟨b, o, none⟩ vs i).run P w = .ok () w' ∧ w'.heap[b]? = some (.cells arr' ty (lo, hi)) ∧ arr'.toList = yP arr.toList (o + i) vs ∧ Wrote w w' b
  | [], i, arr, w, hb, _, _, _ => ⟨w, arr, by simp [storeCells], hb, by simp [yP], Wrote.refl w b⟩
  | v :: vs, i, arr, w, hb, hf, hl, h1 => by
    have hi' : o + i < arr.size := by simp at hl; omega
    have hcell : w.cell? ⟨b, o + i, none⟩ = some arr[o + i] := by simp [World.cell?, hb, hi']
    have hfro : w.frozen? ⟨b, o + i, none⟩ = false := by
      simp [World.frozen?, hb]
      omega
    have hst : (store ((⟨b, o, none⟩ : Addr).add i) v).run P w = .ok () (w.setCell ⟨b, o + i, none⟩ v) := by
      rw [wu, run_store P w _ v _ (h1 v (by simp)), hcell]
      simp [hfro]
    have hb' : (w.setCell ⟨b, o + i, none⟩ v).heap[b]? = some (.cells (arr.setIfInBounds (o + i) v) ty (lo, hi)) := by
      simp [World.setCell, Array.getElem?_modify, hb]
    have hw1 : Wrote w (w.setCell ⟨b, o + i, none⟩ v) b := ⟨rfl, rfl, rfl, by simp [World.setCell], fun k hk => Below.heap_setCell w ⟨b, o + i, none⟩ v k hk⟩
    obtain ⟨w', arr', r1, r2, r3, r4⟩ := xV (o := o) vs (i + 1) (arr.setIfInBounds (o + i) v) (w.setCell ⟨b, o + i, none⟩ v) hb' (by simpa using hf) (by simp at hl ⊢; omega) (fun x hx => h1 x (by simp [hx]))
    refine ⟨w', arr', ?_, r2, ?_, Wrote.trans hw1 r4⟩
    · simp [storeCells, hst, r1]
    · rw [r3]
      apply List.ext_getElem?
      intro j
      rw [vf (by simp at hl ⊢; omega), vf (by simp at hl ⊢; omega)]
      simp only [Array.toList_setIfInBounds, List.getElem?_set, Array.length_toList, List.length_cons]
      by_cases c1 : j < o + i
      · have h2 : ¬ (o + i = j) := by omega
        rw [if_pos (by omega), if_neg h2, if_pos c1]
      · by_cases c2 : o + i = j
        · subst c2
          rw [if_pos (by omega), if_pos rfl, if_pos hi', if_neg c1, if_pos (by omega)]
          simp
        · rw [if_neg (by omega), if_neg c1, if_neg c2]
          by_cases c3 : j < o + i + (vs.length + 1)
          · rw [if_pos (by omega), if_pos c3]
            obtain ⟨q, rfl⟩ : ∃ q, j = o + i + 1 + q := ⟨j - (o + i + 1), by omega⟩
            rw [show o + i + 1 + q - (o + (i + 1)) = q from by omega, show o + i + 1 + q - (o + i) = q + 1 from by omega]
            simp
          · rw [if_neg (by omega), if_neg c3]
theorem zfZ {ty : TypeId} {size bytes : Nat} {z : Value} (ti : TyI P ty size bytes z) {b o : Nat} {v : Value} {vty : TypeId} {lo hi : Nat} {arr : Array Value} (hb : w.heap[b]? = some (.cells arr vty (lo, hi))) (hf : hi ≤ lo ∨ arr.size ≤ lo) (hs : v.cells.size = size) (hl : o + size ≤ arr.size) (h1 : ∀ u ∈ v.cells.toList, u.oneCell' = true) :
    ∃ w' arr', (Instr.storeAt ty (.pointer (some ⟨b, o, none⟩)) v).run P w = .ok () w' ∧ w'.heap[b]? = some (.cells arr' vty (lo, hi)) ∧ arr'.toList = yP arr.toList o v.cells.toList ∧ Wrote w w' b := by
  obtain ⟨w', arr', r1, r2, r3, r4⟩ := xV (P := P) (o := o) v.cells.toList 0 arr w hb hf (by simp [hs]; exact hl) h1
  refine ⟨w', arr', ?_, r2, by simpa using r3, r4⟩
  have hne : ¬ (v.cells.size ≠ size) := by simp [hs]
  simp [Instr.storeAt, Instr.sureAddr, storeVar, y4 ti, hs, r1]
theorem jt {w' : World} {id : Id} {row row' : Row} {b : Nat} (hs : Sim h m (StL.get [(id, row)]) w) (hb : blk (m id) = some b) (hw : Wrote w w' b) (hrow : SimRow h m w' id row') :
    Sim h m (StL.get [(id, row')]) w' ∧ Foot h m (StL.get [(id, row)]) w h m (StL.get [(id, row')]) w' := by
  have one : ∀ {row : Row} {x : Id} {r : Row}, StL.get [(id, row)] x = some r → x = id ∧ r = row := fun hx => by
    simp only [StL.get] at hx
    split at hx
    · rename_i e; cases hx; exact ⟨e.symm, rfl⟩
    · cases hx
  obtain ⟨k1, k2⟩ := hs.sep id row b (yz id row) hb
  refine ⟨⟨fun b' ob hb' => ?_, ?_, ?_, ?_⟩, ⟨hw.os, hw.tape, hw.output, by rw [hw.size]; exact Nat.le_refl _, fun b' hb' hn => ⟨hw.other b' fun e => ?_, rfl⟩, fun _ _ hu => hu, ?_⟩⟩
  · have hne : b' ≠ b := fun e => by subst e; rw [k1] at hb'; cases hb'
    rw [hw.other b' hne]; exact hs.imm b' ob hb'
  · intro x r hx
    obtain ⟨rfl, rfl⟩ := one hx
    exact hrow
  · intro x r b' hx hb'
    obtain ⟨rfl, rfl⟩ := one hx
    rw [hb] at hb'
    cases hb'
    exact ⟨k1, by rw [hw.size]; exact k2⟩
  · intro x x' r r' b hx hx' _ _
    rw [(one hx).1, (one hx').1]
  · subst e; exact hn id row (yz id row) hb
  · intro x r b' hx hb'
    obtain ⟨rfl, rfl⟩ := one hx
    exact .inr ⟨x, row, yz x row, hb'⟩
theorem wP {g : Nat → Option Value} : ∀ {as bs : List AV} {o : Nat}, RepAL h m g o (as ++ bs) ↔ RepAL h m g o as ∧ RepAL h m g (o + as.length) bs
  | [], bs, o => by simp [RepAL]
  | a :: as, bs, o => by
    simp only [List.cons_append, RepAL, wP (as := as), List.length_cons, and_assoc]
    rw [show o + (as.length + 1) = o + 1 + as.length from by omega]
theorem xF {g g' : Nat → Option Value} : ∀ {xs : List AV} {o : Nat}, (∀ j, o ≤ j → j < o + xs.length → g' j = g j) → RepAL h m g o xs → RepAL h m g' o xs
  | [], _, _, _ => by simp [RepAL]
  | x :: xs, o, hg, H => by
    simp only [RepAL] at H ⊢
    exact ⟨by rw [hg o (Nat.le_refl _) (by simp)]; exact H.1, xF (fun j h1 h2 => hg j (by omega) (by simp at h2 ⊢; omega)) H.2⟩
theorem zat {g g' : Nat → Option Value} : ∀ {xs : List T} {o : Nat}, (∀ j, o ≤ j → j < o + xs.length → g' j = g j) → RepL h g o xs → RepL h g' o xs
  | [], _, _, _ => by simp [RepL]
  | x :: xs, o, hg, H => by
    simp only [RepL] at H ⊢
    exact ⟨by rw [hg o (Nat.le_refl _) (by simp)]; exact H.1, zat (fun j h1 h2 => hg j (by omega) (by simp at h2 ⊢; omega)) H.2⟩
theorem qD {g : Nat → Option Value} : ∀ {xs : List AV} {o : Nat}, RepAL h m g o xs → ∀ j, j < xs.length → ∃ u, g (o + j) = some u ∧ u.oneCell' = true
  | [], _, _, j, hj => by simp at hj
  | x :: xs, o, H, j, hj => by
    simp only [RepAL] at H
    cases j with
    | zero => obtain ⟨u, h1, h2, _⟩ := H.1; exact ⟨u, h1, h2⟩
    | succ j =>
      obtain ⟨u, h1, h2⟩ := qD H.2 j (by simpa using hj)
      exact ⟨u, by rwa [show o + (j + 1) = o + 1 + j from by omega], h2⟩
theorem zku {v : Value} {xs : List AV} (hs : v.cells.size = xs.length) (H : RepAL h m (fun j => v.cells[j]?) 0 xs) : ∀ u ∈ v.cells.toList, u.oneCell' = true := by
  intro u hu
  obtain ⟨j, hj, rfl⟩ := List.getElem_of_mem hu
  obtain ⟨u', h1, h2⟩ := qD H j (by simp at hj; omega)
  simp at hj h1
  rw [Array.getElem?_eq_getElem hj] at h1
  cases h1
  simpa using h2
theorem zeh {ty : TypeId} {p x : Operand} {id : Id} {i sz off : Nat} {vty : TypeId} {cs : List AV} {size bytes : Nat} {z : Value} (ho : o.op = .store ty p x) (hp : ρ p = .ref id i sz off) (ti : TyI P ty size bytes z)
    (hb : (ρ x).boxable = true) (hx : (ρ x).cells.length = size) (hl : i * sz + off + size ≤ cs.length) :
    OpT P o ρ (StL.get [(id, .var vty cs)]) .junk (StL.get [(id, .var vty (yP cs (i * sz + off) (ρ x).cells))]) [] := by
  refine OpT.of ?_
  intro h m a w hs hr K Q hK
  have h1 := hr p (by simp [ho, Op.operands])
  have h2 := hr x (by simp [ho, Op.operands])
  rw [hp] at h1
  obtain ⟨b, hbk, e⟩ := h1
  obtain ⟨b', arr, e1, e2, e3, e4⟩ := qO hs (yz id _)
  have hbb : b' = b := by rw [e1] at hbk; simpa [blk] using hbk
  subst hbb
  obtain ⟨c1, c2⟩ := zbw hb h2
  have hsz : (a.eval x).cells.size = size := by omega
  obtain ⟨w', arr', r1, r2, r3, r4⟩ := zfZ (P := P) (w := w) ti (o := i * sz + off) (v := a.eval x) e2 (.inl (Nat.le_refl _)) hsz (by rw [e3]; exact hl) (zku c1 c2)
  have hlen : i * sz + off + (a.eval x).cells.toList.length ≤ arr.toList.length := by simp [e3, hsz]; exact hl
  have hget : ∀ j, arr'[j]? = if j < i * sz + off then arr[j]? else if j < i * sz + off + size then (a.eval x).cells[j - (i * sz + off)]? else arr[j]? := fun j => by
    have := vf hlen j
    rw [← r3] at this
    simpa [hsz] using this
  have hrow : SimRow h m w' id (.var vty (yP cs (i * sz + off) (ρ x).cells)) := by
    refine ⟨b', arr', e1, r2, ?_, ?_⟩
    · have := congrArg List.length r3
      simp only [Array.length_toList] at this
      rw [this]
      simp [yP, e3, hsz, hx]
    · unfold yP
      rw [wP, wP]
      have ht : (cs.take (i * sz + off)).length = i * sz + off := by simp; omega
      refine ⟨⟨?_, ?_⟩, ?_⟩
      · refine xF (g := fun j => arr[j]?) (fun j _ hj => ?_) (kh e4)
        rw [ht] at hj
        show arr'[j]? = _
        rw [hget, if_pos (by omega)]
      · rw [ht]
        refine xF (g := fun j => (a.eval x).cells[j - (i * sz + off)]?) (fun j j1 j2 => ?_) ?_
        · show arr'[j]? = _
          rw [hget, if_neg (by omega), if_pos (by rw [hx] at j2; omega)]
        · refine qt (g := fun j => (a.eval x).cells[j]?) (fun j u hu => ?_) c2
          simpa using hu
      · refine xF (g := fun j => arr[j]?) (fun j j1 _ => ?_) ?_
        · show arr'[j]? = _
          simp only [List.length_append, ht] at j1
          rw [hget, if_neg (by omega), if_neg (by omega)]
        · have := kl (k := i * sz + off + (ρ x).cells.length) e4
          simp only [List.length_append, ht]
          simpa using this
  obtain ⟨s1, s2⟩ := jt hs hbk r4 hrow
  unfold Oper.wp
  have hrun : (execOp a.eval o).run P w = .ok .skip w' := by simp [execOp, ho, e, r1]
  rw [hrun]
  exact hK undef h m w' trivial s1 s2 fun _ _ => rfl
theorem zbx {g g' : Nat → Option Value} {sz : Nat} : ∀ {es : List T} {o : Nat}, (∀ j, o ≤ j → j < o + es.length * sz → g' j = g j) → RepEs h g o sz es → RepEs h g' o sz es
  | [], _, _, _ => by simp [RepEs]
  | e :: es, o, hg, H => by
    rw [yU] at H ⊢
    refine ⟨⟨H.1.1, zat (fun j h1 h2 => hg j h1 ?_) H.1.2⟩, zbx (fun j h1 h2 => hg j (by omega) ?_) H.2⟩
    · rw [H.1.1] at h2; simp [Nat.add_mul]; omega
    · simp [Nat.add_mul]; omega
end
end Go.AL
