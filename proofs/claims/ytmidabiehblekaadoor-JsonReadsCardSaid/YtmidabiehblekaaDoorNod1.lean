/- Nodes as plain data; no program in sight. -/
import Derived.Test.YtmidabiehblekaaDoorAl3
import Derived.Lib.ItoaNum
import Derived.Lib.ItoaMem
set_option linter.unusedVariables false
namespace Go.AL
open Go Go.RowKit

inductive Nd where
  | mk (kind : Int) (b : Bool) (num : Int) (text : ByteArray) (names : List ByteArray) (items : List Nd)
  deriving Inhabited

mutual
def Nd.toT : Nd → T
  | .mk k b n t ns is => .agg [.int .i64 k, .bool b, .int .i64 n, .str t, .sl 1 (ns.map .str), .sl 6 (Nd.toTs is)]
def Nd.toTs : List Nd → List T
  | [] => []
  | x :: xs => x.toT :: Nd.toTs xs
end
theorem Nd.toTs_map : ∀ l : List Nd, Nd.toTs l = l.map Nd.toT
  | [] => rfl
  | x :: xs => by simp [Nd.toTs, Nd.toTs_map xs]
def Nd.items : Nd → List Nd
  | .mk _ _ _ _ _ is => is
def Nd.names : Nd → List ByteArray
  | .mk _ _ _ _ ns _ => ns
theorem Nd.toT_eq (k : Int) (b : Bool) (n : Int) (t : ByteArray) (ns : List ByteArray) (is : List Nd) : (Nd.mk k b n t ns is).toT = .agg [.int .i64 k, .bool b, .int .i64 n, .str t, .sl 1 (ns.map .str), .sl 6 (is.map Nd.toT)] := by
  rw [Nd.toT, Nd.toTs_map]
theorem Nd.toT_agg (x : Nd) : x.toT.isAgg = true ∧ x.toT.cells.length = 6 := by
  cases x; rw [Nd.toT_eq]; exact ⟨rfl, rfl⟩

/-- No slice of it is too long. -/
inductive Nd.Ok : Nd → Prop
  | mk {k : Int} {b : Bool} {n : Int} {t : ByteArray} {ns : List ByteArray} {is : List Nd} : ns.length ≤ 8796093021952 → is.length ≤ 1599289640354 → (∀ x ∈ is, x.Ok) → Nd.Ok (.mk k b n t ns is)

section
variable {P : Program} {nt : Nat} {ops : Array Oper} {o : Oper} {rest : List Oper} {env : EnvL} {st : StO} {acc : List SD} {K : EnvL → StO → List SD → Prop} {d : Nat}
end
end Go.AL
/- Which nodes are valid, as plain data; no program in sight. -/
set_option linter.unusedVariables false
namespace Go.AL
open Go Go.RowKit

def Nd.fieldsOK : Nd → Bool
  | .mk k b n t ns is => (decide (k = 1) || !b) && (decide (k = 2) || decide (n = 0)) && (decide (k = 3) || decide (t = ⟨#[]⟩)) && (decide (k = 4) || decide (k = 5) || decide ((is.length : Int) = 0)) && (decide (k = 5) || decide ((ns.length : Int) = 0))

def textB (V : ByteArray → Bool) (s : ByteArray) : Bool := decide ((s.size : Int) ≤ 65536) && V s

def inB (s : ByteArray) (l : List ByteArray) : Bool := l.any fun x => decide (s = x)
/-- No name twice, each one a text. -/
def namesOk (tx : ByteArray → Bool) : List ByteArray → List ByteArray → Bool
  | _, [] => true
  | seen, s :: l => if inB s seen || !tx s then false else namesOk tx (s :: seen) l

mutual
def Nd.validB (V : ByteArray → Bool) : Nd → Int → Bool
  | .mk k b n t ns is, d => !(decide (d < 1) || decide (k < 0) || decide (5 < k) || !(Nd.mk k b n t ns is).fieldsOK || !textB V t || decide (256 < (is.length : Int))) && (!decide (k = 5) || (namesOk (textB V) [] ns && decide ((ns.length : Int) = is.length))) && !Nd.anyBad V is (d - 1)
def Nd.anyBad (V : ByteArray → Bool) : List Nd → Int → Bool
  | [], _ => false
  | x :: xs, d => !x.validB V d || Nd.anyBad V xs d
end
theorem Nd.anyBad_any (V : ByteArray → Bool) (d : Int) : ∀ l : List Nd, Nd.anyBad V l d = l.any fun x => !x.validB V d
  | [] => by simp [Nd.anyBad]
  | x :: xs => by simp [Nd.anyBad, Nd.anyBad_any V d xs]
end Go.AL
/- Maps as plain data: places, puts, and what they keep; no program in sight. -/
set_option linter.unusedVariables false
namespace Go.AL
open Go Go.RowKit

def Nd.kind : Nd → Int
  | .mk k _ _ _ _ _ => k
def Nd.bool : Nd → Bool
  | .mk _ b _ _ _ _ => b
def Nd.num : Nd → Int
  | .mk _ _ n _ _ _ => n
def Nd.text : Nd → ByteArray
  | .mk _ _ _ t _ _ => t
def Nd.zero : Nd := .mk 0 false 0 ⟨#[]⟩ [] []
def idxB (s : ByteArray) : List ByteArray → Int → Int
  | [], _ => -1
  | x :: xs, j => if s = x then j else idxB s xs (j + 1)
def Nd.place (n : Nd) (s : ByteArray) : Int := if n.kind = 5 then idxB s (n.names.take (min n.names.length n.items.length)) 0 else -1
def Nd.get (n : Nd) (s : ByteArray) : Nd × Bool := if n.place s < 0 then (Nd.zero, false) else (n.items.getD (n.place s).toNat default, true)
def Nd.set (n : Nd) (s : ByteArray) (v : Nd) : Nd :=
  if 0 ≤ n.place s then .mk n.kind n.bool n.num n.text n.names (n.items.set (n.place s).toNat v)
  else .mk n.kind n.bool n.num n.text (n.names ++ [s]) (n.items ++ [v])
def Nd.put (V : ByteArray → Bool) (n : Nd) (s : ByteArray) (v : Nd) : Nd × Int :=
  if n.kind = 5 ∧ n.validB V 8 = true ∧ (n.set s v).validB V 8 = true then (n.set s v, 0) else (Nd.zero, 1)

theorem idxB_at (s : ByteArray) : ∀ (l : List ByteArray) (j : Int) (i : Nat), l.Nodup → l[i]? = some s → idxB s l j = j + i
  | [], j, i, _, h => by simp at h
  | x :: xs, j, 0, _, h => by
    simp only [List.getElem?_cons_zero, Option.some.injEq] at h
    simp [idxB, h]
  | x :: xs, j, i + 1, hn, h => by
    simp only [List.getElem?_cons_succ] at h
    have hm : s ∈ xs := List.mem_of_getElem? h
    have hx : s ≠ x := fun e => (List.nodup_cons.1 hn).1 (e ▸ hm)
    rw [idxB, if_neg hx, idxB_at s xs (j + 1) i (List.nodup_cons.1 hn).2 h]
    omega
theorem inB_iff (s : ByteArray) (l : List ByteArray) : inB s l = true ↔ s ∈ l := by
  simp [inB]
theorem namesOk_iff (tx : ByteArray → Bool) : ∀ (l seen : List ByteArray), namesOk tx seen l = true ↔ l.Nodup ∧ ∀ s ∈ l, s ∉ seen ∧ tx s = true
  | [], seen => by simp [namesOk]
  | x :: xs, seen => by
    simp only [namesOk]
    split
    · rename_i h
      simp only [Bool.or_eq_true, inB_iff, Bool.not_eq_true'] at h
      constructor
      · intro h2; simp at h2
      · rintro ⟨_, h2⟩
        have := h2 x (by simp)
        rcases h with h | h
        · exact absurd h this.1
        · rw [this.2] at h; simp at h
    · rename_i h
      simp only [Bool.or_eq_true, inB_iff, Bool.not_eq_true', not_or] at h
      rw [namesOk_iff tx xs (x :: seen), List.nodup_cons]
      constructor
      · rintro ⟨h1, h2⟩
        refine ⟨⟨fun hx => (h2 x hx).1 (by simp), h1⟩, fun s hs => ?_⟩
        rcases List.mem_cons.1 hs with rfl | hs
        · exact ⟨h.1, by simpa using h.2⟩
        · exact ⟨fun hc => (h2 s hs).1 (by simp [hc]), (h2 s hs).2⟩
      · rintro ⟨⟨h1, h2⟩, h3⟩
        refine ⟨h2, fun s hs => ⟨?_, (h3 s (by simp [hs])).2⟩⟩
        intro hc
        rcases List.mem_cons.1 hc with rfl | hc
        · exact h1 hs
        · exact (h3 s (by simp [hs])).1 hc
end Go.AL
/- Dice and the nodes that the kit makes of them, as plain data; no program in sight. -/
set_option linter.unusedVariables false
namespace Go.AL
open Go Go.RowKit

/-- Dice: the numbers, and how many of them are used. -/
structure Dc where
  l : List Int
  k : Nat
def modI (n m : Int) : Int := if m < 1 then 0 else n % m
def Dc.next (d : Dc) (n : Int) : Int × Dc := if (d.l.length : Int) ≤ d.k then (0, d) else (modI (d.l.getD d.k 0) n, ⟨d.l, d.k + 1⟩)
def Dc.word (d : Dc) (l : List ByteArray) : ByteArray × Dc := (l.getD (d.next l.length).1.toNat default, (d.next l.length).2)
theorem modI_lt (n m : Int) (h : 1 ≤ m) : 0 ≤ modI n m ∧ modI n m < m := by
  unfold modI
  rw [if_neg (by omega)]
  exact ⟨Int.emod_nonneg _ (by omega), Int.emod_lt_of_pos _ (by omega)⟩
theorem Dc.next_lt (d : Dc) (n : Int) (h : 1 ≤ n) : 0 ≤ (d.next n).1 ∧ (d.next n).1 < n := by
  unfold Dc.next; split
  · exact ⟨Int.le_refl 0, by show (0 : Int) < n; omega⟩
  · exact modI_lt _ _ h
theorem Dc.next_l (d : Dc) (n : Int) : (d.next n).2.l = d.l := by
  unfold Dc.next; split <;> rfl
theorem Dc.word_mem (d : Dc) (l : List ByteArray) (h : l ≠ []) : (d.word l).1 ∈ l := by
  have hp := List.length_pos_iff.2 h
  have := d.next_lt l.length (by omega)
  unfold Dc.word
  simp only
  rw [List.getD_eq_getElem?_getD, List.getElem?_eq_getElem (by omega)]
  exact List.getElem_mem _

def eS : ByteArray := ⟨#[]⟩
def xS : ByteArray := ⟨#[120]⟩
def kTexts : List ByteArray := [⟨#[]⟩, ⟨#[97]⟩, ⟨#[66, 111, 110, 110]⟩, ⟨#[97, 32, 34, 113, 117, 111, 116, 101, 100, 34, 32, 92, 32, 116, 101, 120, 116]⟩, ⟨#[108, 105, 110, 101, 10, 97, 110, 100, 9, 116, 97, 98, 1, 31, 127]⟩, ⟨#[195, 164, 226, 130, 172, 240, 159, 152, 128]⟩, ⟨#[75, 69, 82, 73, 49, 48, 74, 83, 79, 78, 48, 48, 48, 48, 50, 97, 95]⟩]
def kSizes : List Int := [23, 24, 31, 32, 255, 256]
def kPad : Nat → ByteArray → Dc → ByteArray × Dc
  | 0, s, d => (s, (d.next 6).2)
  | f + 1, s, d => if (s.size : Int) < kSizes.getD (d.next 6).1.toNat 0 then kPad f (s ++ xS) (d.next 6).2 else (s, (d.next 6).2)
def kText (d : Dc) : ByteArray × Dc :=
  if ((d.word kTexts).2.next 10).1 = 1 then kPad 300 (d.word kTexts).1 ((d.word kTexts).2.next 10).2 else ((d.word kTexts).1, ((d.word kTexts).2.next 10).2)
def kFill : Nat → List Nd → Dc → List Nd × Dc
  | 0, l, d => (l, (d.next 3).2)
  | f + 1, l, d => if (l.length : Int) < 15 + (d.next 3).1 then kFill f (l ++ [Nd.zero]) (d.next 3).2 else (l, (d.next 3).2)
def kWords : List ByteArray := [⟨#[97]⟩, ⟨#[98]⟩, ⟨#[118]⟩, ⟨#[100]⟩, ⟨#[]⟩]
def kTwo (i : Nat) : ByteArray := ⟨#[UInt8.ofNat (48 + i % 10), UInt8.ofNat (48 + i / 10)]⟩
def kNames : Nat → Nat → Dc → List ByteArray × Dc
  | 0, _, d => ([], d)
  | c + 1, i, d => (((d.word kWords).1 ++ kTwo i) :: (kNames c (i + 1) (d.word kWords).2).1, (kNames c (i + 1) (d.word kWords).2).2)
def kItems (f : Dc → Nd × Dc) : Nat → Dc → List Nd × Dc
  | 0, d => ([], d)
  | c + 1, d => ((f d).1 :: (kItems f c (f d).2).1, (kItems f c (f d).2).2)
def kNums : List Int := [0, 1, 23, 24, 127, 128, 255, 256, 65535, 65536, 4294967296, 9223372036854775807]
def kSeq (k : Int) (f : Dc → Nd × Dc) (d : Dc) : Nd × Dc :=
  let q := d.next 4
  let is := kItems f q.1.toNat q.2
  let z := is.2.next 20
  let g := if z.1 = 1 then kFill 20 is.1 z.2 else (is.1, z.2)
  let ns := if k = 5 then kNames g.1.length 0 g.2 else ([], g.2)
  (.mk k false 0 eS ns.1 g.1, ns.2)
def kTree (rec : Option (Dc → Nd × Dc)) (d : Dc) : Nd × Dc :=
  let k := (d.next 6).1
  let e := (d.next 6).2
  if k = 1 then (.mk 1 (decide ((e.next 2).1 = 1)) 0 eS [] [], (e.next 2).2)
  else if k = 2 then (.mk 2 false (if ((e.next 12).2.next 2).1 = 1 then -1 - kNums.getD (e.next 12).1.toNat 0 else kNums.getD (e.next 12).1.toNat 0) eS [] [], ((e.next 12).2.next 2).2)
  else if k = 3 then (.mk 3 false 0 (kText e).1 [] [], (kText e).2)
  else if k = 4 ∨ k = 5 then match rec with
    | none => (.mk k false 0 eS [] [], e)
    | some f => kSeq k f e
  else (Nd.zero, e)
def kNode : Nat → Dc → Nd × Dc
  | 0, d => kTree none d
  | 1, d => kTree none d
  | n + 2, d => kTree (some (kNode (n + 1))) d
def kMapNames : List ByteArray := [⟨#[97]⟩, ⟨#[98]⟩, ⟨#[118]⟩, ⟨#[100]⟩]
def kMap (n : Nat) (d : Dc) : Nd × Dc :=
  (.mk 5 false 0 eS (kMapNames.take (d.next 4).1.toNat) (kItems (kNode (n - 1)) (d.next 4).1.toNat (d.next 4).2).1, (kItems (kNode (n - 1)) (d.next 4).1.toNat (d.next 4).2).2)

/-! ### they are valid -/
/-- What is asked of the test of texts. -/
structure VOk (V : ByteArray → Bool) : Prop where
  asc : ∀ s : ByteArray, (∀ b ∈ s.data.toList, b.toNat < 128) → V s = true
  app : ∀ s : ByteArray, V s = true → V (s ++ xS) = true
  odd : V ⟨#[195, 164, 226, 130, 172, 240, 159, 152, 128]⟩ = true

theorem kPad_ok {V : ByteArray → Bool} (hV : VOk V) : ∀ (f : Nat) (s : ByteArray) (d : Dc), V s = true → s.size ≤ 256 → V (kPad f s d).1 = true ∧ (kPad f s d).1.size ≤ 256
  | 0, s, d, h, h2 => ⟨h, h2⟩
  | f + 1, s, d, h, h2 => by
    simp only [kPad]; split
    · rename_i hc
      have hs : (kSizes.getD (d.next 6).1.toNat 0) ≤ 256 := by
        have := d.next_lt 6 (by omega)
        generalize (d.next 6).1.toNat = j
        match j with
        | 0 | 1 | 2 | 3 | 4 | 5 => simp [kSizes]
        | j + 6 => simp [kSizes]
      refine kPad_ok hV f _ _ (hV.app s h) ?_
      rw [ByteArray.size_append]
      have : xS.size = 1 := rfl
      omega
    · exact ⟨h, h2⟩
theorem kTexts_ok {V : ByteArray → Bool} (hV : VOk V) : ∀ s ∈ kTexts, V s = true ∧ s.size ≤ 256 := by
  intro s hs
  simp only [kTexts, List.mem_cons, List.not_mem_nil, or_false] at hs
  rcases hs with rfl | rfl | rfl | rfl | rfl | rfl | rfl
  case' inr.inr.inr.inr.inr.inl => exact ⟨hV.odd, by decide⟩
  all_goals exact ⟨hV.asc _ (by decide), by decide⟩
theorem kText_ok {V : ByteArray → Bool} (hV : VOk V) (d : Dc) : V (kText d).1 = true ∧ (kText d).1.size ≤ 256 := by
  have h := kTexts_ok hV _ (d.word_mem kTexts (by simp [kTexts]))
  unfold kText
  split
  · exact kPad_ok hV _ _ _ h.1 h.2
  · exact h
end Go.AL
/- That the nodes of the kit are valid, as plain data; no program in sight. -/
set_option linter.unusedVariables false
set_option linter.unusedSimpArgs false
namespace Go.AL
open Go Go.RowKit

theorem valid_mk (V : ByteArray → Bool) (k : Int) (b : Bool) (n : Int) (t : ByteArray) (ns : List ByteArray) (is : List Nd) (e : Int) :
    (Nd.mk k b n t ns is).validB V e = true ↔ 1 ≤ e ∧ 0 ≤ k ∧ k ≤ 5 ∧ (Nd.mk k b n t ns is).fieldsOK = true ∧ textB V t = true ∧ (is.length : Int) ≤ 256 ∧ (k = 5 → namesOk (textB V) [] ns = true ∧ ns.length = is.length) ∧ ∀ x ∈ is, x.validB V (e - 1) = true := by
  rw [Nd.validB, Nd.anyBad_any]
  simp only [Bool.and_eq_true, Bool.not_eq_true', Bool.or_eq_false_iff, decide_eq_false_iff_not, Bool.not_eq_false', Bool.or_eq_true, decide_eq_true_eq, List.any_eq_false]
  constructor
  · rintro ⟨⟨⟨⟨⟨⟨⟨h1, h2⟩, h3⟩, h4⟩, h5⟩, h6⟩, h7⟩, h8⟩
    refine ⟨by omega, by omega, by omega, by simpa using h4, by simpa using h5, by omega, fun hk => ?_, fun x hx => by simpa using h8 x hx⟩
    rcases h7 with h7 | h7
    · exact absurd hk h7
    · exact ⟨h7.1, by omega⟩
  · rintro ⟨h1, h2, h3, h4, h5, h6, h7, h8⟩
    refine ⟨⟨⟨⟨⟨⟨⟨by omega, by omega⟩, by omega⟩, by simpa using h4⟩, by simpa using h5⟩, by omega⟩, ?_⟩, fun x hx => by simpa using h8 x hx⟩
    by_cases hk : k = 5
    · exact .inr ⟨(h7 hk).1, by have := (h7 hk).2; omega⟩
    · exact .inl hk
theorem text_empty {V : ByteArray → Bool} (hV : VOk V) : textB V eS = true := by
  unfold textB
  rw [hV.asc eS (by simp [eS])]
  rfl
theorem zero_valid {V : ByteArray → Bool} (hV : VOk V) (e : Int) (he : 1 ≤ e) : Nd.zero.validB V e = true := by
  rw [Nd.zero, valid_mk]
  exact ⟨he, by decide, by decide, by decide, text_empty hV, by simp, by simp, by simp⟩

theorem kItems_len (f : Dc → Nd × Dc) : ∀ (c : Nat) (d : Dc), (kItems f c d).1.length = c
  | 0, d => rfl
  | c + 1, d => by simp [kItems, kItems_len f c]
theorem kItems_all (f : Dc → Nd × Dc) (p : Nd → Prop) (h : ∀ d, p (f d).1) : ∀ (c : Nat) (d : Dc), ∀ x ∈ (kItems f c d).1, p x
  | 0, d => by simp [kItems]
  | c + 1, d => by
    intro x hx
    simp only [kItems, List.mem_cons] at hx
    rcases hx with rfl | hx
    · exact h d
    · exact kItems_all f p h c _ x hx
theorem kFill_ok : ∀ (f : Nat) (l : List Nd) (d : Dc), l.length ≤ 17 → (kFill f l d).1.length ≤ 17 ∧ ∀ x ∈ (kFill f l d).1, x ∈ l ∨ x = Nd.zero
  | 0, l, d, h => ⟨h, fun x hx => .inl hx⟩
  | f + 1, l, d, h => by
    have := d.next_lt 3 (by omega)
    simp only [kFill]; split
    · obtain ⟨h1, h2⟩ := kFill_ok f (l ++ [Nd.zero]) (d.next 3).2 (by simp; omega)
      refine ⟨h1, fun x hx => ?_⟩
      rcases h2 x hx with h3 | h3
      · rcases List.mem_append.1 h3 with h4 | h4
        · exact .inl h4
        · exact .inr (by simpa using h4)
      · exact .inr h3
    · exact ⟨h, fun x hx => .inl hx⟩
theorem kNames_len : ∀ (c i : Nat) (d : Dc), (kNames c i d).1.length = c
  | 0, i, d => rfl
  | c + 1, i, d => by simp [kNames, kNames_len c]
theorem kNames_mem : ∀ (c i : Nat) (d : Dc), ∀ s ∈ (kNames c i d).1, ∃ w ∈ kWords, ∃ j, i ≤ j ∧ j < i + c ∧ s = w ++ kTwo j
  | 0, i, d => by simp [kNames]
  | c + 1, i, d => by
    intro s hs
    simp only [kNames, List.mem_cons] at hs
    rcases hs with rfl | hs
    · exact ⟨_, d.word_mem kWords (by simp [kWords]), i, by omega, by omega, rfl⟩
    · obtain ⟨w, hw, j, h1, h2, h3⟩ := kNames_mem c (i + 1) _ s hs
      exact ⟨w, hw, j, by omega, by omega, h3⟩
theorem kTwo_inj {w w' : ByteArray} {i j : Nat} (hi : i < 100) (hj : j < 100) (h : w ++ kTwo i = w' ++ kTwo j) : i = j := by
  have h2 := congrArg (fun s : ByteArray => s.data.toList) h
  simp only [ByteArray.data_append, Array.toList_append] at h2
  have h3 := (List.append_inj' h2 rfl).2
  simp only [kTwo, List.cons.injEq, and_true] at h3
  have h4 := congrArg UInt8.toNat h3.1
  have h5 := congrArg UInt8.toNat h3.2
  simp only [UInt8.toNat_ofNat'] at h4 h5
  omega
theorem kNames_nodup : ∀ (c i : Nat) (d : Dc), i + c ≤ 100 → (kNames c i d).1.Nodup
  | 0, i, d, _ => by simp [kNames]
  | c + 1, i, d, h => by
    simp only [kNames, List.nodup_cons]
    refine ⟨fun hm => ?_, kNames_nodup c (i + 1) _ (by omega)⟩
    obtain ⟨w, hw, j, h1, h2, h3⟩ := kNames_mem c (i + 1) _ _ hm
    have := kTwo_inj (by omega) (by omega) h3
    omega
theorem kTwo_asc (j : Nat) (h : j < 100) : ∀ b ∈ (kTwo j).data.toList, b.toNat < 128 := by
  intro b hb
  simp only [kTwo, List.mem_cons, List.not_mem_nil, or_false] at hb
  rcases hb with rfl | rfl <;> simp only [UInt8.toNat_ofNat'] <;> omega
theorem kWords_asc : ∀ w ∈ kWords, (∀ b ∈ w.data.toList, b.toNat < 128) ∧ w.size ≤ 1 := by
  intro w hw
  simp only [kWords, List.mem_cons, List.not_mem_nil, or_false] at hw
  rcases hw with rfl | rfl | rfl | rfl | rfl <;> exact ⟨by decide, by decide⟩
theorem kNames_text {V : ByteArray → Bool} (hV : VOk V) (c i : Nat) (d : Dc) (h : i + c ≤ 100) : ∀ s ∈ (kNames c i d).1, textB V s = true := by
  intro s hs
  obtain ⟨w, hw, j, h1, h2, rfl⟩ := kNames_mem c i d s hs
  have hw2 := kWords_asc w hw
  unfold textB
  rw [hV.asc _ ?_]
  · have : (kTwo j).size = 2 := rfl
    rw [ByteArray.size_append]
    simp; omega
  · intro b hb
    rw [ByteArray.data_append, Array.toList_append] at hb
    rcases List.mem_append.1 hb with hb | hb
    · exact hw2.1 b hb
    · exact kTwo_asc j (by omega) b hb
theorem kSeq_ok {V : ByteArray → Bool} (hV : VOk V) (k : Int) (hk : k = 4 ∨ k = 5) (f : Dc → Nd × Dc) (e : Int) (he : 2 ≤ e) (hf : ∀ d, (f d).1.validB V (e - 1) = true) (d : Dc) : (kSeq k f d).1.validB V e = true := by
  have hq := d.next_lt 4 (by omega)
  have hl := kItems_len f (d.next 4).1.toNat (d.next 4).2
  have ha := kItems_all f (fun x => x.validB V (e - 1) = true) hf (d.next 4).1.toNat (d.next 4).2
  unfold kSeq
  simp only
  generalize kItems f (d.next 4).1.toNat (d.next 4).2 = is at hl ha ⊢
  have hg : ∃ g : List Nd × Dc, (if (is.2.next 20).1 = 1 then kFill 20 is.1 (is.2.next 20).2 else (is.1, (is.2.next 20).2)) = g ∧ g.1.length ≤ 17 ∧ ∀ x ∈ g.1, x.validB V (e - 1) = true := by
    refine ⟨_, rfl, ?_⟩
    split
    · obtain ⟨h1, h2⟩ := kFill_ok 20 is.1 (is.2.next 20).2 (by omega)
      refine ⟨h1, fun x hx => ?_⟩
      rcases h2 x hx with h | rfl
      · exact ha x h
      · exact zero_valid hV _ (by omega)
    · exact ⟨by simp only; omega, ha⟩
  obtain ⟨g, e1, e2, e3⟩ := hg
  rw [e1, valid_mk]
  refine ⟨by omega, by omega, by omega, ?_, text_empty hV, by omega, fun h5 => ?_, e3⟩
  · rcases hk with rfl | rfl <;> simp [Nd.fieldsOK, eS]
  · subst h5
    simp only [if_true]
    exact ⟨(namesOk_iff _ _ _).2 ⟨kNames_nodup _ _ _ (by omega), fun s hs => ⟨by simp, kNames_text hV _ _ _ (by omega) s hs⟩⟩, kNames_len _ _ _⟩
theorem kTree_ok {V : ByteArray → Bool} (hV : VOk V) (rec : Option (Dc → Nd × Dc)) (e : Int) (he : 1 ≤ e) (hf : ∀ f, rec = some f → 2 ≤ e ∧ ∀ d, (f d).1.validB V (e - 1) = true) (d : Dc) : (kTree rec d).1.validB V e = true := by
  unfold kTree
  simp only
  split
  · rw [valid_mk]
    exact ⟨he, by decide, by decide, by simp [Nd.fieldsOK, eS], text_empty hV, by simp, by simp, by simp⟩
  · split
    · rw [valid_mk]
      exact ⟨he, by decide, by decide, by simp [Nd.fieldsOK, eS], text_empty hV, by simp, by simp, by simp⟩
    · split
      · rw [valid_mk]
        have := kText_ok hV (d.next 6).2
        exact ⟨he, by decide, by decide, by simp [Nd.fieldsOK], by simp [textB, this.1]; omega, by simp, by simp, by simp⟩
      · split
        · rename_i hk
          split
          · rw [valid_mk]
            refine ⟨he, by omega, by omega, ?_, text_empty hV, by simp, fun _ => by simp [namesOk], by simp⟩
            rcases hk with h | h <;> simp [Nd.fieldsOK, eS, h]
          · rename_i f
            exact kSeq_ok hV _ hk f e (hf f rfl).1 (hf f rfl).2 _
        · exact zero_valid hV e he
theorem kNode_ok {V : ByteArray → Bool} (hV : VOk V) : ∀ (n : Nat) (d : Dc) (e : Int), 1 ≤ e → (n : Int) ≤ e → (kNode n d).1.validB V e = true
  | 0, d, e, h1, h2 => kTree_ok hV none e h1 (by simp) d
  | 1, d, e, h1, h2 => kTree_ok hV none e h1 (by simp) d
  | n + 2, d, e, h1, h2 => kTree_ok hV _ e h1 (by
      rintro f h
      cases h
      exact ⟨by omega, fun d => kNode_ok hV (n + 1) d (e - 1) (by omega) (by omega)⟩) d
end Go.AL
/- What putting into a map keeps, and when two nodes are the same, as plain data; no program in sight. -/
set_option linter.unusedVariables false
set_option linter.unusedSimpArgs false
namespace Go.AL
open Go Go.RowKit

mutual
def Nd.same : Nd → Nd → Bool
  | .mk k b n t ns is, .mk k' b' n' t' ns' is' => decide (k = k') && decide (b = b') && decide (n = n') && decide (t = t') && decide (ns = ns') && Nd.sames is is'
def Nd.sames : List Nd → List Nd → Bool
  | [], [] => true
  | x :: xs, y :: ys => x.same y && Nd.sames xs ys
  | [], _ :: _ => false
  | _ :: _, [] => false
end
mutual
theorem Nd.same_iff : ∀ x y : Nd, x.same y = true ↔ x = y
  | .mk k b n t ns is, .mk k' b' n' t' ns' is' => by
    simp only [Nd.same, Bool.and_eq_true, decide_eq_true_eq, Nd.sames_iff is is', Nd.mk.injEq]
    constructor
    · rintro ⟨⟨⟨⟨⟨h1, h2⟩, h3⟩, h4⟩, h5⟩, h6⟩; exact ⟨h1, h2, h3, h4, h5, h6⟩
    · rintro ⟨h1, h2, h3, h4, h5, h6⟩; exact ⟨⟨⟨⟨⟨h1, h2⟩, h3⟩, h4⟩, h5⟩, h6⟩
theorem Nd.sames_iff : ∀ x y : List Nd, Nd.sames x y = true ↔ x = y
  | [], [] => by simp [Nd.sames]
  | x :: xs, y :: ys => by simp only [Nd.sames, Bool.and_eq_true, Nd.same_iff x y, Nd.sames_iff xs ys, List.cons.injEq]
  | [], _ :: _ => by simp [Nd.sames]
  | _ :: _, [] => by simp [Nd.sames]
end
theorem Nd.same_refl (x : Nd) : x.same x = true := (Nd.same_iff x x).2 rfl

/-- A map whose names are all different, and as many as its items. -/
structure Nd.IsMap (m : Nd) : Prop where
  kind : m.kind = 5
  len : m.names.length = m.items.length
  nodup : m.names.Nodup
theorem Nd.IsMap.place_eq {m : Nd} (h : m.IsMap) (s : ByteArray) : m.place s = idxB s m.names 0 := by
  unfold Nd.place
  rw [if_pos h.kind, ← h.len, Nat.min_self, List.take_length]
theorem Nd.IsMap.place_at {m : Nd} (h : m.IsMap) {i : Nat} {s : ByteArray} (hi : m.names[i]? = some s) : m.place s = i := by
  rw [h.place_eq, idxB_at s _ 0 i h.nodup hi]; omega
theorem Nd.IsMap.set {m : Nd} (h : m.IsMap) (s : ByteArray) (v : Nd) : (m.set s v).IsMap := by
  unfold Nd.set
  split
  · exact ⟨h.kind, by simpa [Nd.names, Nd.items] using h.len, h.nodup⟩
  · rename_i hp
    refine ⟨h.kind, by simp only [Nd.names, Nd.items, List.length_append, List.length_singleton]; have := h.len; simp only [Nd.names, Nd.items] at this; cases m; simpa using this, ?_⟩
    show (m.names ++ [s]).Nodup
    rw [List.nodup_append]
    refine ⟨h.nodup, by simp, fun a ha b hb => ?_⟩
    simp only [List.mem_singleton] at hb
    subst hb
    rintro rfl
    obtain ⟨i, hi⟩ := List.getElem?_of_mem ha
    have := h.place_at hi
    omega
end Go.AL
/- The second serialisation as plain data: how a node is written and read, and that it comes back; no program in sight. -/
set_option linter.unusedVariables false
namespace Go.AL
open Go Go.RowKit

def ofL (l : List UInt8) : ByteArray := ⟨l.toArray⟩
theorem ofL_toList (l : List UInt8) : (ofL l).data.toList = l := by simp [ofL]
theorem ofL_size (l : List UInt8) : (ofL l).size = l.length := by simp [ofL, ByteArray.size]
theorem ofL_of (s : ByteArray) : ofL s.data.toList = s := by cases s; simp [ofL]
theorem ofL_extract (l : List UInt8) (a b : Nat) : (ofL l).extract a b = ofL ((l.drop a).take (b - a)) := by
  have h : ((ofL l).extract a b).data.toList = (ofL ((l.drop a).take (b - a))).data.toList := by
    rw [ofL_toList]; simp [ofL, ByteArray.data_extract]
  have := congrArg ofL h
  rwa [ofL_of, ofL_of] at this
def bigL : Nat → Nat → List UInt8
  | 0, _ => []
  | k + 1, n => UInt8.ofNat (n / 256 ^ k) :: bigL k n
theorem bigL_len : ∀ k n, (bigL k n).length = k
  | 0, n => rfl
  | k + 1, n => by simp [bigL, bigL_len k n]
def hdL (m n : Nat) : List UInt8 :=
  if n < 24 then [UInt8.ofNat (32 * m + n)] else if n < 256 then UInt8.ofNat (32 * m + 24) :: bigL 1 n
  else if n < 65536 then UInt8.ofNat (32 * m + 25) :: bigL 2 n else if n < 4294967296 then UInt8.ofNat (32 * m + 26) :: bigL 4 n
  else UInt8.ofNat (32 * m + 27) :: bigL 8 n
mutual
def Nd.cb : Nd → List UInt8
  | .mk k b n t ns is =>
    if k = 0 then hdL 7 22 else if k = 1 then hdL 7 (if b then 21 else 20) else if k = 2 then (if n < 0 then hdL 1 (-1 - n).toNat else hdL 0 n.toNat)
    else if k = 3 then hdL 3 t.size ++ t.data.toList else if k = 4 then hdL 4 is.length ++ Nd.cbs is else hdL 5 is.length ++ Nd.cbm ns is
def Nd.cbs : List Nd → List UInt8
  | [] => []
  | x :: xs => x.cb ++ Nd.cbs xs
def Nd.cbm : List ByteArray → List Nd → List UInt8
  | s :: ns, x :: xs => hdL 3 s.size ++ s.data.toList ++ x.cb ++ Nd.cbm ns xs
  | _, _ => []
end

/-! ### the reader -/
structure Rs where
  s : ByteArray
  bad : Bool
def Rs.take (r : Rs) (n : Int) : ByteArray × Rs :=
  if r.bad = true ∨ n < 0 ∨ (r.s.size : Int) < n then (eS, ⟨r.s, true⟩) else (r.s.extract 0 n.toNat, ⟨r.s.extract n.toNat r.s.size, false⟩)
def Rs.byte (r : Rs) : Int × Rs := (if (r.take 1).1 = eS then 0 else bAt (r.take 1).1 0, (r.take 1).2)
def u64Step (n : Int) (b : UInt8) : Int := n * 256 % 18446744073709551616 + b.toNat
def Rs.uint (r : Rs) (k : Int) : Int × Rs := ((r.take k).1.data.toList.foldl u64Step 0, (r.take k).2)
def Rs.fits (r : Rs) (n : Int) : Int × Rs := if (r.s.size : Int) < n then (0, ⟨r.s, true⟩) else (n, r)
def cHead (r : Rs) : (Int × Int) × Rs :=
  if r.byte.1 % 32 < 24 then ((r.byte.1 / 32, r.byte.1 % 32), r.byte.2)
  else if 27 < r.byte.1 % 32 then ((r.byte.1 / 32, 0), ⟨r.byte.2.s, true⟩)
  else ((r.byte.1 / 32, (r.byte.2.uint (2 ^ (r.byte.1 % 32 - 24).toNat)).1), (r.byte.2.uint (2 ^ (r.byte.1 % 32 - 24).toNat)).2)
def cText (r : Rs) (n : Int) : ByteArray × Rs := (r.fits n).2.take (r.fits n).1
def cName (r : Rs) : ByteArray × Rs := cText (if (cHead r).1.1 = 3 then (cHead r).2 else ⟨(cHead r).2.s, true⟩) (cHead r).1.2
def cItems (f : Rs → Nd × Rs) (k : Int) : Nat → List ByteArray → List Nd → Rs → Nd × Rs
  | 0, ns, is, r => (.mk k false 0 eS ns is, r)
  | c + 1, ns, is, r => if r.bad = true then (.mk k false 0 eS ns is, r)
    else if k = 5 then cItems f k c (ns ++ [(cName r).1]) (is ++ [(f (cName r).2).1]) (f (cName r).2).2
    else cItems f k c ns (is ++ [(f r).1]) (f r).2
def i64 (n : Int) : Int := IntKind.i64.wrap n
def cNode : Nat → Rs → Nd × Rs
  | 0, r => (Nd.zero, ⟨(cHead r).2.s, true⟩)
  | d + 1, r =>
    let m := (cHead r).1.1
    let n := (cHead r).1.2
    let q := (cHead r).2
    if m = 0 then (.mk 2 false (i64 n) eS [] [], q)
    else if m = 1 then (.mk 2 false (-1 - i64 n) eS [] [], q)
    else if m = 3 then (.mk 3 false 0 (cText q n).1 [] [], (cText q n).2)
    else if m = 4 then cItems (cNode d) 4 (q.fits n).1.toNat [] [] (q.fits n).2
    else if m = 5 then cItems (cNode d) 5 (q.fits n).1.toNat [] [] (q.fits n).2
    else if m = 7 ∧ (n = 21 ∨ n = 20) then (.mk 1 (decide (n = 21)) 0 eS [] [], q)
    else (Nd.zero, q)

/-! ### what was written comes back -/
theorem take_ofL (a b : List UInt8) : (Rs.mk (ofL (a ++ b)) false).take a.length = (ofL a, ⟨ofL b, false⟩) := by
  unfold Rs.take
  rw [if_neg (by rw [ofL_size]; simp; omega)]
  simp [ofL_extract, ofL_size]
theorem byte_ofL (a : UInt8) (b : List UInt8) : (Rs.mk (ofL (a :: b)) false).byte = ((a.toNat : Int), ⟨ofL b, false⟩) := by
  have h := take_ofL [a] b
  simp only [List.length_singleton, List.singleton_append] at h
  unfold Rs.byte
  rw [show ((1 : Nat) : Int) = 1 from rfl] at h
  rw [h]
  simp only
  rw [if_neg (by intro e; have := congrArg ByteArray.size e; rw [ofL_size] at this; have h2 : (1 : Nat) = 0 := this; omega)]
  simp [bAt, ofL]
theorem big_fold : ∀ (k n : Nat) (acc : Nat), acc * 256 ^ k + n % 256 ^ k < 18446744073709551616 → (bigL k n).foldl u64Step acc = ((acc * 256 ^ k + n % 256 ^ k : Nat) : Int)
  | 0, n, acc, h => by simp [bigL, Nat.mod_one]
  | k + 1, n, acc, h => by
    have hp : 0 < 256 ^ k := Nat.pos_of_ne_zero (by simp)
    have e1 : n % 256 ^ (k + 1) = (n / 256 ^ k % 256) * 256 ^ k + n % 256 ^ k := by
      rw [Nat.pow_succ, Nat.mod_mul]; rw [Nat.mul_comm]; omega
    have e2 : acc * 256 ^ (k + 1) = (acc * 256) * 256 ^ k := by rw [Nat.pow_succ, Nat.mul_comm (256 ^ k) 256, Nat.mul_assoc]
    have e3 : (acc * 256) * 256 ^ k + (n / 256 ^ k % 256) * 256 ^ k = (acc * 256 + n / 256 ^ k % 256) * 256 ^ k := by rw [Nat.add_mul]
    have hb : acc * 256 + n / 256 ^ k % 256 < 18446744073709551616 := by
      rw [e1, e2] at h
      have := Nat.le_mul_of_pos_right (acc * 256 + n / 256 ^ k % 256) hp
      omega
    have hs : u64Step (acc : Int) (UInt8.ofNat (n / 256 ^ k)) = ((acc * 256 + n / 256 ^ k % 256 : Nat) : Int) := by
      unfold u64Step
      rw [UInt8.toNat_ofNat']
      omega
    simp only [bigL, List.foldl_cons]
    have e4 : (acc * 256 + n / 256 ^ k % 256) * 256 ^ k + n % 256 ^ k = acc * 256 ^ (k + 1) + n % 256 ^ (k + 1) := by rw [e1, e2, ← e3]; omega
    rw [hs, big_fold k n _ (by rw [e4]; exact h), e4]
/-- Its numbers are of 64 bits. -/
inductive Nd.In : Nd → Prop
  | mk {k : Int} {b : Bool} {n : Int} {t : ByteArray} {ns : List ByteArray} {is : List Nd} : -9223372036854775808 ≤ n → n ≤ 9223372036854775807 → (∀ x ∈ is, x.In) → Nd.In (.mk k b n t ns is)

end Go.AL
/- That dice keep their numbers, as plain data; no program in sight. -/
set_option linter.unusedVariables false
namespace Go.AL
open Go Go.RowKit
theorem Dc.word_l (d : Dc) (l : List ByteArray) : (d.word l).2.l = d.l := d.next_l _
theorem kPad_l : ∀ (f : Nat) (s : ByteArray) (d : Dc), (kPad f s d).2.l = d.l
  | 0, s, d => d.next_l _
  | f + 1, s, d => by
    simp only [kPad]; split
    · rw [kPad_l f, Dc.next_l]
    · exact d.next_l _
theorem kText_l (d : Dc) : (kText d).2.l = d.l := by
  unfold kText; split
  · rw [kPad_l, Dc.next_l, Dc.word_l]
  · simp only; rw [Dc.next_l, Dc.word_l]
theorem kFill_l : ∀ (f : Nat) (l : List Nd) (d : Dc), (kFill f l d).2.l = d.l
  | 0, s, d => d.next_l _
  | f + 1, s, d => by
    simp only [kFill]; split
    · rw [kFill_l f, Dc.next_l]
    · exact d.next_l _
theorem kNames_l : ∀ (c i : Nat) (d : Dc), (kNames c i d).2.l = d.l
  | 0, i, d => rfl
  | c + 1, i, d => by simp only [kNames]; rw [kNames_l c, Dc.word_l]
theorem kItems_l (f : Dc → Nd × Dc) (h : ∀ d, (f d).2.l = d.l) : ∀ (c : Nat) (d : Dc), (kItems f c d).2.l = d.l
  | 0, d => rfl
  | c + 1, d => by simp only [kItems]; rw [kItems_l f h c, h]
theorem kSeq_l (k : Int) (f : Dc → Nd × Dc) (h : ∀ d, (f d).2.l = d.l) (d : Dc) : (kSeq k f d).2.l = d.l := by
  unfold kSeq
  simp only
  have e1 := kItems_l f h (d.next 4).1.toNat (d.next 4).2
  rw [Dc.next_l] at e1
  generalize kItems f (d.next 4).1.toNat (d.next 4).2 = is at *
  have e2 : (if (is.2.next 20).1 = 1 then kFill 20 is.1 (is.2.next 20).2 else (is.1, (is.2.next 20).2)).2.l = d.l := by
    split
    · rw [kFill_l, Dc.next_l, e1]
    · simp only; rw [Dc.next_l, e1]
  generalize (if (is.2.next 20).1 = 1 then kFill 20 is.1 (is.2.next 20).2 else (is.1, (is.2.next 20).2)) = g at *
  split
  · rw [kNames_l, e2]
  · exact e2
theorem kTree_l (rec : Option (Dc → Nd × Dc)) (h : ∀ f, rec = some f → ∀ d, (f d).2.l = d.l) (d : Dc) : (kTree rec d).2.l = d.l := by
  unfold kTree
  simp only
  split
  · simp only [Dc.next_l]
  · split
    · simp only [Dc.next_l]
    · split
      · simp only [kText_l, Dc.next_l]
      · split
        · split
          · simp only [Dc.next_l]
          · rename_i f; rw [kSeq_l _ f (h f rfl), Dc.next_l]
        · simp only [Dc.next_l]
theorem kNode_l : ∀ (n : Nat) (d : Dc), (kNode n d).2.l = d.l
  | 0, d => kTree_l none (by simp) d
  | 1, d => kTree_l none (by simp) d
  | n + 2, d => kTree_l _ (by rintro f h; cases h; exact kNode_l (n + 1)) d
end Go.AL
/- That valid nodes are small, as plain data; no program in sight. -/
set_option linter.unusedVariables false
namespace Go.AL
open Go Go.RowKit
theorem Nd.ok_of_valid {V : ByteArray → Bool} : ∀ (x : Nd) (e : Int), x.validB V e = true → x.Ok
  | .mk k b n t ns is, e, h => by
    rw [valid_mk] at h
    obtain ⟨_, _, _, h4, _, h6, h7, h8⟩ := h
    refine .mk ?_ (by omega) fun x hx => Nd.ok_of_valid x (e - 1) (h8 x hx)
    by_cases hk : k = 5
    · have := (h7 hk).2; omega
    · have : ns.length = 0 := by
        simp only [Nd.fieldsOK, Bool.and_eq_true, Bool.or_eq_true, decide_eq_true_eq] at h4
        have := h4.2
        omega
      omega
termination_by x => SizeOf.sizeOf x
decreasing_by
  have := List.sizeOf_lt_of_mem hx
  simp only [Nd.mk.sizeOf_spec]
  omega
end Go.AL
/- That the bytes of a valid node are read as that node, as plain data; no program in sight. -/
set_option linter.unusedVariables false
namespace Go.AL
open Go Go.RowKit

theorem i64_id {n : Int} (h0 : -9223372036854775808 ≤ n) (h1 : n ≤ 9223372036854775807) : i64 n = n := wrap64 h0 h1
end Go.AL
/- How many bytes the kit's nodes take, as plain data; no program in sight. -/
set_option linter.unusedVariables false
namespace Go.AL
open Go Go.RowKit

theorem hdL_len {m n : Nat} : (hdL m n).length ≤ 9 := by
  unfold hdL; repeat' split
  all_goals simp [bigL_len]
theorem hdL_len3 {m n : Nat} (h : n < 65536) : (hdL m n).length ≤ 3 := by
  unfold hdL; repeat' split
  all_goals first | (simp [bigL_len]; done) | omega
theorem hdL_len1 {m n : Nat} (h : n < 24) : (hdL m n).length = 1 := by
  unfold hdL; rw [if_pos h]; rfl
theorem toList_len (s : ByteArray) : s.data.toList.length = s.size := by rw [Array.length_toList]; rfl
theorem zero_cb : Nd.zero.cb.length = 1 := by simp [Nd.zero, Nd.cb, hdL]
theorem cbs_le {B : Nat} : ∀ {l : List Nd}, (∀ x ∈ l, x.cb.length ≤ B) → (Nd.cbs l).length ≤ l.length * B
  | [], _ => by simp [Nd.cbs]
  | x :: l, h => by
    have h1 := h x (by simp)
    have h2 := cbs_le (l := l) (fun y hy => h y (by simp [hy]))
    simp only [Nd.cbs, List.length_append, List.length_cons, Nat.add_mul]; omega
theorem cbm_le {C : Nat} : ∀ {ns : List ByteArray} {l : List Nd}, (∀ s ∈ ns, s.size ≤ C) → C < 65536 → (Nd.cbm ns l).length ≤ (Nd.cbs l).length + l.length * (C + 3)
  | [], l, _, _ => by cases l <;> simp [Nd.cbm]
  | s :: ns, [], _, _ => by simp [Nd.cbm, Nd.cbs]
  | s :: ns, x :: l, h, hC => by
    have h1 := h s (by simp)
    have h2 := cbm_le (ns := ns) (l := l) (fun y hy => h y (by simp [hy])) hC
    have h3 := hdL_len3 (m := 3) (n := s.size) (by omega)
    simp only [Nd.cbm, Nd.cbs, List.length_append, List.length_cons, toList_len, Nat.add_mul]; omega
theorem kFill_shape : ∀ (f : Nat) (l : List Nd) (d : Dc), l.length ≤ 17 → ∃ m, (kFill f l d).1 = l ++ List.replicate m Nd.zero ∧ l.length + m ≤ 17
  | 0, l, d, h => ⟨0, by simp [kFill], by omega⟩
  | f + 1, l, d, h => by
    have := d.next_lt 3 (by omega)
    simp only [kFill]; split
    · obtain ⟨m, h1, h2⟩ := kFill_shape f (l ++ [Nd.zero]) (d.next 3).2 (by simp; omega)
      refine ⟨m + 1, ?_, by simp at h2; omega⟩
      rw [h1, List.append_assoc]; rfl
    · exact ⟨0, by simp, by omega⟩
theorem cbs_zeros : ∀ m, (Nd.cbs (List.replicate m Nd.zero)).length = m
  | 0 => rfl
  | m + 1 => by simp only [List.replicate_succ, Nd.cbs, List.length_append, zero_cb, cbs_zeros m]; omega
theorem cbs_app : ∀ (a b : List Nd), Nd.cbs (a ++ b) = Nd.cbs a ++ Nd.cbs b
  | [], b => rfl
  | x :: a, b => by simp [Nd.cbs, cbs_app a b]
theorem zero_in : Nd.zero.In := .mk (by decide) (by decide) (by simp)
theorem kNames_size (c i : Nat) (d : Dc) : ∀ s ∈ (kNames c i d).1, s.size ≤ 3 := by
  intro s hs
  obtain ⟨w, hw, j, _, _, rfl⟩ := kNames_mem c i d s hs
  have := (kWords_asc w hw).2
  rw [ByteArray.size_append]
  have : (kTwo j).size = 2 := rfl
  omega
theorem kSeq_cb (k : Int) (hk : k = 4 ∨ k = 5) (f : Dc → Nd × Dc) (B : Nat) (hB : 1 ≤ B) (hf : ∀ d, (f d).1.cb.length ≤ B ∧ (f d).1.In) (d : Dc) : (kSeq k f d).1.cb.length ≤ 3 * B + 150 ∧ (kSeq k f d).1.In := by
  have hq := d.next_lt 4 (by omega)
  have hl := kItems_len f (d.next 4).1.toNat (d.next 4).2
  have ha := kItems_all f (fun x => x.cb.length ≤ B ∧ x.In) hf (d.next 4).1.toNat (d.next 4).2
  unfold kSeq
  simp only
  generalize kItems f (d.next 4).1.toNat (d.next 4).2 = is at hl ha ⊢
  have hg : ∃ g : List Nd × Dc, (if (is.2.next 20).1 = 1 then kFill 20 is.1 (is.2.next 20).2 else (is.1, (is.2.next 20).2)) = g ∧ g.1.length ≤ 17 ∧ (Nd.cbs g.1).length ≤ 3 * B + 17 ∧ ∀ x ∈ g.1, x.In := by
    have hb := cbs_le (B := B) (l := is.1) (fun x hx => (ha x hx).1)
    have hb3 : is.1.length * B ≤ 3 * B := Nat.mul_le_mul_right _ (by omega)
    refine ⟨_, rfl, ?_⟩
    split
    · obtain ⟨m, h1, h2⟩ := kFill_shape 20 is.1 (is.2.next 20).2 (by omega)
      rw [h1]
      refine ⟨by simp; omega, ?_, fun x hx => ?_⟩
      · rw [cbs_app, List.length_append, cbs_zeros]; omega
      · rcases List.mem_append.1 hx with h | h
        · exact (ha x h).2
        · rw [List.eq_of_mem_replicate h]; exact zero_in
    · exact ⟨by simp only; omega, by simp only; omega, fun x hx => (ha x hx).2⟩
  obtain ⟨g, e1, e2, e3, e4⟩ := hg
  rw [e1]
  refine ⟨?_, .mk (by decide) (by decide) e4⟩
  have h1 := hdL_len1 (m := 4) (n := g.1.length) (by omega)
  have h2 := hdL_len1 (m := 5) (n := g.1.length) (by omega)
  rcases hk with rfl | rfl
  · rw [show (Nd.mk 4 false 0 eS (if (4 : Int) = 5 then kNames g.1.length 0 g.2 else ([], g.2)).1 g.1).cb = hdL 4 g.1.length ++ Nd.cbs g.1 by simp [Nd.cb]]
    rw [List.length_append, h1]; omega
  · have h3 := cbm_le (C := 3) (ns := (kNames g.1.length 0 g.2).1) (l := g.1) (kNames_size _ _ _) (by omega)
    rw [show (Nd.mk 5 false 0 eS (if (5 : Int) = 5 then kNames g.1.length 0 g.2 else ([], g.2)).1 g.1).cb = hdL 5 g.1.length ++ Nd.cbm (kNames g.1.length 0 g.2).1 g.1 by simp [Nd.cb]]
    rw [List.length_append, h2]; omega
theorem kText_size (d : Dc) : (kText d).1.size ≤ 256 := (kText_ok (V := fun _ => true) ⟨fun _ _ => rfl, fun _ _ => rfl, rfl⟩ d).2
theorem kNums_in (j : Nat) : 0 ≤ kNums.getD j 0 ∧ kNums.getD j 0 ≤ 9223372036854775807 := by
  match j with
  | 0 | 1 | 2 | 3 | 4 | 5 | 6 | 7 | 8 | 9 | 10 | 11 => simp [kNums]
  | j + 12 => simp [kNums]
theorem num_cb (n : Int) : (Nd.mk 2 false n eS [] []).cb.length ≤ 9 := by
  by_cases h : n < 0
  · rw [show (Nd.mk 2 false n eS [] []).cb = hdL 1 (-1 - n).toNat by simp [Nd.cb, h]]; exact hdL_len
  · rw [show (Nd.mk 2 false n eS [] []).cb = hdL 0 n.toNat by simp [Nd.cb, h]]; exact hdL_len
theorem kTree_cb (rec : Option (Dc → Nd × Dc)) (B : Nat) (hB : 1 ≤ B) (hf : ∀ f, rec = some f → ∀ d, (f d).1.cb.length ≤ B ∧ (f d).1.In) (d : Dc) : (kTree rec d).1.cb.length ≤ 3 * B + 300 ∧ (kTree rec d).1.In := by
  unfold kTree
  simp only
  split
  · refine ⟨?_, .mk (by decide) (by decide) (by simp)⟩
    simp only [Nd.cb]
    have h1 := hdL_len (m := 7) (n := if (decide (((d.next 6).2.next 2).1 = 1)) = true then 21 else 20)
    simp only [show ((1 : Int) = 0) = False from by simp, if_false, if_true]
    omega
  · split
    · have h := kNums_in ((d.next 6).2.next 12).1.toNat
      refine ⟨?_, .mk ?_ ?_ (by simp)⟩
      · have := num_cb (if (((d.next 6).2.next 12).2.next 2).1 = 1 then -1 - kNums.getD ((d.next 6).2.next 12).1.toNat 0 else kNums.getD ((d.next 6).2.next 12).1.toNat 0)
        exact Nat.le_trans this (by omega)
      · split <;> omega
      · split <;> omega
    · split
      · have h := kText_size (d.next 6).2
        refine ⟨?_, .mk (by decide) (by decide) (by simp)⟩
        rw [show (Nd.mk 3 false 0 (kText (d.next 6).2).1 [] []).cb = hdL 3 (kText (d.next 6).2).1.size ++ (kText (d.next 6).2).1.data.toList by simp [Nd.cb]]
        rw [List.length_append, toList_len]
        have := hdL_len (m := 3) (n := (kText (d.next 6).2).1.size)
        omega
      · split
        · rename_i hk
          split
          · refine ⟨?_, .mk (by decide) (by decide) (by simp)⟩
            have h1 := hdL_len (m := 4) (n := 0)
            have h2 := hdL_len (m := 5) (n := 0)
            rcases hk with h | h <;> rw [h] <;> simp [Nd.cb, Nd.cbs, Nd.cbm] <;> omega
          · rename_i f
            have := kSeq_cb _ hk f B hB (hf f rfl) (d.next 6).2
            exact ⟨by omega, this.2⟩
        · exact ⟨by rw [zero_cb]; omega, zero_in⟩
def kB : Nat → Nat
  | 0 => 303
  | 1 => 303
  | n + 2 => 3 * kB (n + 1) + 300
theorem kB_pos : ∀ n, 1 ≤ kB n
  | 0 => by decide
  | 1 => by decide
  | n + 2 => by simp only [kB]; omega
theorem kNode_cb : ∀ (n : Nat) (d : Dc), (kNode n d).1.cb.length ≤ kB n ∧ (kNode n d).1.In
  | 0, d => kTree_cb none 1 (by omega) (by simp) d
  | 1, d => kTree_cb none 1 (by omega) (by simp) d
  | n + 2, d => kTree_cb _ (kB (n + 1)) (kB_pos _) (by
      rintro f h
      cases h
      exact fun d => kNode_cb (n + 1) d) d
end Go.AL
/- What the reader of the second serialisation takes, as plain data; no program in sight. -/
set_option linter.unusedVariables false
namespace Go.AL
open Go Go.RowKit

theorem take_good {r : Rs} {n : Int} (h : (r.take n).2.bad = false) : r.bad = false ∧ 0 ≤ n ∧ n ≤ r.s.size ∧ (r.take n).1.size = n.toNat ∧ (r.take n).2.s.size + n.toNat = r.s.size := by
  unfold Rs.take at h ⊢
  split at h
  · simp at h
  · rename_i hn
    rw [if_neg hn]
    simp only [not_or, Bool.not_eq_true, Int.not_lt] at hn
    refine ⟨hn.1, hn.2.1, hn.2.2, ?_, ?_⟩
    · simp only [ByteArray.size_extract]; omega
    · simp only [ByteArray.size_extract]; omega
theorem byte_good {r : Rs} (h : r.byte.2.bad = false) : r.bad = false ∧ r.byte.2.s.size + 1 = r.s.size := by
  have := take_good (r := r) (n := 1) h
  exact ⟨this.1, this.2.2.2.2⟩
theorem bAt_range (s : ByteArray) (i : Int) : 0 ≤ bAt s i ∧ bAt s i < 256 := by
  unfold bAt
  have := (s.data.toList.getD i.toNat 0).toNat_lt
  omega
theorem byte_range (r : Rs) : 0 ≤ r.byte.1 ∧ r.byte.1 < 256 := by
  unfold Rs.byte
  simp only
  split
  · omega
  · exact bAt_range _ _
theorem fold_range : ∀ (l : List UInt8) (k : Nat) (acc : Int), 0 ≤ acc → acc < (256 : Int) ^ k → k + l.length ≤ 8 → 0 ≤ l.foldl u64Step acc ∧ l.foldl u64Step acc < (256 : Int) ^ (k + l.length)
  | [], k, acc, h0, h1, _ => by simpa using ⟨h0, h1⟩
  | b :: l, k, acc, h0, h1, hk => by
    have hb := b.toNat_lt
    have hp : (256 : Int) ^ (k + 1) = 256 ^ k * 256 := by rw [Int.pow_succ]
    have h8 : (256 : Int) ^ (k + 1) ≤ 18446744073709551616 := by
      have hk1 : k + 1 ≤ 8 := by simp at hk; omega
      have h1 : (256 : Nat) ^ (k + 1) ≤ 256 ^ 8 := Nat.pow_le_pow_right (by decide) hk1
      have h2 : (256 : Nat) ^ 8 = 18446744073709551616 := by decide +kernel
      have h3 : (256 : Int) ^ (k + 1) = ((256 ^ (k + 1) : Nat) : Int) := by simp
      rw [h3]; omega
    have hs : u64Step acc b = acc * 256 + b.toNat := by
      unfold u64Step
      rw [Int.emod_eq_of_lt (by omega) (by omega)]
    have := fold_range l (k + 1) (u64Step acc b) (by rw [hs]; omega) (by rw [hs, hp]; omega) (by simp at hk; omega)
    rw [List.foldl_cons, List.length_cons, show k + (l.length + 1) = k + 1 + l.length by omega]
    exact this
theorem uint_good {r : Rs} {i : Nat} (hi : i ≤ 3) (h : (r.uint (2 ^ i)).2.bad = false) : r.bad = false ∧ (r.uint (2 ^ i)).2.s.size + 2 ^ i = r.s.size ∧ 0 ≤ (r.uint (2 ^ i)).1 ∧ (r.uint (2 ^ i)).1 < (256 : Int) ^ (2 ^ i) := by
  have e : ((2 : Int) ^ i).toNat = 2 ^ i := by
    match i, hi with
    | 0, _ | 1, _ | 2, _ | 3, _ => decide
  obtain ⟨h1, h2, h3, h4, h5⟩ := take_good (r := r) (n := 2 ^ i) h
  rw [e] at h4 h5
  have h8 : 2 ^ i ≤ 8 := by
    match i, hi with
    | 0, _ | 1, _ | 2, _ | 3, _ => decide
  have := fold_range (r.take (2 ^ i)).1.data.toList 0 0 (by omega) (by decide) (by rw [toList_len, h4]; omega)
  rw [toList_len, h4, Nat.zero_add] at this
  exact ⟨h1, h5, this.1, this.2⟩
theorem fits_good {r : Rs} {n : Int} (h : (r.fits n).2.bad = false) : (r.fits n).2 = r ∧ (r.fits n).1 = n ∧ n ≤ r.s.size ∧ r.bad = false := by
  unfold Rs.fits at h ⊢
  split at h
  · simp at h
  · rename_i hc
    rw [if_neg hc]
    exact ⟨rfl, rfl, by omega, h⟩
theorem i64_range (n : Int) : -9223372036854775808 ≤ i64 n ∧ i64 n ≤ 9223372036854775807 := by
  unfold i64
  simp only [IntKind.wrap, IntKind.signed, IntKind.bits]
  simp
  split <;> omega
end Go.AL
/- The second serialisation's reading and writing as plain functions of bytes; no program in sight. -/
set_option linter.unusedVariables false
namespace Go.AL
open Go Go.RowKit

def cEnc (V : ByteArray → Bool) (x : Nd) : ByteArray × Int := if x.validB V 8 = true then (if 65536 < x.cb.length then (eS, 3) else (ofL x.cb, 0)) else (eS, 1)
def cRead (s : ByteArray) : Nd × Rs := cNode 8 ⟨s, false⟩
def cGood (V : ByteArray → Bool) (s : ByteArray) : Prop := (cRead s).2.bad = false ∧ (cRead s).2.s = eS ∧ (cRead s).1.validB V 8 = true ∧ cEnc V (cRead s).1 = (s, 0)
instance (V : ByteArray → Bool) (s : ByteArray) : Decidable (cGood V s) := by unfold cGood; exact inferInstance
def cDec (V : ByteArray → Bool) (s : ByteArray) : Nd × Int := if cGood V s then ((cRead s).1, 0) else (Nd.zero, 4)

end Go.AL
/- The reader's rest never grows, and what it reads is not too large; no program in sight. -/
set_option linter.unusedVariables false
namespace Go.AL
open Go Go.RowKit

theorem take_le (r : Rs) (n : Int) : (r.take n).2.s.size ≤ r.s.size := by
  unfold Rs.take
  split
  · exact Nat.le_refl _
  · simp only [ByteArray.size_extract]; omega
theorem byte_le (r : Rs) : r.byte.2.s.size ≤ r.s.size := take_le r 1
theorem zero_ok : Nd.zero.Ok := .mk (by simp) (by simp) (by simp)
end Go.AL
/- The document's reader of the second serialisation as plain functions, and that it reads what was written; no program in sight. -/
set_option linter.unusedVariables false
namespace Go.AL
open Go Go.RowKit

/-- A head at a place: its type, its number, and the place after it, or -1. -/
def rRead (s : ByteArray) (p : Nat) : (Int × Int) × Int :=
  if s.size ≤ p then ((0, 0), -1)
  else if bAt s p % 32 < 24 then ((bAt s p / 32, bAt s p % 32), (p : Int) + 1)
  else if 27 < bAt s p % 32 then ((0, 0), -1)
  else if (s.size : Int) - p - 1 < 2 ^ (bAt s p % 32 - 24).toNat then ((0, 0), -1)
  else ((bAt s p / 32, ((s.data.toList.drop (p + 1)).take (2 ^ (bAt s p % 32 - 24).toNat)).foldl u64Step 0), (p : Int) + 1 + 2 ^ (bAt s p % 32 - 24).toNat)
def rText (s : ByteArray) (p : Nat) : ByteArray × Int :=
  if (rRead s p).2 < 0 ∨ (rRead s p).1.1 ≠ 3 ∨ (s.size : Int) - (rRead s p).2 < (rRead s p).1.2 then (eS, -1)
  else (s.extract (rRead s p).2.toNat ((rRead s p).2 + (rRead s p).1.2).toNat, (rRead s p).2 + (rRead s p).1.2)
def rItems (f : Nat → Nd × Int) (s : ByteArray) (k : Int) : Nat → List ByteArray → List Nd → Nat → Nd × Int
  | 0, ns, is, q => (.mk k false 0 eS ns is, q)
  | c + 1, ns, is, q =>
    if k = 5 then
      (if (rText s q).2 < 0 then (Nd.zero, -1)
       else if (f (rText s q).2.toNat).2 < 0 then (Nd.zero, -1)
       else rItems f s k c (ns ++ [(rText s q).1]) (is ++ [(f (rText s q).2.toNat).1]) (f (rText s q).2.toNat).2.toNat)
    else (if (f q).2 < 0 then (Nd.zero, -1) else rItems f s k c ns (is ++ [(f q).1]) (f q).2.toNat)
def rVal (s : ByteArray) : Nat → Nat → Nd × Int
  | 0, p => (Nd.zero, -1)
  | d + 1, p =>
    if s.size ≤ p then (Nd.zero, -1)
    else if bAt s p = 244 ∨ bAt s p = 245 then (.mk 1 (decide (bAt s p = 245)) 0 eS [] [], (p : Int) + 1)
    else if bAt s p = 246 then (Nd.zero, (p : Int) + 1)
    else
      let m := (rRead s p).1.1
      let n := (rRead s p).1.2
      let q := (rRead s p).2
      if q < 0 ∨ 5 < m ∨ m = 2 ∨ (m < 2 ∧ 9223372036854775807 < n) ∨ (3 < m ∧ 256 < n) then (Nd.zero, -1)
      else if m = 0 then (.mk 2 false (i64 n) eS [] [], q)
      else if m = 1 then (.mk 2 false (i64 (-1 - i64 n)) eS [] [], q)
      else if m = 3 then (.mk 3 false 0 (rText s p).1 [] [], (rText s p).2)
      else rItems (rVal s d) s m n.toNat [] [] q.toNat

/-! ### it reads what was written -/
theorem bAt_mid (a : List UInt8) (x : UInt8) (b : List UInt8) : bAt (ofL (a ++ x :: b)) (a.length : Nat) = (x.toNat : Int) := by
  simp [bAt, ofL]
end Go.AL
/- What the document's reader of the second serialisation takes, and that both readers take the same; no program in sight. -/
set_option linter.unusedVariables false
namespace Go.AL
open Go Go.RowKit

def VGood (s : ByteArray) (p : Nat) (r : Nd × Int) : Prop := r.1.Ok ∧ -1 ≤ r.2 ∧ (r.2 ≠ -1 → (p : Int) < r.2 ∧ r.2 ≤ s.size ∧ (r.1.cb.length : Int) + p ≤ r.2 ∧ r.1.In)
theorem VGood.fail (s : ByteArray) (p : Nat) : VGood s p (Nd.zero, -1) := ⟨zero_ok, by decide, fun h => absurd rfl h⟩

def rDec (V : ByteArray → Bool) (s : ByteArray) : Nd × Int :=
  if 65536 < s.size then (Nd.zero, 4)
  else if (rVal s 8 0).2 = s.size ∧ (rVal s 8 0).1.validB V 8 = true ∧ ofL (rVal s 8 0).1.cb = s then ((rVal s 8 0).1, 0) else (Nd.zero, 4)
end Go.AL
/- The third serialisation as plain data: how a node is written and read, and that it comes back; no program in sight. -/
set_option linter.unusedVariables false
namespace Go.AL
open Go Go.RowKit

def u64n (n : Int) : Nat := (n % 18446744073709551616).toNat
def pNum (n : Int) : List UInt8 :=
  if -32 ≤ n ∧ n < 128 then [UInt8.ofNat (n % 256).toNat]
  else if 0 ≤ n then
    (if n < 256 then UInt8.ofNat 204 :: bigL 1 (u64n n) else if n < 65536 then UInt8.ofNat 205 :: bigL 2 (u64n n) else if n < 4294967296 then UInt8.ofNat 206 :: bigL 4 (u64n n) else UInt8.ofNat 207 :: bigL 8 (u64n n))
  else if -128 ≤ n then UInt8.ofNat 208 :: bigL 1 (u64n n) else if -32768 ≤ n then UInt8.ofNat 209 :: bigL 2 (u64n n) else if -2147483648 ≤ n then UInt8.ofNat 210 :: bigL 4 (u64n n) else UInt8.ofNat 211 :: bigL 8 (u64n n)
def pTh (n : Nat) : List UInt8 := if n < 32 then [UInt8.ofNat (160 + n)] else if n < 256 then UInt8.ofNat 217 :: bigL 1 n else if n < 65536 then UInt8.ofNat 218 :: bigL 2 n else UInt8.ofNat 219 :: bigL 4 n
def pTx (s : ByteArray) : List UInt8 := pTh s.size ++ s.data.toList
def pCn (few many n : Nat) : List UInt8 := if n < 16 then [UInt8.ofNat (few + n)] else UInt8.ofNat many :: bigL 2 n
mutual
def Nd.pb : Nd → List UInt8
  | .mk k b n t ns is =>
    if k = 0 then [UInt8.ofNat 192] else if k = 1 then [UInt8.ofNat (if b then 195 else 194)] else if k = 2 then pNum n
    else if k = 3 then pTx t else if k = 4 then pCn 144 220 is.length ++ Nd.pbs is else pCn 128 222 is.length ++ Nd.pbm ns is
def Nd.pbs : List Nd → List UInt8
  | [] => []
  | x :: xs => x.pb ++ Nd.pbs xs
def Nd.pbm : List ByteArray → List Nd → List UInt8
  | s :: ns, x :: xs => pTx s ++ x.pb ++ Nd.pbm ns xs
  | _, _ => []
end

/-! ### the reader -/
def Rs.count (r : Rs) (k : Int) : Int × Rs := (r.uint k).2.fits (r.uint k).1
def pText (r : Rs) (c : Int) : ByteArray × Rs :=
  if 160 ≤ c ∧ c < 192 then r.take (c - 160)
  else if 217 ≤ c ∧ c ≤ 219 then (r.count (2 ^ (c - 217).toNat)).2.take (r.count (2 ^ (c - 217).toNat)).1
  else (eS, ⟨r.s, true⟩)
/-- A number of so many bytes, the highest bit of which is a sign. -/
def sx (b : Nat) (u : Int) : Int := if u < 256 ^ b / 2 then u else u - 256 ^ b
def pNumR (r : Rs) (c : Int) : Int × Rs :=
  if c < 128 then (c, r) else if 224 ≤ c then (c - 256, r)
  else if 204 ≤ c ∧ c ≤ 207 then (i64 (r.uint (2 ^ (c - 204).toNat)).1, (r.uint (2 ^ (c - 204).toNat)).2)
  else if 208 ≤ c ∧ c ≤ 211 then (sx (2 ^ (c - 208).toNat) (r.uint (2 ^ (c - 208).toNat)).1, (r.uint (2 ^ (c - 208).toNat)).2)
  else (0, ⟨r.s, true⟩)
def gItems (nm : Rs → ByteArray × Rs) (f : Rs → Nd × Rs) (k : Int) : Nat → List ByteArray → List Nd → Rs → Nd × Rs
  | 0, ns, is, r => (.mk k false 0 eS ns is, r)
  | c + 1, ns, is, r => if r.bad = true then (.mk k false 0 eS ns is, r)
    else if k = 5 then gItems nm f k c (ns ++ [(nm r).1]) (is ++ [(f (nm r).2).1]) (f (nm r).2).2
    else gItems nm f k c ns (is ++ [(f r).1]) (f r).2
def pName (r : Rs) : ByteArray × Rs := pText r.byte.2 r.byte.1
def pNode : Nat → Rs → Nd × Rs
  | 0, r => (Nd.zero, ⟨r.byte.2.s, true⟩)
  | d + 1, r =>
    let c := r.byte.1
    let q := r.byte.2
    if c = 192 then (Nd.zero, q)
    else if c = 194 ∨ c = 195 then (.mk 1 (decide (c = 195)) 0 eS [] [], q)
    else if 128 ≤ c ∧ c < 144 then gItems pName (pNode d) 5 (c - 128).toNat [] [] q
    else if c = 222 then gItems pName (pNode d) 5 (q.count 2).1.toNat [] [] (q.count 2).2
    else if 144 ≤ c ∧ c < 160 then gItems pName (pNode d) 4 (c - 144).toNat [] [] q
    else if c = 220 then gItems pName (pNode d) 4 (q.count 2).1.toNat [] [] (q.count 2).2
    else if (160 ≤ c ∧ c < 192) ∨ (217 ≤ c ∧ c ≤ 219) then (.mk 3 false 0 (pText q c).1 [] [], (pText q c).2)
    else (.mk 2 false (pNumR q c).1 eS [] [], (pNumR q c).2)
theorem pNode_hd {d : Nat} {r q : Rs} {c : Int} (h : r.byte = (c, q)) : pNode (d + 1) r =
    if c = 192 then (Nd.zero, q)
    else if c = 194 ∨ c = 195 then (.mk 1 (decide (c = 195)) 0 eS [] [], q)
    else if 128 ≤ c ∧ c < 144 then gItems pName (pNode d) 5 (c - 128).toNat [] [] q
    else if c = 222 then gItems pName (pNode d) 5 (q.count 2).1.toNat [] [] (q.count 2).2
    else if 144 ≤ c ∧ c < 160 then gItems pName (pNode d) 4 (c - 144).toNat [] [] q
    else if c = 220 then gItems pName (pNode d) 4 (q.count 2).1.toNat [] [] (q.count 2).2
    else if (160 ≤ c ∧ c < 192) ∨ (217 ≤ c ∧ c ≤ 219) then (.mk 3 false 0 (pText q c).1 [] [], (pText q c).2)
    else (.mk 2 false (pNumR q c).1 eS [] [], (pNumR q c).2) := by simp only [pNode, h]

/-! ### what was written comes back -/
theorem uint_ofLm (k n : Nat) (b : List UInt8) (hk : 256 ^ k ≤ 18446744073709551616) : (Rs.mk (ofL (bigL k n ++ b)) false).uint k = (((n % 256 ^ k : Nat) : Int), ⟨ofL b, false⟩) := by
  have ht := take_ofL (bigL k n) b
  rw [bigL_len] at ht
  unfold Rs.uint
  rw [ht]
  simp only [ofL_toList]
  have hp : 0 < 256 ^ k := Nat.pos_of_ne_zero (by simp)
  have := big_fold k n 0 (by have := Nat.mod_lt n hp; omega)
  simp only [Nat.zero_mul, Nat.zero_add] at this
  rw [← this]; rfl
theorem byte_ofN (a : Nat) (b : List UInt8) (h : a < 256) : (Rs.mk (ofL (UInt8.ofNat a :: b)) false).byte = ((a : Int), ⟨ofL b, false⟩) := by
  rw [byte_ofL, UInt8.toNat_ofNat', Nat.mod_eq_of_lt (by omega)]
theorem fits_ofL (n : Nat) (b : List UInt8) (h : n ≤ b.length) : (Rs.mk (ofL b) false).fits n = ((n : Int), ⟨ofL b, false⟩) := by
  unfold Rs.fits
  rw [if_neg (by rw [ofL_size]; omega)]
theorem count_ofL (k n : Nat) (b : List UInt8) (hk : 256 ^ k ≤ 18446744073709551616) (hn : n < 256 ^ k) (h : n ≤ b.length) : (Rs.mk (ofL (bigL k n ++ b)) false).count k = ((n : Int), ⟨ofL b, false⟩) := by
  unfold Rs.count
  rw [uint_ofLm k n b hk]
  simp only
  rw [Nat.mod_eq_of_lt hn]
  exact fits_ofL n b h
theorem pName_back (s : ByteArray) (t : List UInt8) (hs : s.size < 4294967296) : pName ⟨ofL (pTx s ++ t), false⟩ = (s, ⟨ofL t, false⟩) ∧ ∃ (c : Int) (q : Rs), (Rs.mk (ofL (pTx s ++ t)) false).byte = (c, q) ∧ pText q c = (s, ⟨ofL t, false⟩) ∧ ((160 ≤ c ∧ c < 192) ∨ (217 ≤ c ∧ c ≤ 219)) := by
  have hl := toList_len s
  have tk : (Rs.mk (ofL (s.data.toList ++ t)) false).take s.size = (s, ⟨ofL t, false⟩) := by
    have := take_ofL s.data.toList t
    rw [ofL_of, hl] at this
    exact this
  have key : ∃ (c : Int) (q : Rs), (Rs.mk (ofL (pTx s ++ t)) false).byte = (c, q) ∧ pText q c = (s, ⟨ofL t, false⟩) ∧ ((160 ≤ c ∧ c < 192) ∨ (217 ≤ c ∧ c ≤ 219)) := by
    unfold pTx pTh
    have big : ∀ i : Nat, i ≤ 2 → s.size < 256 ^ (2 ^ i) → ∃ (c : Int) (q : Rs), (Rs.mk (ofL (UInt8.ofNat (217 + i) :: bigL (2 ^ i) s.size ++ s.data.toList ++ t)) false).byte = (c, q) ∧ pText q c = (s, ⟨ofL t, false⟩) ∧ ((160 ≤ c ∧ c < 192) ∨ (217 ≤ c ∧ c ≤ 219)) := by
      intro i hi hlt
      refine ⟨((217 + i : Nat) : Int), ⟨ofL (bigL (2 ^ i) s.size ++ s.data.toList ++ t), false⟩, by rw [List.cons_append, List.cons_append]; exact byte_ofN (217 + i) _ (by omega), ?_, .inr (by omega)⟩
      have hk : 256 ^ (2 ^ i) ≤ 18446744073709551616 := by
        match i, hi with
        | 0, _ | 1, _ | 2, _ => decide
      have hc := count_ofL (2 ^ i) s.size (s.data.toList ++ t) hk hlt (by simp)
      unfold pText
      rw [if_neg (by omega), if_pos (by omega), show (((217 + i : Nat) : Int) - 217).toNat = i by omega]
      rw [show ((2 ^ i : Nat) : Int) = 2 ^ i by simp] at hc
      rw [List.append_assoc, hc]
      exact tk
    split
    · rename_i h
      refine ⟨((160 + s.size : Nat) : Int), ⟨ofL (s.data.toList ++ t), false⟩, by rw [List.append_assoc, List.singleton_append]; exact byte_ofN (160 + s.size) _ (by omega), ?_, .inl (by omega)⟩
      unfold pText
      rw [if_pos (by omega), show ((160 + s.size : Nat) : Int) - 160 = (s.size : Int) by omega]
      exact tk
    split
    · exact big 0 (by omega) (by simpa using ‹s.size < 256›)
    split
    · exact big 1 (by omega) (by simpa using ‹s.size < 65536›)
    · exact big 2 (by omega) (by simpa using hs)
  obtain ⟨c, q, h1, h2, h3⟩ := key
  refine ⟨?_, c, q, h1, h2, h3⟩
  unfold pName
  rw [h1]
  exact h2
theorem pNum_back (n : Int) (t : List UInt8) (h0 : -9223372036854775808 ≤ n) (h1 : n ≤ 9223372036854775807) : ∃ (c : Int) (q : Rs), (Rs.mk (ofL (pNum n ++ t)) false).byte = (c, q) ∧ pNumR q c = (n, ⟨ofL t, false⟩) ∧ 0 ≤ c ∧ (c < 128 ∨ 224 ≤ c ∨ (204 ≤ c ∧ c ≤ 211)) := by
  have up : ∀ i : Nat, i ≤ 3 → 0 ≤ n → n < ((256 ^ (2 ^ i) : Nat) : Int) → ∃ (c : Int) (q : Rs), (Rs.mk (ofL (UInt8.ofNat (204 + i) :: bigL (2 ^ i) (u64n n) ++ t)) false).byte = (c, q) ∧ pNumR q c = (n, ⟨ofL t, false⟩) ∧ 0 ≤ c ∧ (c < 128 ∨ 224 ≤ c ∨ (204 ≤ c ∧ c ≤ 211)) := by
    intro i hi hn hlt
    refine ⟨((204 + i : Nat) : Int), ⟨ofL (bigL (2 ^ i) (u64n n) ++ t), false⟩, by rw [List.cons_append]; exact byte_ofN (204 + i) _ (by omega), ?_, by omega, .inr (.inr (by omega))⟩
    have hk : 256 ^ (2 ^ i) ≤ 18446744073709551616 := by
      match i, hi with
      | 0, _ | 1, _ | 2, _ | 3, _ => decide
    have hc := uint_ofLm (2 ^ i) (u64n n) t hk
    unfold pNumR
    rw [if_neg (by omega), if_neg (by omega), if_pos (by omega), show (((204 + i : Nat) : Int) - 204).toNat = i by omega]
    rw [show ((2 ^ i : Nat) : Int) = 2 ^ i by simp] at hc
    rw [hc]
    have hu : u64n n < 256 ^ (2 ^ i) := by unfold u64n; omega
    rw [Nat.mod_eq_of_lt hu]
    refine Prod.ext ?_ rfl
    simp only
    unfold u64n
    rw [i64_id (by omega) (by omega)]; omega
  have dn : ∀ i : Nat, i ≤ 3 → n < 0 → -((256 ^ (2 ^ i) / 2 : Nat) : Int) ≤ n → ∃ (c : Int) (q : Rs), (Rs.mk (ofL (UInt8.ofNat (208 + i) :: bigL (2 ^ i) (u64n n) ++ t)) false).byte = (c, q) ∧ pNumR q c = (n, ⟨ofL t, false⟩) ∧ 0 ≤ c ∧ (c < 128 ∨ 224 ≤ c ∨ (204 ≤ c ∧ c ≤ 211)) := by
    intro i hi hn hlt
    refine ⟨((208 + i : Nat) : Int), ⟨ofL (bigL (2 ^ i) (u64n n) ++ t), false⟩, by rw [List.cons_append]; exact byte_ofN (208 + i) _ (by omega), ?_, by omega, .inr (.inr (by omega))⟩
    have hk : 256 ^ (2 ^ i) ≤ 18446744073709551616 := by
      match i, hi with
      | 0, _ | 1, _ | 2, _ | 3, _ => decide
    have hc := uint_ofLm (2 ^ i) (u64n n) t hk
    unfold pNumR
    rw [if_neg (by omega), if_neg (by omega), if_neg (by omega), if_pos (by omega), show (((208 + i : Nat) : Int) - 208).toNat = i by omega]
    rw [show ((2 ^ i : Nat) : Int) = 2 ^ i by simp] at hc
    rw [hc]
    refine Prod.ext ?_ rfl
    simp only
    unfold u64n sx
    match i, hi with
    | 0, _ => simp at hlt ⊢; omega
    | 1, _ => simp at hlt ⊢; omega
    | 2, _ => simp at hlt ⊢; omega
    | 3, _ => simp at hlt ⊢; omega
  unfold pNum
  split
  · rename_i h
    refine ⟨(((n % 256).toNat : Nat) : Int), ⟨ofL t, false⟩, by rw [List.singleton_append]; exact byte_ofN (n % 256).toNat _ (by omega), ?_, by omega, by omega⟩
    unfold pNumR
    by_cases hn : 0 ≤ n
    · rw [if_pos (by omega)]
      refine Prod.ext ?_ rfl
      simp only; omega
    · rw [if_neg (by omega), if_pos (by omega)]
      refine Prod.ext ?_ rfl
      simp only; omega
  split
  · split
    · exact up 0 (by omega) (by omega) (by simpa using ‹n < 256›)
    split
    · exact up 1 (by omega) (by omega) (by simpa using ‹n < 65536›)
    split
    · exact up 2 (by omega) (by omega) (by simpa using ‹n < 4294967296›)
    · exact up 3 (by omega) (by omega) (by simp; omega)
  split
  · exact dn 0 (by omega) (by omega) (by simpa using ‹-128 ≤ n›)
  split
  · exact dn 1 (by omega) (by omega) (by simpa using ‹-32768 ≤ n›)
  split
  · exact dn 2 (by omega) (by omega) (by simpa using ‹-2147483648 ≤ n›)
  · exact dn 3 (by omega) (by omega) (by simp; omega)
theorem gItems_list (nm : Rs → ByteArray × Rs) (f : Rs → Nd × Rs) (E : Nd → List UInt8) (Es : List Nd → List UInt8) (e0 : Es [] = []) (e1 : ∀ x xs, Es (x :: xs) = E x ++ Es xs) : ∀ (xs : List Nd) (ns : List ByteArray) (acc : List Nd) (t : List UInt8), (∀ x ∈ xs, ∀ t : List UInt8, f ⟨ofL (E x ++ t), false⟩ = (x, ⟨ofL t, false⟩)) →
    gItems nm f 4 xs.length ns acc ⟨ofL (Es xs ++ t), false⟩ = (.mk 4 false 0 eS ns (acc ++ xs), ⟨ofL t, false⟩)
  | [], ns, acc, t, _ => by simp [gItems, e0]
  | x :: xs, ns, acc, t, h => by
    have h1 := h x (by simp) (Es xs ++ t)
    have ih := gItems_list nm f E Es e0 e1 xs ns (acc ++ [x]) t (fun y hy => h y (by simp [hy]))
    simp only [List.length_cons, gItems, Bool.false_eq_true, if_false, e1, List.append_assoc]
    rw [if_neg (by decide), h1]
    simp only
    rw [ih]; simp
theorem gItems_map (nm : Rs → ByteArray × Rs) (f : Rs → Nd × Rs) (E : Nd → List UInt8) (H : ByteArray → List UInt8) (Em : List ByteArray → List Nd → List UInt8) (e0 : Em [] [] = []) (e1 : ∀ s ss x xs, Em (s :: ss) (x :: xs) = H s ++ E x ++ Em ss xs) : ∀ (ss : List ByteArray) (xs : List Nd) (ns : List ByteArray) (acc : List Nd) (t : List UInt8), ss.length = xs.length → (∀ s ∈ ss, ∀ t : List UInt8, nm ⟨ofL (H s ++ t), false⟩ = (s, ⟨ofL t, false⟩)) → (∀ x ∈ xs, ∀ t : List UInt8, f ⟨ofL (E x ++ t), false⟩ = (x, ⟨ofL t, false⟩)) →
    gItems nm f 5 xs.length ns acc ⟨ofL (Em ss xs ++ t), false⟩ = (.mk 5 false 0 eS (ns ++ ss) (acc ++ xs), ⟨ofL t, false⟩)
  | [], [], ns, acc, t, _, _, _ => by simp [gItems, e0]
  | s :: ss, x :: xs, ns, acc, t, hl, hs, h => by
    have h1 := h x (by simp) (Em ss xs ++ t)
    have h2 := hs s (by simp) (E x ++ (Em ss xs ++ t))
    have ih := gItems_map nm f E H Em e0 e1 ss xs (ns ++ [s]) (acc ++ [x]) t (by simpa using hl) (fun y hy => hs y (by simp [hy])) (fun y hy => h y (by simp [hy]))
    simp only [List.length_cons, gItems, Bool.false_eq_true, if_false, e1, List.append_assoc] at h2 ⊢
    rw [if_pos trivial, h2]
    simp only
    rw [h1]
    simp only
    rw [ih]; simp
  | [], _ :: _, _, _, _, hl, _, _ => by simp at hl
  | _ :: _, [], _, _, _, hl, _, _ => by simp at hl
end Go.AL
/- What was written in the third serialisation comes back; no program in sight. -/
set_option linter.unusedVariables false
namespace Go.AL
open Go Go.RowKit

theorem pTh_len {n : Nat} : (pTh n).length ≤ 5 ∧ 1 ≤ (pTh n).length := by
  unfold pTh; repeat' split
  all_goals simp [bigL_len]
theorem pCn_pos (a b n : Nat) : 1 ≤ (pCn a b n).length ∧ (pCn a b n).length ≤ 3 := by
  unfold pCn; split <;> simp [bigL_len]
theorem pNum_len (n : Int) : 1 ≤ (pNum n).length ∧ (pNum n).length ≤ 9 := by
  unfold pNum; repeat' split
  all_goals simp [bigL_len]
theorem pb_pos (x : Nd) : 1 ≤ x.pb.length := by
  cases x with
  | mk k b n t ns is =>
  simp only [Nd.pb]
  repeat' split
  · simp
  · simp
  · simp
  · exact (pNum_len _).1
  · unfold pTx; rw [List.length_append]; have := (pTh_len (n := t.size)).2; omega
  · rw [List.length_append]; have := (pCn_pos 144 220 is.length).1; omega
  · rw [List.length_append]; have := (pCn_pos 128 222 is.length).1; omega
theorem pbs_len : ∀ is : List Nd, is.length ≤ (Nd.pbs is).length
  | [] => by simp
  | x :: xs => by
    have := pb_pos x
    have := pbs_len xs
    simp only [Nd.pbs, List.length_append, List.length_cons]; omega
theorem pbm_len : ∀ (ns : List ByteArray) (is : List Nd), ns.length = is.length → is.length ≤ (Nd.pbm ns is).length
  | [], [], _ => by simp
  | s :: ns, x :: xs, h => by
    have := pb_pos x
    have := pbm_len ns xs (by simpa using h)
    simp only [Nd.pbm, List.length_append, List.length_cons]; omega
  | [], _ :: _, h => by simp at h
  | _ :: _, [], h => by simp at h

theorem pCn_back (few many n : Nat) (b : List UInt8) (hf : few < 240) (hm : many < 256) (hn : n < 65536) (hb : n ≤ b.length) : (n < 16 ∧ (Rs.mk (ofL (pCn few many n ++ b)) false).byte = (((few + n : Nat) : Int), ⟨ofL b, false⟩)) ∨
    (16 ≤ n ∧ ∃ q : Rs, (Rs.mk (ofL (pCn few many n ++ b)) false).byte = ((many : Int), q) ∧ q.count 2 = ((n : Int), ⟨ofL b, false⟩)) := by
  unfold pCn
  split
  · exact .inl ⟨by omega, by rw [List.singleton_append]; exact byte_ofN (few + n) _ (by omega)⟩
  · refine .inr ⟨by omega, ⟨ofL (bigL 2 n ++ b), false⟩, by rw [List.cons_append]; exact byte_ofN many _ hm, ?_⟩
    exact count_ofL 2 n b (by decide) (by simpa using hn) hb
theorem pNode_back {V : ByteArray → Bool} : ∀ (x : Nd) (d : Nat), x.validB V d = true → x.In → ∀ t : List UInt8, pNode d ⟨ofL (x.pb ++ t), false⟩ = (x, ⟨ofL t, false⟩)
  | .mk k b n tx ns is, 0, hv, _, t => by
    rw [valid_mk] at hv
    have := hv.1
    simp at this
  | .mk k b n tx ns is, d + 1, hv, hin, t => by
    rw [valid_mk] at hv
    obtain ⟨_, h2, h3, h4, h5, h6, h7, h8⟩ := hv
    cases hin with
    | mk i1 i2 i3 =>
    simp only [Nd.fieldsOK, Bool.and_eq_true, Bool.or_eq_true, decide_eq_true_eq, Bool.not_eq_true'] at h4
    obtain ⟨⟨⟨⟨f1, f2⟩, f3⟩, f4⟩, f5⟩ := h4
    have hk : k = 0 ∨ k = 1 ∨ k = 2 ∨ k = 3 ∨ k = 4 ∨ k = 5 := by omega
    have hi : ∀ y ∈ is, ∀ t : List UInt8, pNode d ⟨ofL (y.pb ++ t), false⟩ = (y, ⟨ofL t, false⟩) := fun y hy t =>
      pNode_back y d (by have := h8 y hy; rwa [show ((d + 1 : Nat) : Int) - 1 = d by omega] at this) (i3 y hy) t
    have e0 : k ≠ 1 → b = false := fun h => f1.resolve_left h
    have e1 : k ≠ 2 → n = 0 := fun h => f2.resolve_left h
    have e2 : k ≠ 3 → tx = eS := fun h => f3.resolve_left h
    have e3 : k ≠ 4 → k ≠ 5 → is = [] := fun h h' => List.eq_nil_of_length_eq_zero (by rcases f4 with (h'' | h'') | h'' <;> first | (exact absurd h'' h) | (exact absurd h'' h') | omega)
    have e4 : k ≠ 5 → ns = [] := fun h => List.eq_nil_of_length_eq_zero (by rcases f5 with h' | h'; exact absurd h' h; omega)
    rcases hk with rfl | rfl | rfl | rfl | rfl | rfl
    · rw [e0 (by decide), e1 (by decide), e2 (by decide), e3 (by decide) (by decide), e4 (by decide)]
      rw [show (Nd.mk 0 false 0 eS [] []).pb = [UInt8.ofNat 192] by simp [Nd.pb], List.singleton_append, pNode_hd (byte_ofN 192 t (by omega)), if_pos (by decide)]
      simp [Nd.zero, eS]
    · rw [e1 (by decide), e2 (by decide), e3 (by decide) (by decide), e4 (by decide)]
      cases b with
      | true =>
        rw [show (Nd.mk 1 true 0 eS [] []).pb = [UInt8.ofNat 195] by simp [Nd.pb], List.singleton_append, pNode_hd (byte_ofN 195 t (by omega)), if_neg (by decide), if_pos (by decide)]
        simp
      | false =>
        rw [show (Nd.mk 1 false 0 eS [] []).pb = [UInt8.ofNat 194] by simp [Nd.pb], List.singleton_append, pNode_hd (byte_ofN 194 t (by omega)), if_neg (by decide), if_pos (by decide)]
        simp
    · rw [e0 (by decide), e2 (by decide), e3 (by decide) (by decide), e4 (by decide)]
      rw [show (Nd.mk 2 false n eS [] []).pb = pNum n by simp [Nd.pb]]
      obtain ⟨c, q, g1, g2, g3, g4⟩ := pNum_back n t i1 i2
      rw [pNode_hd g1, if_neg (by omega), if_neg (by omega), if_neg (by omega), if_neg (by omega), if_neg (by omega), if_neg (by omega), if_neg (by omega), g2]
    · rw [e0 (by decide), e1 (by decide), e3 (by decide) (by decide), e4 (by decide)]
      have ht : tx.size ≤ 65536 := by simp only [textB, Bool.and_eq_true, decide_eq_true_eq] at h5; omega
      rw [show (Nd.mk 3 false 0 tx [] []).pb = pTx tx by simp [Nd.pb]]
      obtain ⟨c, q, g1, g2, g3⟩ := (pName_back tx t (by omega)).2
      rw [pNode_hd g1, if_neg (by omega), if_neg (by omega), if_neg (by omega), if_neg (by omega), if_neg (by omega), if_neg (by omega), if_pos g3, g2]
    · rw [e0 (by decide), e1 (by decide), e2 (by decide), e4 (by decide)]
      rw [show (Nd.mk 4 false 0 eS [] is).pb = pCn 144 220 is.length ++ Nd.pbs is by simp [Nd.pb], List.append_assoc]
      have hb := pbs_len is
      have hg := gItems_list pName (pNode d) Nd.pb Nd.pbs rfl (fun _ _ => rfl) is [] [] t hi
      rcases pCn_back 144 220 is.length (Nd.pbs is ++ t) (by omega) (by omega) (by omega) (by rw [List.length_append]; omega) with ⟨g0, g1⟩ | ⟨g0, q, g1, g2⟩
      · rw [pNode_hd g1, if_neg (by omega), if_neg (by omega), if_neg (by omega), if_neg (by omega), if_pos (by omega), show (((144 + is.length : Nat) : Int) - 144).toNat = is.length by omega, hg]
        simp
      · rw [pNode_hd g1, if_neg (by omega), if_neg (by omega), if_neg (by omega), if_neg (by omega), if_neg (by omega), if_pos (by omega), g2]
        simp only [Int.toNat_natCast]
        rw [hg]; simp
    · rw [e0 (by decide), e1 (by decide), e2 (by decide)]
      have hl := (h7 rfl).2
      have hs : ∀ s ∈ ns, ∀ t : List UInt8, pName ⟨ofL (pTx s ++ t), false⟩ = (s, ⟨ofL t, false⟩) := fun s hs t => by
        have := (((namesOk_iff (textB V) ns []).1 (h7 rfl).1).2 s hs).2
        simp only [textB, Bool.and_eq_true, decide_eq_true_eq] at this
        exact (pName_back s t (by omega)).1
      rw [show (Nd.mk 5 false 0 eS ns is).pb = pCn 128 222 is.length ++ Nd.pbm ns is by simp [Nd.pb], List.append_assoc]
      have hb := pbm_len ns is hl
      have hg := gItems_map pName (pNode d) Nd.pb pTx Nd.pbm rfl (fun _ _ _ _ => rfl) ns is [] [] t hl hs hi
      rcases pCn_back 128 222 is.length (Nd.pbm ns is ++ t) (by omega) (by omega) (by omega) (by rw [List.length_append]; omega) with ⟨g0, g1⟩ | ⟨g0, q, g1, g2⟩
      · rw [pNode_hd g1, if_neg (by omega), if_neg (by omega), if_pos (by omega), show (((128 + is.length : Nat) : Int) - 128).toNat = is.length by omega, hg]
        simp
      · rw [pNode_hd g1, if_neg (by omega), if_neg (by omega), if_neg (by omega), if_pos (by omega), g2]
        simp only [Int.toNat_natCast]
        rw [hg]; simp
termination_by x => SizeOf.sizeOf x
decreasing_by
  have := List.sizeOf_lt_of_mem hy
  simp only [Nd.mk.sizeOf_spec]
  omega
end Go.AL
/- What the reader of the third serialisation takes, as plain data; no program in sight. -/
set_option linter.unusedVariables false
namespace Go.AL
open Go Go.RowKit

theorem pTh_pow {n i : Nat} (hi : i ≤ 2) (h : n < 256 ^ (2 ^ i)) : (pTh n).length ≤ 1 + 2 ^ i := by
  unfold pTh
  match i, hi with
  | 0, _ => simp at h; repeat' split
            all_goals first | (simp [bigL_len]; done) | omega
  | 1, _ => simp at h; repeat' split
            all_goals first | (simp [bigL_len]; done) | omega
  | 2, _ => repeat' split
            all_goals (simp [bigL_len])
theorem pNum_pow {n : Int} {i : Nat} (hi : i ≤ 3) (h0 : -((256 ^ (2 ^ i) / 2 : Nat) : Int) ≤ n) (h : n < ((256 ^ (2 ^ i) : Nat) : Int)) : (pNum n).length ≤ 1 + 2 ^ i := by
  unfold pNum
  match i, hi with
  | 0, _ => simp at h h0; repeat' split
            all_goals first | (simp [bigL_len]; done) | omega
  | 1, _ => simp at h h0; repeat' split
            all_goals first | (simp [bigL_len]; done) | omega
  | 2, _ => simp at h h0; repeat' split
            all_goals first | (simp [bigL_len]; done) | omega
  | 3, _ => repeat' split
            all_goals (simp [bigL_len])
theorem count_good {r : Rs} {i : Nat} (hi : i ≤ 3) (h : (r.count (2 ^ i)).2.bad = false) : r.bad = false ∧ 0 ≤ (r.count (2 ^ i)).1 ∧ (r.count (2 ^ i)).1 < (256 : Int) ^ (2 ^ i) ∧ (r.count (2 ^ i)).2.s.size + 2 ^ i = r.s.size ∧ (r.count (2 ^ i)).1 ≤ (r.count (2 ^ i)).2.s.size := by
  unfold Rs.count at h ⊢
  obtain ⟨h1, h2, h3, h4⟩ := fits_good h
  obtain ⟨u1, u2, u3, u4⟩ := uint_good hi h4
  rw [h1, h2]
  exact ⟨u1, u3, u4, u2, h3⟩
theorem pText_good {q : Rs} {c : Int} (hc : (160 ≤ c ∧ c < 192) ∨ (217 ≤ c ∧ c ≤ 219) ∨ (pText q c).2.bad = false) (h : (pText q c).2.bad = false) : q.bad = false ∧ (pTx (pText q c).1).length + (pText q c).2.s.size ≤ q.s.size + 1 := by
  unfold pText at h ⊢
  split at h
  · rename_i e
    rw [if_pos e]
    obtain ⟨t1, t2, t3, t4, t5⟩ := take_good h
    refine ⟨t1, ?_⟩
    unfold pTx
    rw [List.length_append, toList_len]
    have : (pTh (q.take (c - 160)).1.size).length = 1 := by unfold pTh; rw [if_pos (by omega)]; rfl
    omega
  · rename_i e0
    rw [if_neg e0]
    split at h
    · rename_i e
      rw [if_pos e]
      obtain ⟨i, hi, hi2⟩ : ∃ i : Nat, (c - 217).toNat = i ∧ i ≤ 2 := ⟨_, rfl, by omega⟩
      rw [hi] at h ⊢
      obtain ⟨t1, t2, t3, t4, t5⟩ := take_good h
      obtain ⟨u1, u2, u3, u4, u5⟩ := count_good (by omega) t1
      refine ⟨u1, ?_⟩
      unfold pTx
      rw [List.length_append, toList_len]
      have hl := pTh_pow (n := ((q.count (2 ^ i)).2.take (q.count (2 ^ i)).1).1.size) (i := i) hi2 (by
        have e3 : ((256 ^ (2 ^ i) : Nat) : Int) = (256 : Int) ^ (2 ^ i) := by simp
        omega)
      omega
    · simp at h
theorem pName_good {r : Rs} (h : (pName r).2.bad = false) : r.bad = false ∧ (pTx (pName r).1).length + (pName r).2.s.size ≤ r.s.size := by
  unfold pName at h ⊢
  obtain ⟨h1, h2⟩ := pText_good (.inr (.inr h)) h
  obtain ⟨b1, b2⟩ := byte_good h1
  exact ⟨b1, by omega⟩
theorem pNumR_good {q : Rs} {c : Int} (h0 : 0 ≤ c) (h1 : c < 256) (h : (pNumR q c).2.bad = false) : q.bad = false ∧ (pNum (pNumR q c).1).length + (pNumR q c).2.s.size ≤ q.s.size + 1 ∧ -9223372036854775808 ≤ (pNumR q c).1 ∧ (pNumR q c).1 ≤ 9223372036854775807 := by
  unfold pNumR at h ⊢
  have one : ∀ v : Int, -32 ≤ v → v < 128 → (pNum v).length = 1 := fun v h h' => by unfold pNum; rw [if_pos ⟨h, h'⟩]; rfl
  split at h
  · rename_i e
    rw [if_pos e]
    refine ⟨h, ?_, ?_, ?_⟩
    · simp only; rw [one c (by omega) e]; omega
    · simp only; omega
    · simp only; omega
  rename_i n1
  rw [if_neg n1]
  split at h
  · rename_i e
    rw [if_pos e]
    refine ⟨h, ?_, ?_, ?_⟩
    · simp only; rw [one (c - 256) (by omega) (by omega)]; omega
    · simp only; omega
    · simp only; omega
  rename_i n2
  rw [if_neg n2]
  split at h
  · rename_i e
    rw [if_pos e]
    obtain ⟨i, hi, hi3⟩ : ∃ i : Nat, (c - 204).toNat = i ∧ i ≤ 3 := ⟨_, rfl, by omega⟩
    rw [hi] at h ⊢
    obtain ⟨u1, u2, u3, u4⟩ := uint_good hi3 h
    simp only
    generalize (q.uint (2 ^ i)).1 = v at *
    have e3 : ((256 ^ (2 ^ i) : Nat) : Int) = (256 : Int) ^ (2 ^ i) := by simp
    have hr := i64_range v
    refine ⟨u1, ?_, hr.1, hr.2⟩
    have : (pNum (i64 v)).length ≤ 1 + 2 ^ i := by
      match i, hi3 with
      | 0, _ => simp at u4; exact pNum_pow (i := 0) (by omega) (by rw [i64_id (by omega) (by omega)]; simp; omega) (by rw [i64_id (by omega) (by omega)]; simp; omega)
      | 1, _ => simp at u4; exact pNum_pow (i := 1) (by omega) (by rw [i64_id (by omega) (by omega)]; simp; omega) (by rw [i64_id (by omega) (by omega)]; simp; omega)
      | 2, _ => simp at u4; exact pNum_pow (i := 2) (by omega) (by rw [i64_id (by omega) (by omega)]; simp; omega) (by rw [i64_id (by omega) (by omega)]; simp; omega)
      | 3, _ => exact (pNum_len _).2
    omega
  rename_i n3
  rw [if_neg n3]
  split at h
  · rename_i e
    rw [if_pos e]
    obtain ⟨i, hi, hi3⟩ : ∃ i : Nat, (c - 208).toNat = i ∧ i ≤ 3 := ⟨_, rfl, by omega⟩
    rw [hi] at h ⊢
    obtain ⟨u1, u2, u3, u4⟩ := uint_good hi3 h
    simp only
    generalize (q.uint (2 ^ i)).1 = v at *
    have hs : -((256 ^ (2 ^ i) / 2 : Nat) : Int) ≤ sx (2 ^ i) v ∧ sx (2 ^ i) v < ((256 ^ (2 ^ i) / 2 : Nat) : Int) := by
      unfold sx
      match i, hi3 with
      | 0, _ => simp at u4 ⊢; omega
      | 1, _ => simp at u4 ⊢; omega
      | 2, _ => simp at u4 ⊢; omega
      | 3, _ => simp at u4 ⊢; omega
    have hp := pNum_pow hi3 hs.1 (by omega)
    have h63 : ((256 ^ (2 ^ i) / 2 : Nat) : Int) ≤ 9223372036854775808 := by
      match i, hi3 with
      | 0, _ | 1, _ | 2, _ | 3, _ => decide +kernel
    exact ⟨u1, by omega, by omega, by omega⟩
  · simp at h

theorem gItems_good4 (nm : Rs → ByteArray × Rs) (f : Rs → Nd × Rs) (hf : ∀ r, (f r).2.bad = false → r.bad = false ∧ (f r).1.pb.length + (f r).2.s.size ≤ r.s.size ∧ (f r).1.In) : ∀ (c : Nat) (ns : List ByteArray) (is : List Nd) (r : Rs), (gItems nm f 4 c ns is r).2.bad = false →
    r.bad = false ∧ ∃ xs : List Nd, xs.length = c ∧ (gItems nm f 4 c ns is r).1 = .mk 4 false 0 eS ns (is ++ xs) ∧ (Nd.pbs xs).length + (gItems nm f 4 c ns is r).2.s.size ≤ r.s.size ∧ ∀ x ∈ xs, x.In
  | 0, ns, is, r, h => ⟨h, [], rfl, by simp [gItems], by simp [gItems, Nd.pbs], by simp⟩
  | c + 1, ns, is, r, h => by
    simp only [gItems] at h ⊢
    by_cases hb : r.bad = true
    · rw [if_pos hb] at h; rw [hb] at h; simp at h
    · rw [if_neg hb, if_neg (by decide)] at h ⊢
      obtain ⟨h1, xs, h2, h3, h4, h5⟩ := gItems_good4 nm f hf c ns (is ++ [(f r).1]) (f r).2 h
      obtain ⟨g1, g2, g3⟩ := hf r h1
      refine ⟨g1, (f r).1 :: xs, by simp [h2], by rw [h3]; simp, ?_, ?_⟩
      · simp only [Nd.pbs, List.length_append]; omega
      · intro x hx
        rcases List.mem_cons.1 hx with rfl | hx
        · exact g3
        · exact h5 x hx
theorem gItems_good5 (f : Rs → Nd × Rs) (hf : ∀ r, (f r).2.bad = false → r.bad = false ∧ (f r).1.pb.length + (f r).2.s.size ≤ r.s.size ∧ (f r).1.In) : ∀ (c : Nat) (ns : List ByteArray) (is : List Nd) (r : Rs), (gItems pName f 5 c ns is r).2.bad = false →
    r.bad = false ∧ ∃ (ss : List ByteArray) (xs : List Nd), ss.length = c ∧ xs.length = c ∧ (gItems pName f 5 c ns is r).1 = .mk 5 false 0 eS (ns ++ ss) (is ++ xs) ∧ (Nd.pbm ss xs).length + (gItems pName f 5 c ns is r).2.s.size ≤ r.s.size ∧ ∀ x ∈ xs, x.In
  | 0, ns, is, r, h => ⟨h, [], [], rfl, rfl, by simp [gItems], by simp [gItems, Nd.pbm], by simp⟩
  | c + 1, ns, is, r, h => by
    simp only [gItems] at h ⊢
    by_cases hb : r.bad = true
    · rw [if_pos hb] at h; rw [hb] at h; simp at h
    · rw [if_neg hb, if_pos trivial] at h ⊢
      obtain ⟨h1, ss, xs, h2, h2', h3, h4, h5⟩ := gItems_good5 f hf c (ns ++ [(pName r).1]) (is ++ [(f (pName r).2).1]) (f (pName r).2).2 h
      obtain ⟨g1, g2, g3⟩ := hf _ h1
      obtain ⟨q1, q2⟩ := pName_good g1
      refine ⟨q1, (pName r).1 :: ss, (f (pName r).2).1 :: xs, by simp [h2], by simp [h2'], by rw [h3]; simp, ?_, ?_⟩
      · simp only [Nd.pbm, List.length_append]; omega
      · intro x hx
        rcases List.mem_cons.1 hx with rfl | hx
        · exact g3
        · exact h5 x hx
/-- What a node takes: at least what it takes when it is written. -/
theorem pNode_good : ∀ (d : Nat) (r : Rs), (pNode d r).2.bad = false → r.bad = false ∧ (pNode d r).1.pb.length + (pNode d r).2.s.size ≤ r.s.size ∧ (pNode d r).1.In
  | 0, r, h => by simp [pNode] at h
  | d + 1, r, h => by
    obtain ⟨c, q, hh⟩ : ∃ c q, r.byte = (c, q) := ⟨_, _, rfl⟩
    have hr := byte_range r
    have key : q.bad = false → r.bad = false ∧ q.s.size + 1 = r.s.size := fun hq => by
      have := byte_good (r := r) (by rw [hh]; exact hq)
      rw [hh] at this
      exact this
    rw [hh] at hr
    simp only at hr
    rw [pNode_hd hh] at h ⊢
    have pcnt : ∀ a b n, n < 16 → (pCn a b n).length = 1 := fun a b n h => by unfold pCn; rw [if_pos h]; rfl
    have li : ∀ (c : Nat) (q : Rs), (gItems pName (pNode d) 4 c [] [] q).2.bad = false → q.bad = false ∧ ∃ xs : List Nd, xs.length = c ∧ (gItems pName (pNode d) 4 c [] [] q).1.pb.length = (pCn 144 220 c).length + (Nd.pbs xs).length ∧ (Nd.pbs xs).length + (gItems pName (pNode d) 4 c [] [] q).2.s.size ≤ q.s.size ∧ (gItems pName (pNode d) 4 c [] [] q).1.In := fun c q h => by
      obtain ⟨h1, xs, h2, h3, h4, h5⟩ := gItems_good4 pName (pNode d) (pNode_good d) c [] [] q h
      refine ⟨h1, xs, h2, ?_, h4, ?_⟩
      · rw [h3]; simp [Nd.pb, h2]
      · rw [h3]; exact .mk (by omega) (by omega) (by simpa using h5)
    have ma : ∀ (c : Nat) (q : Rs), (gItems pName (pNode d) 5 c [] [] q).2.bad = false → q.bad = false ∧ ∃ (ss : List ByteArray) (xs : List Nd), xs.length = c ∧ (gItems pName (pNode d) 5 c [] [] q).1.pb.length = (pCn 128 222 c).length + (Nd.pbm ss xs).length ∧ (Nd.pbm ss xs).length + (gItems pName (pNode d) 5 c [] [] q).2.s.size ≤ q.s.size ∧ (gItems pName (pNode d) 5 c [] [] q).1.In := fun c q h => by
      obtain ⟨h1, ss, xs, h2, h2', h3, h4, h5⟩ := gItems_good5 (pNode d) (pNode_good d) c [] [] q h
      refine ⟨h1, ss, xs, h2', ?_, h4, ?_⟩
      · rw [h3]; simp [Nd.pb, h2']
      · rw [h3]; exact .mk (by omega) (by omega) (by simpa using h5)
    split at h
    · rename_i e; rw [if_pos e]
      obtain ⟨g1, g2⟩ := key h
      exact ⟨g1, by simp [Nd.zero, Nd.pb]; omega, zero_in⟩
    rename_i n1; rw [if_neg n1]
    split at h
    · rename_i e; rw [if_pos e]
      obtain ⟨g1, g2⟩ := key h
      exact ⟨g1, by simp [Nd.pb]; omega, .mk (by omega) (by omega) (by simp)⟩
    rename_i n2; rw [if_neg n2]
    split at h
    · rename_i e; rw [if_pos e]
      obtain ⟨g0, ss, xs, g3, g4, g5, g6⟩ := ma _ _ h
      obtain ⟨g1, g2⟩ := key g0
      have := pcnt 128 222 (c - 128).toNat (by omega)
      exact ⟨g1, by omega, g6⟩
    rename_i n3; rw [if_neg n3]
    split at h
    · rename_i e; rw [if_pos e]
      obtain ⟨g0, ss, xs, g3, g4, g5, g6⟩ := ma _ _ h
      have hc : (q.count (2 ^ 1)).2.bad = false := g0
      obtain ⟨u1, u2, u3, u4, u5⟩ := count_good (by omega) hc
      obtain ⟨g1, g2⟩ := key u1
      have := (pCn_pos 128 222 (q.count 2).1.toNat).2
      have u4 : (q.count 2).2.s.size + 2 = q.s.size := u4
      exact ⟨g1, by omega, g6⟩
    rename_i n4; rw [if_neg n4]
    split at h
    · rename_i e; rw [if_pos e]
      obtain ⟨g0, xs, g3, g4, g5, g6⟩ := li _ _ h
      obtain ⟨g1, g2⟩ := key g0
      have := pcnt 144 220 (c - 144).toNat (by omega)
      exact ⟨g1, by omega, g6⟩
    rename_i n5; rw [if_neg n5]
    split at h
    · rename_i e; rw [if_pos e]
      obtain ⟨g0, xs, g3, g4, g5, g6⟩ := li _ _ h
      have hc : (q.count (2 ^ 1)).2.bad = false := g0
      obtain ⟨u1, u2, u3, u4, u5⟩ := count_good (by omega) hc
      obtain ⟨g1, g2⟩ := key u1
      have := (pCn_pos 144 220 (q.count 2).1.toNat).2
      have u4 : (q.count 2).2.s.size + 2 = q.s.size := u4
      exact ⟨g1, by omega, g6⟩
    rename_i n6; rw [if_neg n6]
    split at h
    · rename_i e; rw [if_pos e]
      obtain ⟨t1, t2⟩ := pText_good (.inr (.inr h)) h
      obtain ⟨g1, g2⟩ := key t1
      refine ⟨g1, ?_, .mk (by omega) (by omega) (by simp)⟩
      rw [show (Nd.mk 3 false 0 (pText q c).1 [] [], (pText q c).2).1.pb = pTx (pText q c).1 by simp [Nd.pb]]
      simp only; omega
    · rename_i e; rw [if_neg e]
      obtain ⟨t1, t2, t3, t4⟩ := pNumR_good hr.1 hr.2 h
      obtain ⟨g1, g2⟩ := key t1
      refine ⟨g1, ?_, .mk t3 t4 (by simp)⟩
      rw [show (Nd.mk 2 false (pNumR q c).1 eS [] [], (pNumR q c).2).1.pb = pNum (pNumR q c).1 by simp [Nd.pb]]
      simp only; omega
end Go.AL
/- A serialisation that comes back, as plain data: what is encoded and what is decoded; no program in sight. -/
set_option linter.unusedVariables false
namespace Go.AL
open Go Go.RowKit

/-- A serialisation: how a node is written and what a string is read as. -/
structure Codec where
  E : Nd → List UInt8
  R : ByteArray → Nd × Rs
  back : ∀ {V : ByteArray → Bool} {x : Nd}, x.validB V 8 = true → x.In → R (ofL (E x)) = (x, ⟨eS, false⟩)
  good : ∀ {s : ByteArray}, (R s).2.bad = false → (R s).1.In
variable (C : Codec)
def gEnc (V : ByteArray → Bool) (x : Nd) : ByteArray × Int := if x.validB V 8 = true then (if 65536 < (C.E x).length then (eS, 3) else (ofL (C.E x), 0)) else (eS, 1)
def gGood (V : ByteArray → Bool) (s : ByteArray) : Prop := (C.R s).2.bad = false ∧ (C.R s).2.s = eS ∧ (C.R s).1.validB V 8 = true ∧ gEnc C V (C.R s).1 = (s, 0)
instance (V : ByteArray → Bool) (s : ByteArray) : Decidable (gGood C V s) := by unfold gGood; exact inferInstance
def gDec (V : ByteArray → Bool) (s : ByteArray) : Nd × Int := if gGood C V s then ((C.R s).1, 0) else (Nd.zero, 4)
variable {C}
theorem gDec_back {V : ByteArray → Bool} {x : Nd} (hv : x.validB V 8 = true) (hin : x.In) (hl : (C.E x).length ≤ 65536) : gDec C V (ofL (C.E x)) = (x, 0) := by
  have h := C.back hv hin
  have hg : gGood C V (ofL (C.E x)) := by
    unfold gGood
    rw [h]
    refine ⟨rfl, rfl, hv, ?_⟩
    simp only
    unfold gEnc
    rw [if_pos hv, if_neg (by omega)]
  unfold gDec
  rw [if_pos hg, h]
theorem gDec_good {V : ByteArray → Bool} {s : ByteArray} (h : gGood C V s) : (C.R s).1.In ∧ (C.E (C.R s).1).length ≤ 65536 ∧ s = ofL (C.E (C.R s).1) := by
  obtain ⟨h1, h2, h3, h4⟩ := h
  have := C.good h1
  unfold gEnc at h4
  rw [if_pos h3] at h4
  split at h4
  · have := congrArg (·.2) h4; simp at this
  · exact ⟨this, by omega, (congrArg (·.1) h4).symm⟩
theorem gDec_iff {V : ByteArray → Bool} {s : ByteArray} : gGood C V s ↔ ∃ x : Nd, x.validB V 8 = true ∧ x.In ∧ (C.E x).length ≤ 65536 ∧ s = ofL (C.E x) := by
  constructor
  · intro h
    obtain ⟨h1, h2, h3⟩ := gDec_good h
    exact ⟨_, h.2.2.1, h1, h2, h3⟩
  · rintro ⟨x, h1, h2, h3, rfl⟩
    have := gDec_back h1 h2 h3
    unfold gDec at this
    split at this
    · assumption
    · have := congrArg (·.2) this; simp at this
theorem gDec_zero {V : ByteArray → Bool} {s : ByteArray} (h : ¬ gGood C V s) : gDec C V s = (Nd.zero, 4) := if_neg h
theorem gEnc_ok {V : ByteArray → Bool} {x : Nd} (hv : x.validB V 8 = true) (hl : (C.E x).length ≤ 65536) : gEnc C V x = (ofL (C.E x), 0) := by
  unfold gEnc; rw [if_pos hv, if_neg (by omega)]
/-- The third serialisation. -/
def pkC : Codec where
  E := Nd.pb
  R s := pNode 8 ⟨s, false⟩
  back := fun {V x} hv hin => by
    have := pNode_back x 8 hv hin []
    rw [List.append_nil] at this
    exact this
  good := fun {s} h => by
    have := pNode_good 8 ⟨s, false⟩ h
    exact this.2.2

/-! ### what is read is not too large -/
/-! ### the bytes are at most three times those of the second serialisation -/
end Go.AL
/- The document's reader of the third serialisation as plain functions, and that it reads what was written; no program in sight. -/
set_option linter.unusedVariables false
namespace Go.AL
open Go Go.RowKit

def qFixed (s : ByteArray) (p k : Nat) : Int × Int :=
  if (s.size : Int) - p < k then (0, -1) else (((s.data.toList.drop p).take k).foldl u64Step 0, (p : Int) + k)
/-- The kind, the length and the place after it, or -1. -/
def qLen (s : ByteArray) (p : Nat) : (Int × Int) × Int :=
  let c := bAt s p
  if 160 ≤ c ∧ c < 192 then ((3, c - 160), (p : Int) + 1)
  else if 144 ≤ c ∧ c < 160 then ((4, c - 144), (p : Int) + 1)
  else if 128 ≤ c ∧ c < 144 then ((5, c - 128), (p : Int) + 1)
  else if 217 ≤ c ∧ c ≤ 219 then ((3, (qFixed s (p + 1) (2 ^ (c - 217).toNat)).1), (qFixed s (p + 1) (2 ^ (c - 217).toNat)).2)
  else if c = 220 then ((4, (qFixed s (p + 1) 2).1), (qFixed s (p + 1) 2).2)
  else if c = 222 then ((5, (qFixed s (p + 1) 2).1), (qFixed s (p + 1) 2).2)
  else ((0, 0), -1)
def qItems (nm f : Nat → Nd × Int) (k : Int) : Nat → List ByteArray → List Nd → Nat → Nd × Int
  | 0, ns, is, q => (.mk k false 0 eS ns is, q)
  | c + 1, ns, is, q =>
    if k = 5 then
      (if (nm q).2 < 0 ∨ (nm q).1.kind ≠ 3 then (Nd.zero, -1)
       else if (f (nm q).2.toNat).2 < 0 then (Nd.zero, -1)
       else qItems nm f k c (ns ++ [(nm q).1.text]) (is ++ [(f (nm q).2.toNat).1]) (f (nm q).2.toNat).2.toNat)
    else (if (f q).2 < 0 then (Nd.zero, -1) else qItems nm f k c ns (is ++ [(f q).1]) (f q).2.toNat)
def qNumb (n : Int) : Nd := .mk 2 false n eS [] []
def qVal (s : ByteArray) : Nat → Nat → Nat → Nd × Int
  | 0, d, p => (Nd.zero, -1)
  | u + 1, d, p =>
    if d < 1 ∨ s.size ≤ p then (Nd.zero, -1)
    else
      let c := bAt s p
      if c = 192 then (Nd.zero, (p : Int) + 1)
      else if c = 194 ∨ c = 195 then (.mk 1 (decide (c = 195)) 0 eS [] [], (p : Int) + 1)
      else if c < 128 then (qNumb c, (p : Int) + 1)
      else if 224 ≤ c then (qNumb (c - 256), (p : Int) + 1)
      else if 204 ≤ c ∧ c ≤ 207 then
        (if 9223372036854775807 < (qFixed s (p + 1) (2 ^ (c - 204).toNat)).1 then (Nd.zero, -1)
         else (qNumb (qFixed s (p + 1) (2 ^ (c - 204).toNat)).1, (qFixed s (p + 1) (2 ^ (c - 204).toNat)).2))
      else if 208 ≤ c ∧ c ≤ 211 then (qNumb (sx (2 ^ (c - 208).toNat) (qFixed s (p + 1) (2 ^ (c - 208).toNat)).1), (qFixed s (p + 1) (2 ^ (c - 208).toNat)).2)
      else
        let k := (qLen s p).1.1
        let n := (qLen s p).1.2
        let q := (qLen s p).2
        if q < 0 ∨ (k = 3 ∧ (s.size : Int) - q < n) ∨ (k ≠ 3 ∧ 256 < n) then (Nd.zero, -1)
        else if k = 3 then (.mk 3 false 0 (s.extract q.toNat (q + n).toNat) [] [], q + n)
        else qItems (qVal s u 1) (qVal s u (d - 1)) k n.toNat [] [] q.toNat

/-! ### it reads what was written -/
end Go.AL
/- The first serialisation as plain data: how a node is written; no program in sight. -/
set_option linter.unusedVariables false
namespace Go.AL
open Go Go.RowKit

def escL : List (UInt8 × UInt8) := [(34, 34), (92, 92), (8, 98), (9, 116), (10, 110), (12, 102), (13, 114)]
def escO (c : UInt8) : Option UInt8 := escL.lookup c
def hexB (n : Nat) : UInt8 := if n < 10 then UInt8.ofNat (48 + n) else UInt8.ofNat (87 + n)
def jEsc (c : UInt8) : List UInt8 :=
  match escO c with
  | some l => [92, l]
  | none => if c.toNat < 32 then [92, 117, 48, 48, hexB (c.toNat / 16), hexB (c.toNat % 16)] else [c]
def jEscs : List UInt8 → List UInt8
  | [] => []
  | c :: l => jEsc c ++ jEscs l
def jQ (s : ByteArray) : List UInt8 := 34 :: (jEscs s.data.toList ++ [34])
theorem jEsc_len (c : UInt8) : 1 ≤ (jEsc c).length ∧ (jEsc c).length ≤ 6 := by
  unfold jEsc
  split
  · simp
  · split <;> simp
theorem jEscs_append : ∀ a b : List UInt8, jEscs (a ++ b) = jEscs a ++ jEscs b
  | [], b => rfl
  | c :: a, b => by simp [jEscs, jEscs_append a b]
theorem jEscs_len : ∀ l : List UInt8, (jEscs l).length ≤ 6 * l.length
  | [] => by simp [jEscs]
  | c :: l => by
    have := jEsc_len c
    have := jEscs_len l
    simp only [jEscs, List.length_append, List.length_cons]; omega
theorem jEscs_take (l : List UInt8) (i : Nat) (h : i < l.length) : jEscs (l.take (i + 1)) = jEscs (l.take i) ++ jEsc (l.getD i default) := by
  rw [List.take_add_one, List.getElem?_eq_getElem h, Option.toList_some, jEscs_append, List.getD_eq_getElem?_getD, List.getElem?_eq_getElem h]
  simp [jEscs]
def jNull : List UInt8 := [110, 117, 108, 108]
def jTrue : List UInt8 := [116, 114, 117, 101]
def jFalse : List UInt8 := [102, 97, 108, 115, 101]
mutual
def Nd.jb : Nd → List UInt8
  | .mk k b n t ns is =>
    if k = 0 then jNull else if k = 1 then (if b then jTrue else jFalse) else if k = 2 then Lib.itoa n
    else if k = 3 then jQ t else if k = 4 then 91 :: (Nd.jbs true is ++ [93]) else 123 :: (Nd.jbm true ns is ++ [125])
def Nd.jbs : Bool → List Nd → List UInt8
  | _, [] => []
  | f, x :: xs => (if f then [] else [44]) ++ (x.jb ++ Nd.jbs false xs)
def Nd.jbm : Bool → List ByteArray → List Nd → List UInt8
  | f, s :: ns, x :: xs => (if f then [] else [44]) ++ (jQ s ++ (58 :: (x.jb ++ Nd.jbm false ns xs)))
  | _, _, _ => []
end
theorem jbs_snoc : ∀ (f : Bool) (a : List Nd) (x : Nd), Nd.jbs f (a ++ [x]) = Nd.jbs f a ++ ((if f && a.isEmpty then [] else [44]) ++ x.jb)
  | f, [], x => by simp [Nd.jbs]
  | f, y :: a, x => by simp [Nd.jbs, jbs_snoc false a x, List.append_assoc]
theorem jbm_snoc : ∀ (f : Bool) (a : List ByteArray) (b : List Nd) (s : ByteArray) (x : Nd), a.length = b.length → Nd.jbm f (a ++ [s]) (b ++ [x]) = Nd.jbm f a b ++ ((if f && b.isEmpty then [] else [44]) ++ (jQ s ++ (58 :: x.jb)))
  | f, [], [], s, x, _ => by simp [Nd.jbm]
  | f, n :: a, y :: b, s, x, h => by simp [Nd.jbm, jbm_snoc false a b s x (by simpa using h), List.append_assoc]
  | _, [], _ :: _, _, _, h => by simp at h
  | _, _ :: _, [], _, _, h => by simp at h
/-- What stands ahead of the item with this number. -/
def preJ (k : Int) (ns : List ByteArray) (is : List Nd) (i : Nat) : List UInt8 := if k = 5 then Nd.jbm true (ns.take i) (is.take i) else Nd.jbs true (is.take i)
theorem take_snoc {α : Type} [Inhabited α] (l : List α) (i : Nat) (h : i < l.length) : l.take (i + 1) = l.take i ++ [l.getD i default] := by
  rw [List.take_add_one, List.getElem?_eq_getElem h]; simp [List.getD_eq_getElem?_getD, h]
theorem take_empty {α : Type} (l : List α) (i : Nat) (h : i < l.length) : (l.take i).isEmpty = decide (i = 0) := by
  cases i with
  | zero => simp
  | succ i => cases l with
    | nil => simp at h
    | cons x l => simp
theorem preJ_list {k : Int} {ns : List ByteArray} {is : List Nd} {i : Nat} (hk : k ≠ 5) (hi : i < is.length) : preJ k ns is (i + 1) = preJ k ns is i ++ ((if i = 0 then [] else [44]) ++ (is.getD i default).jb) := by
  simp only [preJ, if_neg hk, take_snoc is i hi, jbs_snoc, take_empty is i hi, Bool.true_and, decide_eq_true_eq]
theorem preJ_map {ns : List ByteArray} {is : List Nd} {i : Nat} (hl : ns.length = is.length) (hi : i < is.length) : preJ 5 ns is (i + 1) = preJ 5 ns is i ++ ((if i = 0 then [] else [44]) ++ (jQ (ns.getD i default) ++ (58 :: (is.getD i default).jb))) := by
  have := jbm_snoc true (ns.take i) (is.take i) (ns.getD i default) (is.getD i default) (by simp; omega)
  simp only [preJ, if_true, take_snoc is i hi, take_snoc ns i (by omega), this, take_empty is i hi, Bool.true_and, decide_eq_true_eq]
theorem preJ_mono {k : Int} {ns : List ByteArray} {is : List Nd} (hk : k = 5 → ns.length = is.length) {i j : Nat} (hij : i ≤ j) (hj : j ≤ is.length) : (preJ k ns is i).length ≤ (preJ k ns is j).length := by
  induction j with
  | zero => rw [show i = 0 by omega]; exact Nat.le_refl _
  | succ j ih =>
    rcases Nat.lt_or_ge i (j + 1) with h | h
    · refine Nat.le_trans (ih (by omega) (by omega)) ?_
      by_cases h5 : k = 5
      · subst h5
        rw [preJ_map (hk rfl) (by omega), List.length_append]; omega
      · rw [preJ_list h5 (by omega), List.length_append]; omega
    · rw [show i = j + 1 by omega]; exact Nat.le_refl _
theorem dig_len (u : Nat) (h : u < 18446744073709551616) : 1 ≤ (Lib.decDigits u).length ∧ (Lib.decDigits u).length ≤ 20 := by
  rw [Lib.decDigits_length]
  have h1 : 1 ≤ Lib.nDigits u := by
    by_cases h : u < 10
    · rw [Lib.nDigits_small h]; omega
    · rw [Lib.nDigits_big h]; omega
  refine ⟨h1, ?_⟩
  by_cases h0 : 1 ≤ u
  · have := Lib.numDigits_eq u h0 h; split at this <;> omega
  · rw [show u = 0 by omega, Lib.nDigits_small (by omega)]; omega
theorem itoa_len (n : Int) (h0 : -9223372036854775808 ≤ n) (h1 : n ≤ 9223372036854775807) : 1 ≤ (Lib.itoa n).length ∧ (Lib.itoa n).length ≤ 21 := by
  unfold Lib.itoa
  split
  · have := dig_len n.natAbs (by omega); simp only [List.length_cons]; omega
  · have := dig_len n.toNat (by omega); omega
theorem jQ_len (s : ByteArray) : 2 ≤ (jQ s).length ∧ (jQ s).length ≤ 6 * s.size + 2 := by
  have := jEscs_len s.data.toList
  have hd : s.data.toList.length = s.size := by rw [Array.length_toList]; rfl
  unfold jQ
  simp only [List.length_cons, List.length_append, List.length_nil]; omega
/-! ### the bytes are few for those of the second serialisation -/
end Go.AL
namespace Go.AL
open Go Go.RowKit
def jEnc (V : ByteArray → Bool) (x : Nd) : ByteArray × Int := if x.validB V 8 = true then (if 65536 < x.jb.length then (eS, 3) else (ofL x.jb, 0)) else (eS, 1)
end Go.AL
