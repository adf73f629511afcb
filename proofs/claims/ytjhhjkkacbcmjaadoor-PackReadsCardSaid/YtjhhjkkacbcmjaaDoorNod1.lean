/- Nodes as plain data; no program in sight. -/
import Derived.Test.YtjhhjkkacbcmjaaDoorAl3
set_option linter.unusedVariables false
namespace Go.AL
open Go Go.RowKit

inductive Nd where
  | mk (kind : Int) (b : Bool) (num : Int) (text : ByteArray) (names : List ByteArray) (items : List Nd)
  deriving Inhabited

mutual
def Nd.toT : Nd → T
  | .mk k b n t ns is => .agg [.int .i64 k, .bool b, .int .i64 n, .str t, .sl 1 (ns.map .str), .sl 6 (Nd.toTs is)]
def Nd.toTs : List Nd → List T
  | [] => []
  | x :: xs => x.toT :: Nd.toTs xs
end
theorem Nd.toTs_map : ∀ l : List Nd, Nd.toTs l = l.map Nd.toT
  | [] => rfl
  | x :: xs => by simp [Nd.toTs, Nd.toTs_map xs]
def Nd.items : Nd → List Nd
  | .mk _ _ _ _ _ is => is
def Nd.names : Nd → List ByteArray
  | .mk _ _ _ _ ns _ => ns
theorem Nd.toT_eq (k : Int) (b : Bool) (n : Int) (t : ByteArray) (ns : List ByteArray) (is : List Nd) : (Nd.mk k b n t ns is).toT = .agg [.int .i64 k, .bool b, .int .i64 n, .str t, .sl 1 (ns.map .str), .sl 6 (is.map Nd.toT)] := by
  rw [Nd.toT, Nd.toTs_map]
theorem Nd.toT_agg (x : Nd) : x.toT.isAgg = true ∧ x.toT.cells.length = 6 := by
  cases x; rw [Nd.toT_eq]; exact ⟨rfl, rfl⟩

/-- No slice of it is too long. -/
inductive Nd.Ok : Nd → Prop
  | mk {k : Int} {b : Bool} {n : Int} {t : ByteArray} {ns : List ByteArray} {is : List Nd} : ns.length ≤ 8796093021952 → is.length ≤ 1599289640354 → (∀ x ∈ is, x.Ok) → Nd.Ok (.mk k b n t ns is)

section
variable {P : Program} {nt : Nat} {ops : Array Oper} {o : Oper} {rest : List Oper} {env : EnvL} {st : StO} {acc : List SD} {K : EnvL → StO → List SD → Prop} {d : Nat}
end
end Go.AL
/- Which nodes are valid, as plain data; no program in sight. -/
set_option linter.unusedVariables false
namespace Go.AL
open Go Go.RowKit

def Nd.fieldsOK : Nd → Bool
  | .mk k b n t ns is => (decide (k = 1) || !b) && (decide (k = 2) || decide (n = 0)) && (decide (k = 3) || decide (t = ⟨#[]⟩)) && (decide (k = 4) || decide (k = 5) || decide ((is.length : Int) = 0)) && (decide (k = 5) || decide ((ns.length : Int) = 0))

def textB (V : ByteArray → Bool) (s : ByteArray) : Bool := decide ((s.size : Int) ≤ 65536) && V s

def inB (s : ByteArray) (l : List ByteArray) : Bool := l.any fun x => decide (s = x)
/-- No name twice, each one a text. -/
def namesOk (tx : ByteArray → Bool) : List ByteArray → List ByteArray → Bool
  | _, [] => true
  | seen, s :: l => if inB s seen || !tx s then false else namesOk tx (s :: seen) l

mutual
def Nd.validB (V : ByteArray → Bool) : Nd → Int → Bool
  | .mk k b n t ns is, d => !(decide (d < 1) || decide (k < 0) || decide (5 < k) || !(Nd.mk k b n t ns is).fieldsOK || !textB V t || decide (256 < (is.length : Int))) && (!decide (k = 5) || (namesOk (textB V) [] ns && decide ((ns.length : Int) = is.length))) && !Nd.anyBad V is (d - 1)
def Nd.anyBad (V : ByteArray → Bool) : List Nd → Int → Bool
  | [], _ => false
  | x :: xs, d => !x.validB V d || Nd.anyBad V xs d
end
theorem Nd.anyBad_any (V : ByteArray → Bool) (d : Int) : ∀ l : List Nd, Nd.anyBad V l d = l.any fun x => !x.validB V d
  | [] => by simp [Nd.anyBad]
  | x :: xs => by simp [Nd.anyBad, Nd.anyBad_any V d xs]
end Go.AL
/- Maps as plain data: places, puts, and what they keep; no program in sight. -/
set_option linter.unusedVariables false
namespace Go.AL
open Go Go.RowKit

def Nd.kind : Nd → Int
  | .mk k _ _ _ _ _ => k
def Nd.bool : Nd → Bool
  | .mk _ b _ _ _ _ => b
def Nd.num : Nd → Int
  | .mk _ _ n _ _ _ => n
def Nd.text : Nd → ByteArray
  | .mk _ _ _ t _ _ => t
def Nd.zero : Nd := .mk 0 false 0 ⟨#[]⟩ [] []
def idxB (s : ByteArray) : List ByteArray → Int → Int
  | [], _ => -1
  | x :: xs, j => if s = x then j else idxB s xs (j + 1)
def Nd.place (n : Nd) (s : ByteArray) : Int := if n.kind = 5 then idxB s (n.names.take (min n.names.length n.items.length)) 0 else -1
def Nd.get (n : Nd) (s : ByteArray) : Nd × Bool := if n.place s < 0 then (Nd.zero, false) else (n.items.getD (n.place s).toNat default, true)
def Nd.set (n : Nd) (s : ByteArray) (v : Nd) : Nd :=
  if 0 ≤ n.place s then .mk n.kind n.bool n.num n.text n.names (n.items.set (n.place s).toNat v)
  else .mk n.kind n.bool n.num n.text (n.names ++ [s]) (n.items ++ [v])
def Nd.put (V : ByteArray → Bool) (n : Nd) (s : ByteArray) (v : Nd) : Nd × Int :=
  if n.kind = 5 ∧ n.validB V 8 = true ∧ (n.set s v).validB V 8 = true then (n.set s v, 0) else (Nd.zero, 1)

theorem idxB_at (s : ByteArray) : ∀ (l : List ByteArray) (j : Int) (i : Nat), l.Nodup → l[i]? = some s → idxB s l j = j + i
  | [], j, i, _, h => by simp at h
  | x :: xs, j, 0, _, h => by
    simp only [List.getElem?_cons_zero, Option.some.injEq] at h
    simp [idxB, h]
  | x :: xs, j, i + 1, hn, h => by
    simp only [List.getElem?_cons_succ] at h
    have hm : s ∈ xs := List.mem_of_getElem? h
    have hx : s ≠ x := fun e => (List.nodup_cons.1 hn).1 (e ▸ hm)
    rw [idxB, if_neg hx, idxB_at s xs (j + 1) i (List.nodup_cons.1 hn).2 h]
    omega
theorem inB_iff (s : ByteArray) (l : List ByteArray) : inB s l = true ↔ s ∈ l := by
  simp [inB]
theorem namesOk_iff (tx : ByteArray → Bool) : ∀ (l seen : List ByteArray), namesOk tx seen l = true ↔ l.Nodup ∧ ∀ s ∈ l, s ∉ seen ∧ tx s = true
  | [], seen => by simp [namesOk]
  | x :: xs, seen => by
    simp only [namesOk]
    split
    · rename_i h
      simp only [Bool.or_eq_true, inB_iff, Bool.not_eq_true'] at h
      constructor
      · intro h2; simp at h2
      · rintro ⟨_, h2⟩
        have := h2 x (by simp)
        rcases h with h | h
        · exact absurd h this.1
        · rw [this.2] at h; simp at h
    · rename_i h
      simp only [Bool.or_eq_true, inB_iff, Bool.not_eq_true', not_or] at h
      rw [namesOk_iff tx xs (x :: seen), List.nodup_cons]
      constructor
      · rintro ⟨h1, h2⟩
        refine ⟨⟨fun hx => (h2 x hx).1 (by simp), h1⟩, fun s hs => ?_⟩
        rcases List.mem_cons.1 hs with rfl | hs
        · exact ⟨h.1, by simpa using h.2⟩
        · exact ⟨fun hc => (h2 s hs).1 (by simp [hc]), (h2 s hs).2⟩
      · rintro ⟨⟨h1, h2⟩, h3⟩
        refine ⟨h2, fun s hs => ⟨?_, (h3 s (by simp [hs])).2⟩⟩
        intro hc
        rcases List.mem_cons.1 hc with rfl | hc
        · exact h1 hs
        · exact (h3 s (by simp [hs])).1 hc
end Go.AL
/- Dice and the nodes that the kit makes of them, as plain data; no program in sight. -/
set_option linter.unusedVariables false
namespace Go.AL
open Go Go.RowKit

/-- Dice: the numbers, and how many of them are used. -/
structure Dc where
  l : List Int
  k : Nat
def modI (n m : Int) : Int := if m < 1 then 0 else n % m
def Dc.next (d : Dc) (n : Int) : Int × Dc := if (d.l.length : Int) ≤ d.k then (0, d) else (modI (d.l.getD d.k 0) n, ⟨d.l, d.k + 1⟩)
def Dc.word (d : Dc) (l : List ByteArray) : ByteArray × Dc := (l.getD (d.next l.length).1.toNat default, (d.next l.length).2)
theorem modI_lt (n m : Int) (h : 1 ≤ m) : 0 ≤ modI n m ∧ modI n m < m := by
  unfold modI
  rw [if_neg (by omega)]
  exact ⟨Int.emod_nonneg _ (by omega), Int.emod_lt_of_pos _ (by omega)⟩
theorem Dc.next_lt (d : Dc) (n : Int) (h : 1 ≤ n) : 0 ≤ (d.next n).1 ∧ (d.next n).1 < n := by
  unfold Dc.next; split
  · exact ⟨Int.le_refl 0, by show (0 : Int) < n; omega⟩
  · exact modI_lt _ _ h
theorem Dc.next_l (d : Dc) (n : Int) : (d.next n).2.l = d.l := by
  unfold Dc.next; split <;> rfl
theorem Dc.word_mem (d : Dc) (l : List ByteArray) (h : l ≠ []) : (d.word l).1 ∈ l := by
  have hp := List.length_pos_iff.2 h
  have := d.next_lt l.length (by omega)
  unfold Dc.word
  simp only
  rw [List.getD_eq_getElem?_getD, List.getElem?_eq_getElem (by omega)]
  exact List.getElem_mem _

def eS : ByteArray := ⟨#[]⟩
def xS : ByteArray := ⟨#[120]⟩
def kTexts : List ByteArray := [⟨#[]⟩, ⟨#[97]⟩, ⟨#[66, 111, 110, 110]⟩, ⟨#[97, 32, 34, 113, 117, 111, 116, 101, 100, 34, 32, 92, 32, 116, 101, 120, 116]⟩, ⟨#[108, 105, 110, 101, 10, 97, 110, 100, 9, 116, 97, 98, 1, 31, 127]⟩, ⟨#[195, 164, 226, 130, 172, 240, 159, 152, 128]⟩, ⟨#[75, 69, 82, 73, 49, 48, 74, 83, 79, 78, 48, 48, 48, 48, 50, 97, 95]⟩]
def kSizes : List Int := [23, 24, 31, 32, 255, 256]
def kPad : Nat → ByteArray → Dc → ByteArray × Dc
  | 0, s, d => (s, (d.next 6).2)
  | f + 1, s, d => if (s.size : Int) < kSizes.getD (d.next 6).1.toNat 0 then kPad f (s ++ xS) (d.next 6).2 else (s, (d.next 6).2)
def kText (d : Dc) : ByteArray × Dc :=
  if ((d.word kTexts).2.next 10).1 = 1 then kPad 300 (d.word kTexts).1 ((d.word kTexts).2.next 10).2 else ((d.word kTexts).1, ((d.word kTexts).2.next 10).2)
def kFill : Nat → List Nd → Dc → List Nd × Dc
  | 0, l, d => (l, (d.next 3).2)
  | f + 1, l, d => if (l.length : Int) < 15 + (d.next 3).1 then kFill f (l ++ [Nd.zero]) (d.next 3).2 else (l, (d.next 3).2)
def kWords : List ByteArray := [⟨#[97]⟩, ⟨#[98]⟩, ⟨#[118]⟩, ⟨#[100]⟩, ⟨#[]⟩]
def kTwo (i : Nat) : ByteArray := ⟨#[UInt8.ofNat (48 + i % 10), UInt8.ofNat (48 + i / 10)]⟩
def kNames : Nat → Nat → Dc → List ByteArray × Dc
  | 0, _, d => ([], d)
  | c + 1, i, d => (((d.word kWords).1 ++ kTwo i) :: (kNames c (i + 1) (d.word kWords).2).1, (kNames c (i + 1) (d.word kWords).2).2)
def kItems (f : Dc → Nd × Dc) : Nat → Dc → List Nd × Dc
  | 0, d => ([], d)
  | c + 1, d => ((f d).1 :: (kItems f c (f d).2).1, (kItems f c (f d).2).2)
def kNums : List Int := [0, 1, 23, 24, 127, 128, 255, 256, 65535, 65536, 4294967296, 9223372036854775807]
def kSeq (k : Int) (f : Dc → Nd × Dc) (d : Dc) : Nd × Dc :=
  let q := d.next 4
  let is := kItems f q.1.toNat q.2
  let z := is.2.next 20
  let g := if z.1 = 1 then kFill 20 is.1 z.2 else (is.1, z.2)
  let ns := if k = 5 then kNames g.1.length 0 g.2 else ([], g.2)
  (.mk k false 0 eS ns.1 g.1, ns.2)
def kTree (rec : Option (Dc → Nd × Dc)) (d : Dc) : Nd × Dc :=
  let k := (d.next 6).1
  let e := (d.next 6).2
  if k = 1 then (.mk 1 (decide ((e.next 2).1 = 1)) 0 eS [] [], (e.next 2).2)
  else if k = 2 then (.mk 2 false (if ((e.next 12).2.next 2).1 = 1 then -1 - kNums.getD (e.next 12).1.toNat 0 else kNums.getD (e.next 12).1.toNat 0) eS [] [], ((e.next 12).2.next 2).2)
  else if k = 3 then (.mk 3 false 0 (kText e).1 [] [], (kText e).2)
  else if k = 4 ∨ k = 5 then match rec with
    | none => (.mk k false 0 eS [] [], e)
    | some f => kSeq k f e
  else (Nd.zero, e)
def kNode : Nat → Dc → Nd × Dc
  | 0, d => kTree none d
  | 1, d => kTree none d
  | n + 2, d => kTree (some (kNode (n + 1))) d
def kMapNames : List ByteArray := [⟨#[97]⟩, ⟨#[98]⟩, ⟨#[118]⟩, ⟨#[100]⟩]
def kMap (n : Nat) (d : Dc) : Nd × Dc :=
  (.mk 5 false 0 eS (kMapNames.take (d.next 4).1.toNat) (kItems (kNode (n - 1)) (d.next 4).1.toNat (d.next 4).2).1, (kItems (kNode (n - 1)) (d.next 4).1.toNat (d.next 4).2).2)

/-! ### they are valid -/
/-- What is asked of the test of texts. -/
structure VOk (V : ByteArray → Bool) : Prop where
  asc : ∀ s : ByteArray, (∀ b ∈ s.data.toList, b.toNat < 128) → V s = true
  app : ∀ s : ByteArray, V s = true → V (s ++ xS) = true
  odd : V ⟨#[195, 164, 226, 130, 172, 240, 159, 152, 128]⟩ = true

theorem kPad_ok {V : ByteArray → Bool} (hV : VOk V) : ∀ (f : Nat) (s : ByteArray) (d : Dc), V s = true → s.size ≤ 256 → V (kPad f s d).1 = true ∧ (kPad f s d).1.size ≤ 256
  | 0, s, d, h, h2 => ⟨h, h2⟩
  | f + 1, s, d, h, h2 => by
    simp only [kPad]; split
    · rename_i hc
      have hs : (kSizes.getD (d.next 6).1.toNat 0) ≤ 256 := by
        have := d.next_lt 6 (by omega)
        generalize (d.next 6).1.toNat = j
        match j with
        | 0 | 1 | 2 | 3 | 4 | 5 => simp [kSizes]
        | j + 6 => simp [kSizes]
      refine kPad_ok hV f _ _ (hV.app s h) ?_
      rw [ByteArray.size_append]
      have : xS.size = 1 := rfl
      omega
    · exact ⟨h, h2⟩
theorem kTexts_ok {V : ByteArray → Bool} (hV : VOk V) : ∀ s ∈ kTexts, V s = true ∧ s.size ≤ 256 := by
  intro s hs
  simp only [kTexts, List.mem_cons, List.not_mem_nil, or_false] at hs
  rcases hs with rfl | rfl | rfl | rfl | rfl | rfl | rfl
  case' inr.inr.inr.inr.inr.inl => exact ⟨hV.odd, by decide⟩
  all_goals exact ⟨hV.asc _ (by decide), by decide⟩
theorem kText_ok {V : ByteArray → Bool} (hV : VOk V) (d : Dc) : V (kText d).1 = true ∧ (kText d).1.size ≤ 256 := by
  have h := kTexts_ok hV _ (d.word_mem kTexts (by simp [kTexts]))
  unfold kText
  split
  · exact kPad_ok hV _ _ _ h.1 h.2
  · exact h
end Go.AL
/- That the nodes of the kit are valid, as plain data; no program in sight. -/
set_option linter.unusedVariables false
set_option linter.unusedSimpArgs false
namespace Go.AL
open Go Go.RowKit

theorem valid_mk (V : ByteArray → Bool) (k : Int) (b : Bool) (n : Int) (t : ByteArray) (ns : List ByteArray) (is : List Nd) (e : Int) :
    (Nd.mk k b n t ns is).validB V e = true ↔ 1 ≤ e ∧ 0 ≤ k ∧ k ≤ 5 ∧ (Nd.mk k b n t ns is).fieldsOK = true ∧ textB V t = true ∧ (is.length : Int) ≤ 256 ∧ (k = 5 → namesOk (textB V) [] ns = true ∧ ns.length = is.length) ∧ ∀ x ∈ is, x.validB V (e - 1) = true := by
  rw [Nd.validB, Nd.anyBad_any]
  simp only [Bool.and_eq_true, Bool.not_eq_true', Bool.or_eq_false_iff, decide_eq_false_iff_not, Bool.not_eq_false', Bool.or_eq_true, decide_eq_true_eq, List.any_eq_false]
  constructor
  · rintro ⟨⟨⟨⟨⟨⟨⟨h1, h2⟩, h3⟩, h4⟩, h5⟩, h6⟩, h7⟩, h8⟩
    refine ⟨by omega, by omega, by omega, by simpa using h4, by simpa using h5, by omega, fun hk => ?_, fun x hx => by simpa using h8 x hx⟩
    rcases h7 with h7 | h7
    · exact absurd hk h7
    · exact ⟨h7.1, by omega⟩
  · rintro ⟨h1, h2, h3, h4, h5, h6, h7, h8⟩
    refine ⟨⟨⟨⟨⟨⟨⟨by omega, by omega⟩, by omega⟩, by simpa using h4⟩, by simpa using h5⟩, by omega⟩, ?_⟩, fun x hx => by simpa using h8 x hx⟩
    by_cases hk : k = 5
    · exact .inr ⟨(h7 hk).1, by have := (h7 hk).2; omega⟩
    · exact .inl hk
theorem text_empty {V : ByteArray → Bool} (hV : VOk V) : textB V eS = true := by
  unfold textB
  rw [hV.asc eS (by simp [eS])]
  rfl
theorem zero_valid {V : ByteArray → Bool} (hV : VOk V) (e : Int) (he : 1 ≤ e) : Nd.zero.validB V e = true := by
  rw [Nd.zero, valid_mk]
  exact ⟨he, by decide, by decide, by decide, text_empty hV, by simp, by simp, by simp⟩

theorem kItems_len (f : Dc → Nd × Dc) : ∀ (c : Nat) (d : Dc), (kItems f c d).1.length = c
  | 0, d => rfl
  | c + 1, d => by simp [kItems, kItems_len f c]
theorem kItems_all (f : Dc → Nd × Dc) (p : Nd → Prop) (h : ∀ d, p (f d).1) : ∀ (c : Nat) (d : Dc), ∀ x ∈ (kItems f c d).1, p x
  | 0, d => by simp [kItems]
  | c + 1, d => by
    intro x hx
    simp only [kItems, List.mem_cons] at hx
    rcases hx with rfl | hx
    · exact h d
    · exact kItems_all f p h c _ x hx
theorem kFill_ok : ∀ (f : Nat) (l : List Nd) (d : Dc), l.length ≤ 17 → (kFill f l d).1.length ≤ 17 ∧ ∀ x ∈ (kFill f l d).1, x ∈ l ∨ x = Nd.zero
  | 0, l, d, h => ⟨h, fun x hx => .inl hx⟩
  | f + 1, l, d, h => by
    have := d.next_lt 3 (by omega)
    simp only [kFill]; split
    · obtain ⟨h1, h2⟩ := kFill_ok f (l ++ [Nd.zero]) (d.next 3).2 (by simp; omega)
      refine ⟨h1, fun x hx => ?_⟩
      rcases h2 x hx with h3 | h3
      · rcases List.mem_append.1 h3 with h4 | h4
        · exact .inl h4
        · exact .inr (by simpa using h4)
      · exact .inr h3
    · exact ⟨h, fun x hx => .inl hx⟩
theorem kNames_len : ∀ (c i : Nat) (d : Dc), (kNames c i d).1.length = c
  | 0, i, d => rfl
  | c + 1, i, d => by simp [kNames, kNames_len c]
theorem kNames_mem : ∀ (c i : Nat) (d : Dc), ∀ s ∈ (kNames c i d).1, ∃ w ∈ kWords, ∃ j, i ≤ j ∧ j < i + c ∧ s = w ++ kTwo j
  | 0, i, d => by simp [kNames]
  | c + 1, i, d => by
    intro s hs
    simp only [kNames, List.mem_cons] at hs
    rcases hs with rfl | hs
    · exact ⟨_, d.word_mem kWords (by simp [kWords]), i, by omega, by omega, rfl⟩
    · obtain ⟨w, hw, j, h1, h2, h3⟩ := kNames_mem c (i + 1) _ s hs
      exact ⟨w, hw, j, by omega, by omega, h3⟩
theorem kTwo_inj {w w' : ByteArray} {i j : Nat} (hi : i < 100) (hj : j < 100) (h : w ++ kTwo i = w' ++ kTwo j) : i = j := by
  have h2 := congrArg (fun s : ByteArray => s.data.toList) h
  simp only [ByteArray.data_append, Array.toList_append] at h2
  have h3 := (List.append_inj' h2 rfl).2
  simp only [kTwo, List.cons.injEq, and_true] at h3
  have h4 := congrArg UInt8.toNat h3.1
  have h5 := congrArg UInt8.toNat h3.2
  simp only [UInt8.toNat_ofNat'] at h4 h5
  omega
theorem kNames_nodup : ∀ (c i : Nat) (d : Dc), i + c ≤ 100 → (kNames c i d).1.Nodup
  | 0, i, d, _ => by simp [kNames]
  | c + 1, i, d, h => by
    simp only [kNames, List.nodup_cons]
    refine ⟨fun hm => ?_, kNames_nodup c (i + 1) _ (by omega)⟩
    obtain ⟨w, hw, j, h1, h2, h3⟩ := kNames_mem c (i + 1) _ _ hm
    have := kTwo_inj (by omega) (by omega) h3
    omega
theorem kTwo_asc (j : Nat) (h : j < 100) : ∀ b ∈ (kTwo j).data.toList, b.toNat < 128 := by
  intro b hb
  simp only [kTwo, List.mem_cons, List.not_mem_nil, or_false] at hb
  rcases hb with rfl | rfl <;> simp only [UInt8.toNat_ofNat'] <;> omega
theorem kWords_asc : ∀ w ∈ kWords, (∀ b ∈ w.data.toList, b.toNat < 128) ∧ w.size ≤ 1 := by
  intro w hw
  simp only [kWords, List.mem_cons, List.not_mem_nil, or_false] at hw
  rcases hw with rfl | rfl | rfl | rfl | rfl <;> exact ⟨by decide, by decide⟩
theorem kNames_text {V : ByteArray → Bool} (hV : VOk V) (c i : Nat) (d : Dc) (h : i + c ≤ 100) : ∀ s ∈ (kNames c i d).1, textB V s = true := by
  intro s hs
  obtain ⟨w, hw, j, h1, h2, rfl⟩ := kNames_mem c i d s hs
  have hw2 := kWords_asc w hw
  unfold textB
  rw [hV.asc _ ?_]
  · have : (kTwo j).size = 2 := rfl
    rw [ByteArray.size_append]
    simp; omega
  · intro b hb
    rw [ByteArray.data_append, Array.toList_append] at hb
    rcases List.mem_append.1 hb with hb | hb
    · exact hw2.1 b hb
    · exact kTwo_asc j (by omega) b hb
theorem kSeq_ok {V : ByteArray → Bool} (hV : VOk V) (k : Int) (hk : k = 4 ∨ k = 5) (f : Dc → Nd × Dc) (e : Int) (he : 2 ≤ e) (hf : ∀ d, (f d).1.validB V (e - 1) = true) (d : Dc) : (kSeq k f d).1.validB V e = true := by
  have hq := d.next_lt 4 (by omega)
  have hl := kItems_len f (d.next 4).1.toNat (d.next 4).2
  have ha := kItems_all f (fun x => x.validB V (e - 1) = true) hf (d.next 4).1.toNat (d.next 4).2
  unfold kSeq
  simp only
  generalize kItems f (d.next 4).1.toNat (d.next 4).2 = is at hl ha ⊢
  have hg : ∃ g : List Nd × Dc, (if (is.2.next 20).1 = 1 then kFill 20 is.1 (is.2.next 20).2 else (is.1, (is.2.next 20).2)) = g ∧ g.1.length ≤ 17 ∧ ∀ x ∈ g.1, x.validB V (e - 1) = true := by
    refine ⟨_, rfl, ?_⟩
    split
    · obtain ⟨h1, h2⟩ := kFill_ok 20 is.1 (is.2.next 20).2 (by omega)
      refine ⟨h1, fun x hx => ?_⟩
      rcases h2 x hx with h | rfl
      · exact ha x h
      · exact zero_valid hV _ (by omega)
    · exact ⟨by simp only; omega, ha⟩
  obtain ⟨g, e1, e2, e3⟩ := hg
  rw [e1, valid_mk]
  refine ⟨by omega, by omega, by omega, ?_, text_empty hV, by omega, fun h5 => ?_, e3⟩
  · rcases hk with rfl | rfl <;> simp [Nd.fieldsOK, eS]
  · subst h5
    simp only [if_true]
    exact ⟨(namesOk_iff _ _ _).2 ⟨kNames_nodup _ _ _ (by omega), fun s hs => ⟨by simp, kNames_text hV _ _ _ (by omega) s hs⟩⟩, kNames_len _ _ _⟩
theorem kTree_ok {V : ByteArray → Bool} (hV : VOk V) (rec : Option (Dc → Nd × Dc)) (e : Int) (he : 1 ≤ e) (hf : ∀ f, rec = some f → 2 ≤ e ∧ ∀ d, (f d).1.validB V (e - 1) = true) (d : Dc) : (kTree rec d).1.validB V e = true := by
  unfold kTree
  simp only
  split
  · rw [valid_mk]
    exact ⟨he, by decide, by decide, by simp [Nd.fieldsOK, eS], text_empty hV, by simp, by simp, by simp⟩
  · split
    · rw [valid_mk]
      exact ⟨he, by decide, by decide, by simp [Nd.fieldsOK, eS], text_empty hV, by simp, by simp, by simp⟩
    · split
      · rw [valid_mk]
        have := kText_ok hV (d.next 6).2
        exact ⟨he, by decide, by decide, by simp [Nd.fieldsOK], by simp [textB, this.1]; omega, by simp, by simp, by simp⟩
      · split
        · rename_i hk
          split
          · rw [valid_mk]
            refine ⟨he, by omega, by omega, ?_, text_empty hV, by simp, fun _ => by simp [namesOk], by simp⟩
            rcases hk with h | h <;> simp [Nd.fieldsOK, eS, h]
          · rename_i f
            exact kSeq_ok hV _ hk f e (hf f rfl).1 (hf f rfl).2 _
        · exact zero_valid hV e he
theorem kNode_ok {V : ByteArray → Bool} (hV : VOk V) : ∀ (n : Nat) (d : Dc) (e : Int), 1 ≤ e → (n : Int) ≤ e → (kNode n d).1.validB V e = true
  | 0, d, e, h1, h2 => kTree_ok hV none e h1 (by simp) d
  | 1, d, e, h1, h2 => kTree_ok hV none e h1 (by simp) d
  | n + 2, d, e, h1, h2 => kTree_ok hV _ e h1 (by
      rintro f h
      cases h
      exact ⟨by omega, fun d => kNode_ok hV (n + 1) d (e - 1) (by omega) (by omega)⟩) d
end Go.AL
/- What putting into a map keeps, and when two nodes are the same, as plain data; no program in sight. -/
set_option linter.unusedVariables false
set_option linter.unusedSimpArgs false
namespace Go.AL
open Go Go.RowKit

mutual
def Nd.same : Nd → Nd → Bool
  | .mk k b n t ns is, .mk k' b' n' t' ns' is' => decide (k = k') && decide (b = b') && decide (n = n') && decide (t = t') && decide (ns = ns') && Nd.sames is is'
def Nd.sames : List Nd → List Nd → Bool
  | [], [] => true
  | x :: xs, y :: ys => x.same y && Nd.sames xs ys
  | [], _ :: _ => false
  | _ :: _, [] => false
end
mutual
theorem Nd.same_iff : ∀ x y : Nd, x.same y = true ↔ x = y
  | .mk k b n t ns is, .mk k' b' n' t' ns' is' => by
    simp only [Nd.same, Bool.and_eq_true, decide_eq_true_eq, Nd.sames_iff is is', Nd.mk.injEq]
    constructor
    · rintro ⟨⟨⟨⟨⟨h1, h2⟩, h3⟩, h4⟩, h5⟩, h6⟩; exact ⟨h1, h2, h3, h4, h5, h6⟩
    · rintro ⟨h1, h2, h3, h4, h5, h6⟩; exact ⟨⟨⟨⟨⟨h1, h2⟩, h3⟩, h4⟩, h5⟩, h6⟩
theorem Nd.sames_iff : ∀ x y : List Nd, Nd.sames x y = true ↔ x = y
  | [], [] => by simp [Nd.sames]
  | x :: xs, y :: ys => by simp only [Nd.sames, Bool.and_eq_true, Nd.same_iff x y, Nd.sames_iff xs ys, List.cons.injEq]
  | [], _ :: _ => by simp [Nd.sames]
  | _ :: _, [] => by simp [Nd.sames]
end
theorem Nd.same_refl (x : Nd) : x.same x = true := (Nd.same_iff x x).2 rfl

/-- A map whose names are all different, and as many as its items. -/
structure Nd.IsMap (m : Nd) : Prop where
  kind : m.kind = 5
  len : m.names.length = m.items.length
  nodup : m.names.Nodup
theorem Nd.IsMap.place_eq {m : Nd} (h : m.IsMap) (s : ByteArray) : m.place s = idxB s m.names 0 := by
  unfold Nd.place
  rw [if_pos h.kind, ← h.len, Nat.min_self, List.take_length]
theorem Nd.IsMap.place_at {m : Nd} (h : m.IsMap) {i : Nat} {s : ByteArray} (hi : m.names[i]? = some s) : m.place s = i := by
  rw [h.place_eq, idxB_at s _ 0 i h.nodup hi]; omega
theorem Nd.IsMap.set {m : Nd} (h : m.IsMap) (s : ByteArray) (v : Nd) : (m.set s v).IsMap := by
  unfold Nd.set
  split
  · exact ⟨h.kind, by simpa [Nd.names, Nd.items] using h.len, h.nodup⟩
  · rename_i hp
    refine ⟨h.kind, by simp only [Nd.names, Nd.items, List.length_append, List.length_singleton]; have := h.len; simp only [Nd.names, Nd.items] at this; cases m; simpa using this, ?_⟩
    show (m.names ++ [s]).Nodup
    rw [List.nodup_append]
    refine ⟨h.nodup, by simp, fun a ha b hb => ?_⟩
    simp only [List.mem_singleton] at hb
    subst hb
    rintro rfl
    obtain ⟨i, hi⟩ := List.getElem?_of_mem ha
    have := h.place_at hi
    omega
end Go.AL
/- The second serialisation as plain data: how a node is written and read, and that it comes back; no program in sight. -/
set_option linter.unusedVariables false
namespace Go.AL
open Go Go.RowKit

def ofL (l : List UInt8) : ByteArray := ⟨l.toArray⟩
theorem ofL_toList (l : List UInt8) : (ofL l).data.toList = l := by simp [ofL]
theorem ofL_size (l : List UInt8) : (ofL l).size = l.length := by simp [ofL, ByteArray.size]
theorem ofL_of (s : ByteArray) : ofL s.data.toList = s := by cases s; simp [ofL]
theorem ofL_extract (l : List UInt8) (a b : Nat) : (ofL l).extract a b = ofL ((l.drop a).take (b - a)) := by
  have h : ((ofL l).extract a b).data.toList = (ofL ((l.drop a).take (b - a))).data.toList := by
    rw [ofL_toList]; simp [ofL, ByteArray.data_extract]
  have := congrArg ofL h
  rwa [ofL_of, ofL_of] at this
def bigL : Nat → Nat → List UInt8
  | 0, _ => []
  | k + 1, n => UInt8.ofNat (n / 256 ^ k) :: bigL k n
theorem bigL_len : ∀ k n, (bigL k n).length = k
  | 0, n => rfl
  | k + 1, n => by simp [bigL, bigL_len k n]
def hdL (m n : Nat) : List UInt8 :=
  if n < 24 then [UInt8.ofNat (32 * m + n)] else if n < 256 then UInt8.ofNat (32 * m + 24) :: bigL 1 n
  else if n < 65536 then UInt8.ofNat (32 * m + 25) :: bigL 2 n else if n < 4294967296 then UInt8.ofNat (32 * m + 26) :: bigL 4 n
  else UInt8.ofNat (32 * m + 27) :: bigL 8 n
mutual
def Nd.cb : Nd → List UInt8
  | .mk k b n t ns is =>
    if k = 0 then hdL 7 22 else if k = 1 then hdL 7 (if b then 21 else 20) else if k = 2 then (if n < 0 then hdL 1 (-1 - n).toNat else hdL 0 n.toNat)
    else if k = 3 then hdL 3 t.size ++ t.data.toList else if k = 4 then hdL 4 is.length ++ Nd.cbs is else hdL 5 is.length ++ Nd.cbm ns is
def Nd.cbs : List Nd → List UInt8
  | [] => []
  | x :: xs => x.cb ++ Nd.cbs xs
def Nd.cbm : List ByteArray → List Nd → List UInt8
  | s :: ns, x :: xs => hdL 3 s.size ++ s.data.toList ++ x.cb ++ Nd.cbm ns xs
  | _, _ => []
end

/-! ### the reader -/
structure Rs where
  s : ByteArray
  bad : Bool
def Rs.take (r : Rs) (n : Int) : ByteArray × Rs :=
  if r.bad = true ∨ n < 0 ∨ (r.s.size : Int) < n then (eS, ⟨r.s, true⟩) else (r.s.extract 0 n.toNat, ⟨r.s.extract n.toNat r.s.size, false⟩)
def Rs.byte (r : Rs) : Int × Rs := (if (r.take 1).1 = eS then 0 else bAt (r.take 1).1 0, (r.take 1).2)
def u64Step (n : Int) (b : UInt8) : Int := n * 256 % 18446744073709551616 + b.toNat
def Rs.uint (r : Rs) (k : Int) : Int × Rs := ((r.take k).1.data.toList.foldl u64Step 0, (r.take k).2)
def Rs.fits (r : Rs) (n : Int) : Int × Rs := if (r.s.size : Int) < n then (0, ⟨r.s, true⟩) else (n, r)
def cHead (r : Rs) : (Int × Int) × Rs :=
  if r.byte.1 % 32 < 24 then ((r.byte.1 / 32, r.byte.1 % 32), r.byte.2)
  else if 27 < r.byte.1 % 32 then ((r.byte.1 / 32, 0), ⟨r.byte.2.s, true⟩)
  else ((r.byte.1 / 32, (r.byte.2.uint (2 ^ (r.byte.1 % 32 - 24).toNat)).1), (r.byte.2.uint (2 ^ (r.byte.1 % 32 - 24).toNat)).2)
def cText (r : Rs) (n : Int) : ByteArray × Rs := (r.fits n).2.take (r.fits n).1
def cName (r : Rs) : ByteArray × Rs := cText (if (cHead r).1.1 = 3 then (cHead r).2 else ⟨(cHead r).2.s, true⟩) (cHead r).1.2
def cItems (f : Rs → Nd × Rs) (k : Int) : Nat → List ByteArray → List Nd → Rs → Nd × Rs
  | 0, ns, is, r => (.mk k false 0 eS ns is, r)
  | c + 1, ns, is, r => if r.bad = true then (.mk k false 0 eS ns is, r)
    else if k = 5 then cItems f k c (ns ++ [(cName r).1]) (is ++ [(f (cName r).2).1]) (f (cName r).2).2
    else cItems f k c ns (is ++ [(f r).1]) (f r).2
def i64 (n : Int) : Int := IntKind.i64.wrap n
def cNode : Nat → Rs → Nd × Rs
  | 0, r => (Nd.zero, ⟨(cHead r).2.s, true⟩)
  | d + 1, r =>
    let m := (cHead r).1.1
    let n := (cHead r).1.2
    let q := (cHead r).2
    if m = 0 then (.mk 2 false (i64 n) eS [] [], q)
    else if m = 1 then (.mk 2 false (-1 - i64 n) eS [] [], q)
    else if m = 3 then (.mk 3 false 0 (cText q n).1 [] [], (cText q n).2)
    else if m = 4 then cItems (cNode d) 4 (q.fits n).1.toNat [] [] (q.fits n).2
    else if m = 5 then cItems (cNode d) 5 (q.fits n).1.toNat [] [] (q.fits n).2
    else if m = 7 ∧ (n = 21 ∨ n = 20) then (.mk 1 (decide (n = 21)) 0 eS [] [], q)
    else (Nd.zero, q)

/-! ### what was written comes back -/
theorem take_ofL (a b : List UInt8) : (Rs.mk (ofL (a ++ b)) false).take a.length = (ofL a, ⟨ofL b, false⟩) := by
  unfold Rs.take
  rw [if_neg (by rw [ofL_size]; simp; omega)]
  simp [ofL_extract, ofL_size]
theorem byte_ofL (a : UInt8) (b : List UInt8) : (Rs.mk (ofL (a :: b)) false).byte = ((a.toNat : Int), ⟨ofL b, false⟩) := by
  have h := take_ofL [a] b
  simp only [List.length_singleton, List.singleton_append] at h
  unfold Rs.byte
  rw [show ((1 : Nat) : Int) = 1 from rfl] at h
  rw [h]
  simp only
  rw [if_neg (by intro e; have := congrArg ByteArray.size e; rw [ofL_size] at this; have h2 : (1 : Nat) = 0 := this; omega)]
  simp [bAt, ofL]
theorem big_fold : ∀ (k n : Nat) (acc : Nat), acc * 256 ^ k + n % 256 ^ k < 18446744073709551616 → (bigL k n).foldl u64Step acc = ((acc * 256 ^ k + n % 256 ^ k : Nat) : Int)
  | 0, n, acc, h => by simp [bigL, Nat.mod_one]
  | k + 1, n, acc, h => by
    have hp : 0 < 256 ^ k := Nat.pos_of_ne_zero (by simp)
    have e1 : n % 256 ^ (k + 1) = (n / 256 ^ k % 256) * 256 ^ k + n % 256 ^ k := by
      rw [Nat.pow_succ, Nat.mod_mul]; rw [Nat.mul_comm]; omega
    have e2 : acc * 256 ^ (k + 1) = (acc * 256) * 256 ^ k := by rw [Nat.pow_succ, Nat.mul_comm (256 ^ k) 256, Nat.mul_assoc]
    have e3 : (acc * 256) * 256 ^ k + (n / 256 ^ k % 256) * 256 ^ k = (acc * 256 + n / 256 ^ k % 256) * 256 ^ k := by rw [Nat.add_mul]
    have hb : acc * 256 + n / 256 ^ k % 256 < 18446744073709551616 := by
      rw [e1, e2] at h
      have := Nat.le_mul_of_pos_right (acc * 256 + n / 256 ^ k % 256) hp
      omega
    have hs : u64Step (acc : Int) (UInt8.ofNat (n / 256 ^ k)) = ((acc * 256 + n / 256 ^ k % 256 : Nat) : Int) := by
      unfold u64Step
      rw [UInt8.toNat_ofNat']
      omega
    simp only [bigL, List.foldl_cons]
    have e4 : (acc * 256 + n / 256 ^ k % 256) * 256 ^ k + n % 256 ^ k = acc * 256 ^ (k + 1) + n % 256 ^ (k + 1) := by rw [e1, e2, ← e3]; omega
    rw [hs, big_fold k n _ (by rw [e4]; exact h), e4]
/-- Its numbers are of 64 bits. -/
inductive Nd.In : Nd → Prop
  | mk {k : Int} {b : Bool} {n : Int} {t : ByteArray} {ns : List ByteArray} {is : List Nd} : -9223372036854775808 ≤ n → n ≤ 9223372036854775807 → (∀ x ∈ is, x.In) → Nd.In (.mk k b n t ns is)

theorem hdL_pos (m n : Nat) : 1 ≤ (hdL m n).length := by
  unfold hdL; repeat' split
  all_goals simp
end Go.AL
/- That dice keep their numbers, as plain data; no program in sight. -/
set_option linter.unusedVariables false
namespace Go.AL
open Go Go.RowKit
theorem Dc.word_l (d : Dc) (l : List ByteArray) : (d.word l).2.l = d.l := d.next_l _
theorem kPad_l : ∀ (f : Nat) (s : ByteArray) (d : Dc), (kPad f s d).2.l = d.l
  | 0, s, d => d.next_l _
  | f + 1, s, d => by
    simp only [kPad]; split
    · rw [kPad_l f, Dc.next_l]
    · exact d.next_l _
theorem kText_l (d : Dc) : (kText d).2.l = d.l := by
  unfold kText; split
  · rw [kPad_l, Dc.next_l, Dc.word_l]
  · simp only; rw [Dc.next_l, Dc.word_l]
theorem kFill_l : ∀ (f : Nat) (l : List Nd) (d : Dc), (kFill f l d).2.l = d.l
  | 0, s, d => d.next_l _
  | f + 1, s, d => by
    simp only [kFill]; split
    · rw [kFill_l f, Dc.next_l]
    · exact d.next_l _
theorem kNames_l : ∀ (c i : Nat) (d : Dc), (kNames c i d).2.l = d.l
  | 0, i, d => rfl
  | c + 1, i, d => by simp only [kNames]; rw [kNames_l c, Dc.word_l]
theorem kItems_l (f : Dc → Nd × Dc) (h : ∀ d, (f d).2.l = d.l) : ∀ (c : Nat) (d : Dc), (kItems f c d).2.l = d.l
  | 0, d => rfl
  | c + 1, d => by simp only [kItems]; rw [kItems_l f h c, h]
theorem kSeq_l (k : Int) (f : Dc → Nd × Dc) (h : ∀ d, (f d).2.l = d.l) (d : Dc) : (kSeq k f d).2.l = d.l := by
  unfold kSeq
  simp only
  have e1 := kItems_l f h (d.next 4).1.toNat (d.next 4).2
  rw [Dc.next_l] at e1
  generalize kItems f (d.next 4).1.toNat (d.next 4).2 = is at *
  have e2 : (if (is.2.next 20).1 = 1 then kFill 20 is.1 (is.2.next 20).2 else (is.1, (is.2.next 20).2)).2.l = d.l := by
    split
    · rw [kFill_l, Dc.next_l, e1]
    · simp only; rw [Dc.next_l, e1]
  generalize (if (is.2.next 20).1 = 1 then kFill 20 is.1 (is.2.next 20).2 else (is.1, (is.2.next 20).2)) = g at *
  split
  · rw [kNames_l, e2]
  · exact e2
theorem kTree_l (rec : Option (Dc → Nd × Dc)) (h : ∀ f, rec = some f → ∀ d, (f d).2.l = d.l) (d : Dc) : (kTree rec d).2.l = d.l := by
  unfold kTree
  simp only
  split
  · simp only [Dc.next_l]
  · split
    · simp only [Dc.next_l]
    · split
      · simp only [kText_l, Dc.next_l]
      · split
        · split
          · simp only [Dc.next_l]
          · rename_i f; rw [kSeq_l _ f (h f rfl), Dc.next_l]
        · simp only [Dc.next_l]
theorem kNode_l : ∀ (n : Nat) (d : Dc), (kNode n d).2.l = d.l
  | 0, d => kTree_l none (by simp) d
  | 1, d => kTree_l none (by simp) d
  | n + 2, d => kTree_l _ (by rintro f h; cases h; exact kNode_l (n + 1)) d
end Go.AL
/- That valid nodes are small, as plain data; no program in sight. -/
set_option linter.unusedVariables false
namespace Go.AL
open Go Go.RowKit
theorem Nd.ok_of_valid {V : ByteArray → Bool} : ∀ (x : Nd) (e : Int), x.validB V e = true → x.Ok
  | .mk k b n t ns is, e, h => by
    rw [valid_mk] at h
    obtain ⟨_, _, _, h4, _, h6, h7, h8⟩ := h
    refine .mk ?_ (by omega) fun x hx => Nd.ok_of_valid x (e - 1) (h8 x hx)
    by_cases hk : k = 5
    · have := (h7 hk).2; omega
    · have : ns.length = 0 := by
        simp only [Nd.fieldsOK, Bool.and_eq_true, Bool.or_eq_true, decide_eq_true_eq] at h4
        have := h4.2
        omega
      omega
termination_by x => SizeOf.sizeOf x
decreasing_by
  have := List.sizeOf_lt_of_mem hx
  simp only [Nd.mk.sizeOf_spec]
  omega
end Go.AL
/- That the bytes of a valid node are read as that node, as plain data; no program in sight. -/
set_option linter.unusedVariables false
namespace Go.AL
open Go Go.RowKit

theorem i64_id {n : Int} (h0 : -9223372036854775808 ≤ n) (h1 : n ≤ 9223372036854775807) : i64 n = n := wrap64 h0 h1
end Go.AL
/- How many bytes the kit's nodes take, as plain data; no program in sight. -/
set_option linter.unusedVariables false
namespace Go.AL
open Go Go.RowKit

theorem hdL_len {m n : Nat} : (hdL m n).length ≤ 9 := by
  unfold hdL; repeat' split
  all_goals simp [bigL_len]
theorem hdL_len3 {m n : Nat} (h : n < 65536) : (hdL m n).length ≤ 3 := by
  unfold hdL; repeat' split
  all_goals first | (simp [bigL_len]; done) | omega
theorem hdL_len1 {m n : Nat} (h : n < 24) : (hdL m n).length = 1 := by
  unfold hdL; rw [if_pos h]; rfl
theorem toList_len (s : ByteArray) : s.data.toList.length = s.size := by rw [Array.length_toList]; rfl
theorem zero_cb : Nd.zero.cb.length = 1 := by simp [Nd.zero, Nd.cb, hdL]
theorem cbs_le {B : Nat} : ∀ {l : List Nd}, (∀ x ∈ l, x.cb.length ≤ B) → (Nd.cbs l).length ≤ l.length * B
  | [], _ => by simp [Nd.cbs]
  | x :: l, h => by
    have h1 := h x (by simp)
    have h2 := cbs_le (l := l) (fun y hy => h y (by simp [hy]))
    simp only [Nd.cbs, List.length_append, List.length_cons, Nat.add_mul]; omega
theorem cbm_le {C : Nat} : ∀ {ns : List ByteArray} {l : List Nd}, (∀ s ∈ ns, s.size ≤ C) → C < 65536 → (Nd.cbm ns l).length ≤ (Nd.cbs l).length + l.length * (C + 3)
  | [], l, _, _ => by cases l <;> simp [Nd.cbm]
  | s :: ns, [], _, _ => by simp [Nd.cbm, Nd.cbs]
  | s :: ns, x :: l, h, hC => by
    have h1 := h s (by simp)
    have h2 := cbm_le (ns := ns) (l := l) (fun y hy => h y (by simp [hy])) hC
    have h3 := hdL_len3 (m := 3) (n := s.size) (by omega)
    simp only [Nd.cbm, Nd.cbs, List.length_append, List.length_cons, toList_len, Nat.add_mul]; omega
theorem kFill_shape : ∀ (f : Nat) (l : List Nd) (d : Dc), l.length ≤ 17 → ∃ m, (kFill f l d).1 = l ++ List.replicate m Nd.zero ∧ l.length + m ≤ 17
  | 0, l, d, h => ⟨0, by simp [kFill], by omega⟩
  | f + 1, l, d, h => by
    have := d.next_lt 3 (by omega)
    simp only [kFill]; split
    · obtain ⟨m, h1, h2⟩ := kFill_shape f (l ++ [Nd.zero]) (d.next 3).2 (by simp; omega)
      refine ⟨m + 1, ?_, by simp at h2; omega⟩
      rw [h1, List.append_assoc]; rfl
    · exact ⟨0, by simp, by omega⟩
theorem cbs_zeros : ∀ m, (Nd.cbs (List.replicate m Nd.zero)).length = m
  | 0 => rfl
  | m + 1 => by simp only [List.replicate_succ, Nd.cbs, List.length_append, zero_cb, cbs_zeros m]; omega
theorem cbs_app : ∀ (a b : List Nd), Nd.cbs (a ++ b) = Nd.cbs a ++ Nd.cbs b
  | [], b => rfl
  | x :: a, b => by simp [Nd.cbs, cbs_app a b]
theorem zero_in : Nd.zero.In := .mk (by decide) (by decide) (by simp)
theorem kNames_size (c i : Nat) (d : Dc) : ∀ s ∈ (kNames c i d).1, s.size ≤ 3 := by
  intro s hs
  obtain ⟨w, hw, j, _, _, rfl⟩ := kNames_mem c i d s hs
  have := (kWords_asc w hw).2
  rw [ByteArray.size_append]
  have : (kTwo j).size = 2 := rfl
  omega
theorem kSeq_cb (k : Int) (hk : k = 4 ∨ k = 5) (f : Dc → Nd × Dc) (B : Nat) (hB : 1 ≤ B) (hf : ∀ d, (f d).1.cb.length ≤ B ∧ (f d).1.In) (d : Dc) : (kSeq k f d).1.cb.length ≤ 3 * B + 150 ∧ (kSeq k f d).1.In := by
  have hq := d.next_lt 4 (by omega)
  have hl := kItems_len f (d.next 4).1.toNat (d.next 4).2
  have ha := kItems_all f (fun x => x.cb.length ≤ B ∧ x.In) hf (d.next 4).1.toNat (d.next 4).2
  unfold kSeq
  simp only
  generalize kItems f (d.next 4).1.toNat (d.next 4).2 = is at hl ha ⊢
  have hg : ∃ g : List Nd × Dc, (if (is.2.next 20).1 = 1 then kFill 20 is.1 (is.2.next 20).2 else (is.1, (is.2.next 20).2)) = g ∧ g.1.length ≤ 17 ∧ (Nd.cbs g.1).length ≤ 3 * B + 17 ∧ ∀ x ∈ g.1, x.In := by
    have hb := cbs_le (B := B) (l := is.1) (fun x hx => (ha x hx).1)
    have hb3 : is.1.length * B ≤ 3 * B := Nat.mul_le_mul_right _ (by omega)
    refine ⟨_, rfl, ?_⟩
    split
    · obtain ⟨m, h1, h2⟩ := kFill_shape 20 is.1 (is.2.next 20).2 (by omega)
      rw [h1]
      refine ⟨by simp; omega, ?_, fun x hx => ?_⟩
      · rw [cbs_app, List.length_append, cbs_zeros]; omega
      · rcases List.mem_append.1 hx with h | h
        · exact (ha x h).2
        · rw [List.eq_of_mem_replicate h]; exact zero_in
    · exact ⟨by simp only; omega, by simp only; omega, fun x hx => (ha x hx).2⟩
  obtain ⟨g, e1, e2, e3, e4⟩ := hg
  rw [e1]
  refine ⟨?_, .mk (by decide) (by decide) e4⟩
  have h1 := hdL_len1 (m := 4) (n := g.1.length) (by omega)
  have h2 := hdL_len1 (m := 5) (n := g.1.length) (by omega)
  rcases hk with rfl | rfl
  · rw [show (Nd.mk 4 false 0 eS (if (4 : Int) = 5 then kNames g.1.length 0 g.2 else ([], g.2)).1 g.1).cb = hdL 4 g.1.length ++ Nd.cbs g.1 by simp [Nd.cb]]
    rw [List.length_append, h1]; omega
  · have h3 := cbm_le (C := 3) (ns := (kNames g.1.length 0 g.2).1) (l := g.1) (kNames_size _ _ _) (by omega)
    rw [show (Nd.mk 5 false 0 eS (if (5 : Int) = 5 then kNames g.1.length 0 g.2 else ([], g.2)).1 g.1).cb = hdL 5 g.1.length ++ Nd.cbm (kNames g.1.length 0 g.2).1 g.1 by simp [Nd.cb]]
    rw [List.length_append, h2]; omega
theorem kText_size (d : Dc) : (kText d).1.size ≤ 256 := (kText_ok (V := fun _ => true) ⟨fun _ _ => rfl, fun _ _ => rfl, rfl⟩ d).2
theorem kNums_in (j : Nat) : 0 ≤ kNums.getD j 0 ∧ kNums.getD j 0 ≤ 9223372036854775807 := by
  match j with
  | 0 | 1 | 2 | 3 | 4 | 5 | 6 | 7 | 8 | 9 | 10 | 11 => simp [kNums]
  | j + 12 => simp [kNums]
theorem num_cb (n : Int) : (Nd.mk 2 false n eS [] []).cb.length ≤ 9 := by
  by_cases h : n < 0
  · rw [show (Nd.mk 2 false n eS [] []).cb = hdL 1 (-1 - n).toNat by simp [Nd.cb, h]]; exact hdL_len
  · rw [show (Nd.mk 2 false n eS [] []).cb = hdL 0 n.toNat by simp [Nd.cb, h]]; exact hdL_len
theorem kTree_cb (rec : Option (Dc → Nd × Dc)) (B : Nat) (hB : 1 ≤ B) (hf : ∀ f, rec = some f → ∀ d, (f d).1.cb.length ≤ B ∧ (f d).1.In) (d : Dc) : (kTree rec d).1.cb.length ≤ 3 * B + 300 ∧ (kTree rec d).1.In := by
  unfold kTree
  simp only
  split
  · refine ⟨?_, .mk (by decide) (by decide) (by simp)⟩
    simp only [Nd.cb]
    have h1 := hdL_len (m := 7) (n := if (decide (((d.next 6).2.next 2).1 = 1)) = true then 21 else 20)
    simp only [show ((1 : Int) = 0) = False from by simp, if_false, if_true]
    omega
  · split
    · have h := kNums_in ((d.next 6).2.next 12).1.toNat
      refine ⟨?_, .mk ?_ ?_ (by simp)⟩
      · have := num_cb (if (((d.next 6).2.next 12).2.next 2).1 = 1 then -1 - kNums.getD ((d.next 6).2.next 12).1.toNat 0 else kNums.getD ((d.next 6).2.next 12).1.toNat 0)
        exact Nat.le_trans this (by omega)
      · split <;> omega
      · split <;> omega
    · split
      · have h := kText_size (d.next 6).2
        refine ⟨?_, .mk (by decide) (by decide) (by simp)⟩
        rw [show (Nd.mk 3 false 0 (kText (d.next 6).2).1 [] []).cb = hdL 3 (kText (d.next 6).2).1.size ++ (kText (d.next 6).2).1.data.toList by simp [Nd.cb]]
        rw [List.length_append, toList_len]
        have := hdL_len (m := 3) (n := (kText (d.next 6).2).1.size)
        omega
      · split
        · rename_i hk
          split
          · refine ⟨?_, .mk (by decide) (by decide) (by simp)⟩
            have h1 := hdL_len (m := 4) (n := 0)
            have h2 := hdL_len (m := 5) (n := 0)
            rcases hk with h | h <;> rw [h] <;> simp [Nd.cb, Nd.cbs, Nd.cbm] <;> omega
          · rename_i f
            have := kSeq_cb _ hk f B hB (hf f rfl) (d.next 6).2
            exact ⟨by omega, this.2⟩
        · exact ⟨by rw [zero_cb]; omega, zero_in⟩
def kB : Nat → Nat
  | 0 => 303
  | 1 => 303
  | n + 2 => 3 * kB (n + 1) + 300
theorem kB_pos : ∀ n, 1 ≤ kB n
  | 0 => by decide
  | 1 => by decide
  | n + 2 => by simp only [kB]; omega
theorem kNode_cb : ∀ (n : Nat) (d : Dc), (kNode n d).1.cb.length ≤ kB n ∧ (kNode n d).1.In
  | 0, d => kTree_cb none 1 (by omega) (by simp) d
  | 1, d => kTree_cb none 1 (by omega) (by simp) d
  | n + 2, d => kTree_cb _ (kB (n + 1)) (kB_pos _) (by
      rintro f h
      cases h
      exact fun d => kNode_cb (n + 1) d) d
end Go.AL
/- What the reader of the second serialisation takes, as plain data; no program in sight. -/
set_option linter.unusedVariables false
namespace Go.AL
open Go Go.RowKit

theorem take_good {r : Rs} {n : Int} (h : (r.take n).2.bad = false) : r.bad = false ∧ 0 ≤ n ∧ n ≤ r.s.size ∧ (r.take n).1.size = n.toNat ∧ (r.take n).2.s.size + n.toNat = r.s.size := by
  unfold Rs.take at h ⊢
  split at h
  · simp at h
  · rename_i hn
    rw [if_neg hn]
    simp only [not_or, Bool.not_eq_true, Int.not_lt] at hn
    refine ⟨hn.1, hn.2.1, hn.2.2, ?_, ?_⟩
    · simp only [ByteArray.size_extract]; omega
    · simp only [ByteArray.size_extract]; omega
theorem byte_good {r : Rs} (h : r.byte.2.bad = false) : r.bad = false ∧ r.byte.2.s.size + 1 = r.s.size := by
  have := take_good (r := r) (n := 1) h
  exact ⟨this.1, this.2.2.2.2⟩
theorem bAt_range (s : ByteArray) (i : Int) : 0 ≤ bAt s i ∧ bAt s i < 256 := by
  unfold bAt
  have := (s.data.toList.getD i.toNat 0).toNat_lt
  omega
theorem byte_range (r : Rs) : 0 ≤ r.byte.1 ∧ r.byte.1 < 256 := by
  unfold Rs.byte
  simp only
  split
  · omega
  · exact bAt_range _ _
theorem fold_range : ∀ (l : List UInt8) (k : Nat) (acc : Int), 0 ≤ acc → acc < (256 : Int) ^ k → k + l.length ≤ 8 → 0 ≤ l.foldl u64Step acc ∧ l.foldl u64Step acc < (256 : Int) ^ (k + l.length)
  | [], k, acc, h0, h1, _ => by simpa using ⟨h0, h1⟩
  | b :: l, k, acc, h0, h1, hk => by
    have hb := b.toNat_lt
    have hp : (256 : Int) ^ (k + 1) = 256 ^ k * 256 := by rw [Int.pow_succ]
    have h8 : (256 : Int) ^ (k + 1) ≤ 18446744073709551616 := by
      have hk1 : k + 1 ≤ 8 := by simp at hk; omega
      have h1 : (256 : Nat) ^ (k + 1) ≤ 256 ^ 8 := Nat.pow_le_pow_right (by decide) hk1
      have h2 : (256 : Nat) ^ 8 = 18446744073709551616 := by decide +kernel
      have h3 : (256 : Int) ^ (k + 1) = ((256 ^ (k + 1) : Nat) : Int) := by simp
      rw [h3]; omega
    have hs : u64Step acc b = acc * 256 + b.toNat := by
      unfold u64Step
      rw [Int.emod_eq_of_lt (by omega) (by omega)]
    have := fold_range l (k + 1) (u64Step acc b) (by rw [hs]; omega) (by rw [hs, hp]; omega) (by simp at hk; omega)
    rw [List.foldl_cons, List.length_cons, show k + (l.length + 1) = k + 1 + l.length by omega]
    exact this
theorem uint_good {r : Rs} {i : Nat} (hi : i ≤ 3) (h : (r.uint (2 ^ i)).2.bad = false) : r.bad = false ∧ (r.uint (2 ^ i)).2.s.size + 2 ^ i = r.s.size ∧ 0 ≤ (r.uint (2 ^ i)).1 ∧ (r.uint (2 ^ i)).1 < (256 : Int) ^ (2 ^ i) := by
  have e : ((2 : Int) ^ i).toNat = 2 ^ i := by
    match i, hi with
    | 0, _ | 1, _ | 2, _ | 3, _ => decide
  obtain ⟨h1, h2, h3, h4, h5⟩ := take_good (r := r) (n := 2 ^ i) h
  rw [e] at h4 h5
  have h8 : 2 ^ i ≤ 8 := by
    match i, hi with
    | 0, _ | 1, _ | 2, _ | 3, _ => decide
  have := fold_range (r.take (2 ^ i)).1.data.toList 0 0 (by omega) (by decide) (by rw [toList_len, h4]; omega)
  rw [toList_len, h4, Nat.zero_add] at this
  exact ⟨h1, h5, this.1, this.2⟩
theorem fits_good {r : Rs} {n : Int} (h : (r.fits n).2.bad = false) : (r.fits n).2 = r ∧ (r.fits n).1 = n ∧ n ≤ r.s.size ∧ r.bad = false := by
  unfold Rs.fits at h ⊢
  split at h
  · simp at h
  · rename_i hc
    rw [if_neg hc]
    exact ⟨rfl, rfl, by omega, h⟩
theorem i64_range (n : Int) : -9223372036854775808 ≤ i64 n ∧ i64 n ≤ 9223372036854775807 := by
  unfold i64
  simp only [IntKind.wrap, IntKind.signed, IntKind.bits]
  simp
  split <;> omega
end Go.AL
/- The second serialisation's reading and writing as plain functions of bytes; no program in sight. -/
set_option linter.unusedVariables false
namespace Go.AL
open Go Go.RowKit

def cEnc (V : ByteArray → Bool) (x : Nd) : ByteArray × Int := if x.validB V 8 = true then (if 65536 < x.cb.length then (eS, 3) else (ofL x.cb, 0)) else (eS, 1)
def cRead (s : ByteArray) : Nd × Rs := cNode 8 ⟨s, false⟩
def cGood (V : ByteArray → Bool) (s : ByteArray) : Prop := (cRead s).2.bad = false ∧ (cRead s).2.s = eS ∧ (cRead s).1.validB V 8 = true ∧ cEnc V (cRead s).1 = (s, 0)
instance (V : ByteArray → Bool) (s : ByteArray) : Decidable (cGood V s) := by unfold cGood; exact inferInstance
def cDec (V : ByteArray → Bool) (s : ByteArray) : Nd × Int := if cGood V s then ((cRead s).1, 0) else (Nd.zero, 4)

end Go.AL
