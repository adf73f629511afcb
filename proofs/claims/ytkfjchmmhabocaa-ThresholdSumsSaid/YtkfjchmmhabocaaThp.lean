/- Weights and their sums, without the program. -/
import Derived.Test.YtkfjchmmhabocaaPur
import Derived.Test.YtkfjchmmhabocaaAl4
set_option linter.unusedVariables false
namespace Go.AL
open Go

/-- A fraction. -/
structure Fr where
  n : Int
  d : Int
  deriving Inhabited, DecidableEq
def Fr.toT (f : Fr) : T := .agg [.int .i64 f.n, .int .i64 f.d]
def gcdI (a b : Int) : Int := (Nat.gcd a.toNat b.toNat : Int)
def Fr.wt (f : Fr) : Bool := decide (1 ≤ f.d ∧ f.d ≤ 100 ∧ 0 ≤ f.n ∧ f.n ≤ f.d) && decide (gcdI f.n f.d = 1)
def addF (a b : Fr) : Fr := ⟨(a.n * b.d + b.n * a.d) / gcdI (a.n * b.d + b.n * a.d) (a.d * b.d), (a.d * b.d) / gcdI (a.n * b.d + b.n * a.d) (a.d * b.d)⟩
def totF (l : List Fr) : Fr := l.foldl addF ⟨0, 1⟩
def wholeF (l : List Fr) : Bool := decide ((totF l).d ≤ (totF l).n)

theorem gcdI_facts {a b : Int} (ha : 0 ≤ a) (hb : 1 ≤ b) : 1 ≤ gcdI a b ∧ gcdI a b ≤ b ∧ gcdI a b ∣ a ∧ gcdI a b ∣ b := by
  obtain ⟨x, rfl⟩ : ∃ x : Nat, a = (x : Int) := ⟨a.toNat, by omega⟩
  obtain ⟨y, rfl⟩ : ∃ y : Nat, b = (y : Int) := ⟨b.toNat, by omega⟩
  unfold gcdI
  simp only [Int.toNat_natCast]
  have h1 : 0 < Nat.gcd x y := Nat.gcd_pos_of_pos_right x (by omega)
  have h2 : Nat.gcd x y ≤ y := Nat.le_of_dvd (by omega) (Nat.gcd_dvd_right x y)
  exact ⟨by omega, by omega, Int.natCast_dvd_natCast.2 (Nat.gcd_dvd_left x y), Int.natCast_dvd_natCast.2 (Nat.gcd_dvd_right x y)⟩
/-- A sum of so many weights. -/
def Fr.Bd (s : Fr) (k : Nat) : Prop := 1 ≤ s.d ∧ s.d ≤ ((100 ^ k : Nat) : Int) ∧ 0 ≤ s.n ∧ s.n ≤ (k : Int) * s.d
theorem wt_facts {f : Fr} (h : f.wt = true) : 1 ≤ f.d ∧ f.d ≤ 100 ∧ 0 ≤ f.n ∧ f.n ≤ f.d ∧ gcdI f.n f.d = 1 := by
  unfold Fr.wt at h
  simp only [Bool.and_eq_true, decide_eq_true_eq] at h
  exact ⟨h.1.1, h.1.2.1, h.1.2.2.1, h.1.2.2.2, h.2⟩
theorem add_mid {s f : Fr} {k : Nat} (hs : s.Bd k) (hf : f.wt = true) : 0 ≤ s.n * f.d + f.n * s.d ∧ s.n * f.d + f.n * s.d ≤ ((k : Int) + 1) * (s.d * f.d) ∧ 1 ≤ s.d * f.d ∧ s.d * f.d ≤ ((100 ^ (k + 1) : Nat) : Int) ∧ 0 ≤ s.n * f.d ∧ 0 ≤ f.n * s.d ∧ s.n * f.d ≤ (k : Int) * (s.d * f.d) ∧ f.n * s.d ≤ s.d * f.d := by
  obtain ⟨h1, h2, h3, h4⟩ := hs
  obtain ⟨f1, f2, f3, f4, _⟩ := wt_facts hf
  have a1 : 0 ≤ s.n * f.d := Int.mul_nonneg h3 (by omega)
  have a2 : 0 ≤ f.n * s.d := Int.mul_nonneg f3 (by omega)
  have a3 : s.n * f.d ≤ ((k : Int) * s.d) * f.d := Int.mul_le_mul_of_nonneg_right h4 (by omega)
  have a4 : f.n * s.d ≤ f.d * s.d := Int.mul_le_mul_of_nonneg_right f4 (by omega)
  have a5 : 1 * 1 ≤ s.d * f.d := Int.mul_le_mul h1 f1 (by omega) (by omega)
  have a6 : s.d * f.d ≤ ((100 ^ k : Nat) : Int) * 100 := Int.mul_le_mul h2 f2 (by omega) (by omega)
  have e1 : ((100 ^ (k + 1) : Nat) : Int) = ((100 ^ k : Nat) : Int) * 100 := by rw [Nat.pow_succ]; omega
  have e2 : ((k : Int) + 1) * (s.d * f.d) = (k : Int) * (s.d * f.d) + s.d * f.d := by rw [Int.add_mul]; omega
  have e3 : ((k : Int) * s.d) * f.d = (k : Int) * (s.d * f.d) := Int.mul_assoc ..
  have e4 : f.d * s.d = s.d * f.d := Int.mul_comm ..
  rw [e1, e2]
  rw [e3] at a3
  rw [e4] at a4
  exact ⟨by omega, by omega, by omega, a6, a1, a2, a3, a4⟩
theorem add_bd {s f : Fr} {k : Nat} (hs : s.Bd k) (hf : f.wt = true) : (addF s f).Bd (k + 1) := by
  obtain ⟨m1, m2, m3, m4, _⟩ := add_mid hs hf
  unfold addF Fr.Bd
  simp only
  generalize s.n * f.d + f.n * s.d = n at *
  generalize s.d * f.d = e at *
  obtain ⟨g1, g2, ⟨n', hn⟩, ⟨e', he⟩⟩ := gcdI_facts m1 m3
  generalize gcdI n e = g at *
  subst hn; subst he
  rw [Int.mul_ediv_cancel_left _ (by omega), Int.mul_ediv_cancel_left _ (by omega)]
  have e1 : 1 ≤ e' := by
    rcases Int.lt_or_le e' 1 with h | h
    · have : g * e' ≤ g * 0 := Int.mul_le_mul_of_nonneg_left (by omega) (by omega)
      rw [Int.mul_zero] at this; omega
    · exact h
  have n1 : 0 ≤ n' := by
    rcases Int.lt_or_le n' 0 with h | h
    · have : g * n' ≤ g * (-1) := Int.mul_le_mul_of_nonneg_left (by omega) (by omega)
      omega
    · exact h
  have e2 : e' ≤ g * e' := by
    have : 1 * e' ≤ g * e' := Int.mul_le_mul_of_nonneg_right g1 (by omega)
    omega
  have e3 : n' ≤ ((k : Int) + 1) * e' := by
    rw [← Int.mul_assoc, Int.mul_comm _ g, Int.mul_assoc] at m2
    exact Int.le_of_mul_le_mul_left m2 (by omega)
  exact ⟨e1, by omega, n1, by simpa using e3⟩
theorem tot_take (l : List Fr) (k : Nat) (h : k < l.length) : totF (l.take (k + 1)) = addF (totF (l.take k)) (l.getD k default) := by
  unfold totF
  rw [List.take_add_one, List.foldl_append, List.getD_eq_getElem?_getD, List.getElem?_eq_getElem h]
  rfl
theorem tot_bd (l : List Fr) (hl : ∀ f ∈ l, f.wt = true) : ∀ k, k ≤ l.length → (totF (l.take k)).Bd k
  | 0, _ => ⟨by show (1 : Int) ≤ 1; omega, by show (1 : Int) ≤ 1; omega, by show (0 : Int) ≤ 0; omega, by show (0 : Int) ≤ _; simp⟩
  | k + 1, h => by
    rw [tot_take l k (by omega)]
    refine add_bd (tot_bd l hl k (by omega)) (hl _ ?_)
    rw [List.getD_eq_getElem?_getD, List.getElem?_eq_getElem (by omega)]
    exact List.getElem_mem _
end Go.AL
namespace Go.AL
open Go
/-- The first place of one for which something holds, or -1. -/
def idxI {α : Type} (p : α → Bool) : List α → Nat → Int
  | [], _ => -1
  | x :: l, k => if p x then (k : Int) else idxI p l (k + 1)
theorem idx_any {α : Type} (p : α → Bool) : ∀ (l : List α) (k : Nat), decide (0 ≤ idxI p l k) = l.any p
  | [], k => by simp [idxI]
  | x :: l, k => by
    rw [idxI, List.any_cons]
    cases hp : p x with
    | true => simp
    | false => simp [idx_any p l (k + 1)]
end Go.AL
/- Which thresholds are valid: the plain law. -/
set_option linter.unusedVariables false
namespace Go.AL
open Go

/-- A list of weights, as data. -/
def frs (l : List Fr) : T := .sl 2 (l.map Fr.toT)
/-- A threshold. -/
structure Th where
  n : Int
  w : List (List Fr)
  deriving Inhabited
def Th.toT (t : Th) : T := .agg [.int .i64 t.n, .sl 1 (t.w.map frs)]
def sumE (l : List Fr) : Int := if 8 < l.length then 3 else if l.any (fun f => !f.wt) then 2 else 0
def sumF (l : List Fr) : Fr := if sumE l = 0 then totF l else ⟨0, 0⟩
def oneF (l : List Fr) : Bool := decide (sumE l = 0) && decide ((sumF l).d ≤ (sumF l).n)
theorem sumE_ok {l : List Fr} : sumE l = 0 ↔ l.length ≤ 8 ∧ ∀ f ∈ l, f.wt = true := by
  unfold sumE
  by_cases h : 8 < l.length
  · rw [if_pos h]; exact ⟨fun h => by omega, fun h => by omega⟩
  · rw [if_neg h]
    cases ha : l.any (fun f => !f.wt) with
    | true =>
      simp only [if_true]
      constructor
      · intro h; omega
      · intro ⟨_, h2⟩
        obtain ⟨x, hx, h3⟩ := List.any_eq_true.1 ha
        rw [h2 x hx] at h3; cases h3
    | false =>
      simp only [Bool.false_eq_true, if_false, true_iff]
      refine ⟨by omega, fun f hf => ?_⟩
      have := List.any_eq_false.1 ha f hf
      simpa using this
def keysGo : List (List Fr) → Nat → Int
  | [], n => n
  | l :: r, n => if l.length = 0 ∨ 8 < n + l.length ∨ l.any (fun f => !f.wt) = true then -1 else keysGo r (n + l.length)
def validP (t : Th) (k : Int) : Bool := if t.n ≠ 0 then decide (0 < t.n ∧ t.n ≤ k ∧ k ≤ 8) && decide (t.w.length = 0) else if t.w.length = 0 then decide (k = 0) else decide (0 < k) && decide (keysGo t.w 0 = k) && !(t.w.any fun l => !(wholeF l))
def lensT : List (List Fr) → Nat
  | [] => 0
  | l :: r => l.length + lensT r
def validR (t : Th) (k : Int) : Bool := if k = 0 then decide (t.n = 0) && decide (t.w.length = 0) else if k < 0 ∨ 8 < k then false else if t.w.length = 0 then decide (1 ≤ t.n) && decide (t.n ≤ k) else (t.w.all fun l => decide (l.length ≠ 0) && oneF l) && decide (t.n = 0) && decide ((lensT t.w : Int) = k)
theorem keysGo_ok : ∀ (w : List (List Fr)) (n : Nat), n ≤ 8 → (0 ≤ keysGo w n ↔ (∀ l ∈ w, l.length ≠ 0 ∧ ∀ f ∈ l, f.wt = true) ∧ n + lensT w ≤ 8) ∧ (0 ≤ keysGo w n → keysGo w n = ((n + lensT w : Nat) : Int)) := by
  intro w
  induction w with
  | nil => intro n hn; simp [keysGo, lensT]; omega
  | cons l r ih =>
    intro n hn
    rw [keysGo]
    by_cases hb : l.length = 0 ∨ 8 < n + l.length ∨ l.any (fun f => !f.wt) = true
    · rw [if_pos hb]
      refine ⟨⟨fun h => by omega, fun ⟨h1, h2⟩ => ?_⟩, fun h => by omega⟩
      exfalso
      have hl := h1 l (by simp)
      rcases hb with hb | hb | hb
      · exact hl.1 hb
      · simp only [lensT] at h2; omega
      · obtain ⟨x, hx, h3⟩ := List.any_eq_true.1 hb
        rw [hl.2 x hx] at h3; cases h3
    · rw [if_neg hb]
      have hb1 : l.length ≠ 0 := fun h => hb (.inl h)
      have hb2 : n + l.length ≤ 8 := by
        rcases Nat.lt_or_ge 8 (n + l.length) with h | h
        · exact absurd (.inr (.inl h)) hb
        · exact h
      have hb3 : ∀ f ∈ l, f.wt = true := fun f hf => by
        cases h : f.wt with
        | true => rfl
        | false => exact absurd (.inr (.inr (List.any_eq_true.2 ⟨f, hf, by rw [h]; rfl⟩))) hb
      obtain ⟨i1, i2⟩ := ih (n + l.length) hb2
      refine ⟨⟨fun h => ?_, fun ⟨h1, h2⟩ => ?_⟩, fun h => ?_⟩
      · obtain ⟨j1, j2⟩ := i1.1 h
        refine ⟨fun x hx => ?_, by simp only [lensT]; omega⟩
        rcases List.mem_cons.1 hx with rfl | hx
        · exact ⟨hb1, hb3⟩
        · exact j1 x hx
      · exact i1.2 ⟨fun x hx => h1 x (List.mem_cons_of_mem _ hx), by simp only [lensT] at h2; omega⟩
      · rw [i2 h]; simp only [lensT]; congr 1; omega
theorem len_le {l : List Fr} : ∀ {w : List (List Fr)}, l ∈ w → l.length ≤ lensT w
  | x :: r, h => by
    simp only [lensT]
    rcases List.mem_cons.1 h with rfl | h
    · omega
    · have := len_le h; omega
theorem lens_take : ∀ (w : List (List Fr)) (j : Nat), j < w.length → lensT (w.take (j + 1)) = lensT (w.take j) + (w.getD j default).length
  | [], j, h => by simp at h
  | x :: r, 0, h => by simp [lensT]
  | x :: r, j + 1, h => by
    have := lens_take r j (by simpa using h)
    rw [List.take_succ_cons, List.take_succ_cons, lensT, lensT, this, List.getD_cons_succ]; omega
end Go.AL
/- Which sets of keys are enough: the plain law. -/
set_option linter.unusedVariables false
namespace Go.AL
open Go

def insK (acc : List Int) (k : Int) : List Int := if (0 ≤ k ∧ k < 8) ∧ k ∉ acc then acc ++ [k] else acc
/-- The keys of a set, each once. -/
def ksF (s : List Int) : List Int := s.foldl insK []
def haveF (p : Nat → Bool) : List Fr → Nat → List Fr
  | [], _ => []
  | f :: l, k => if p k then f :: haveF p l (k + 1) else haveF p l (k + 1)
def enoughW (p : Nat → Bool) : List (List Fr) → Nat → Bool
  | [], _ => true
  | l :: r, k => wholeF (haveF p l k) && enoughW p r (k + l.length)
def inK (ks : List Int) (k : Nat) : Bool := decide ((k : Int) ∈ ks)
def enoughP (t : Th) (s : List Int) : Bool := if t.n ≠ 0 then decide (t.n ≤ ((ksF s).length : Int)) else enoughW (inK (ksF s)) t.w 0
def enoughR (t : Th) (s : List Int) : Bool := if t.w.length = 0 then decide (t.n ≤ ((ksF s).length : Int)) else enoughW (inK (ksF s)) t.w 0
theorem ks_take (s : List Int) (j : Nat) (h : j < s.length) : ksF (s.take (j + 1)) = insK (ksF (s.take j)) (s.getD j default) := by
  unfold ksF
  rw [List.take_add_one, List.foldl_append, List.getD_eq_getElem?_getD, List.getElem?_eq_getElem h]
  rfl
theorem ks_range (s : List Int) : ∀ k ∈ ksF s, 0 ≤ k ∧ k < 8 := by
  have key : ∀ (l acc : List Int), (∀ k ∈ acc, 0 ≤ k ∧ k < 8) → ∀ k ∈ l.foldl insK acc, 0 ≤ k ∧ k < 8 := by
    intro l
    induction l with
    | nil => intro acc h; exact h
    | cons x l ih =>
      intro acc h
      refine ih _ fun k hk => ?_
      unfold insK at hk
      split at hk
      · rename_i hx
        rcases List.mem_append.1 hk with h1 | h1
        · exact h k h1
        · simp at h1; subst h1; exact hx.1
      · exact h k hk
  exact key s [] (by simp)
theorem have_take (p : Nat → Bool) : ∀ (l : List Fr) (k j : Nat), j < l.length → haveF p (l.take (j + 1)) k = haveF p (l.take j) k ++ (if p (k + j) then [l.getD j default] else [])
  | [], k, j, h => by simp at h
  | x :: l, k, 0, h => by simp [haveF]
  | x :: l, k, j + 1, h => by
    have := have_take p l (k + 1) j (by simpa using h)
    rw [List.take_succ_cons, List.take_succ_cons, haveF, haveF, this, List.getD_cons_succ, show k + 1 + j = k + (j + 1) by omega]
    split <;> rfl
theorem have_sub (p : Nat → Bool) : ∀ (l : List Fr) (k : Nat), (haveF p l k).length ≤ l.length ∧ ∀ f ∈ haveF p l k, f ∈ l
  | [], k => by simp [haveF]
  | x :: l, k => by
    obtain ⟨h1, h2⟩ := have_sub p l (k + 1)
    rw [haveF]
    split
    · refine ⟨by simp only [List.length_cons]; omega, fun f hf => ?_⟩
      rcases List.mem_cons.1 hf with rfl | hf
      · simp
      · exact List.mem_cons_of_mem _ (h2 f hf)
    · exact ⟨by simp only [List.length_cons]; omega, fun f hf => List.mem_cons_of_mem _ (h2 f hf)⟩
/-- A threshold that a test of sets may be asked about. -/
structure Th.Fit (t : Th) : Prop where
  few : lensT t.w ≤ 8
  lists : t.w.length ≤ 8
  wt : ∀ l ∈ t.w, ∀ f ∈ l, f.wt = true
  one : t.n = 0 ∨ t.w.length = 0
theorem mget_ks (ks : List Int) (k : Int) : (mget (ks.map fun x => (T.int .i64 x, T.bool true)) (.int .i64 k)).getD (.bool false) = .bool (decide (k ∈ ks)) := by
  induction ks with
  | nil => simp [mget]
  | cons x ks ih =>
    by_cases h : k = x
    · subst h; simp [mget, keyEq]
    · by_cases h2 : x = k
      · exact absurd h2.symm h
      · simpa [mget, keyEq, h, h2] using ih
theorem mset_ks (ks : List Int) (k : Int) : mset (ks.map fun x => (T.int .i64 x, T.bool true)) (.int .i64 k) (.bool true) = (if k ∈ ks then ks else ks ++ [k]).map fun x => (T.int .i64 x, T.bool true) := by
  induction ks with
  | nil => simp [mset]
  | cons x ks ih =>
    by_cases h : k = x
    · subst h; simp [mset, keyEq]
    · by_cases h2 : x = k
      · exact absurd h2.symm h
      · simp only [List.map_cons, mset, keyEq, h, h2, decide_false, Bool.false_eq_true, if_false, List.mem_cons, false_or, ih]
        split <;> simp
theorem keysOK_ks (ks : List Int) : keysOK (.int .i64) (ks.map fun x => (T.int .i64 x, T.bool true)) = true := by
  induction ks with
  | nil => rfl
  | cons x ks ih => simp [keysOK, isKeyT, ih]
end Go.AL
/- The sort by insertion. -/
set_option linter.unusedVariables false
namespace Go.AL
open Go

def cmpF (a b : Fr) : Int := b.n * a.d - a.n * b.d
def swp (l : List Fr) (j : Nat) : List Fr := (l.set j (l.getD (j - 1) default)).set (j - 1) (l.getD j default)
def bub : Nat → List Fr → List Fr
  | 0, l => l
  | j + 1, l => if cmpF (l.getD (j + 1) default) (l.getD j default) < 0 then bub j (swp l (j + 1)) else l
/-- So many are yet to be put in their place. -/
def srt : Nat → List Fr → List Fr
  | 0, l => l
  | k + 1, l => srt k (bub (l.length - (k + 1)) l)
def sortF (l : List Fr) : List Fr := srt (l.length - 1) l
theorem swp_perm (l : List Fr) (j : Nat) (h : j < l.length) : (swp l j).Perm l := by
  unfold swp
  rw [List.getD_eq_getElem?_getD, List.getD_eq_getElem?_getD, List.getElem?_eq_getElem h, List.getElem?_eq_getElem (show j - 1 < l.length by omega)]
  exact List.set_set_perm h (by omega)
theorem bub_perm : ∀ (j : Nat) (l : List Fr), j < l.length → (bub j l).Perm l
  | 0, l, _ => .refl _
  | j + 1, l, h => by
    rw [bub]
    split
    · have hp := swp_perm l (j + 1) h
      exact (bub_perm j _ (by rw [hp.length_eq]; omega)).trans hp
    · exact .refl _
theorem srt_perm : ∀ (k : Nat) (l : List Fr), k ≤ l.length → (srt k l).Perm l
  | 0, l, _ => .refl _
  | k + 1, l, h => by
    rw [srt]
    have hp := bub_perm (l.length - (k + 1)) l (by omega)
    exact (srt_perm k _ (by rw [hp.length_eq]; omega)).trans hp
theorem sort_perm (l : List Fr) : (sortF l).Perm l := srt_perm _ _ (by omega)
theorem cmp_bd {a b : Fr} (ha : a.wt = true) (hb : b.wt = true) : 0 ≤ b.n * a.d ∧ b.n * a.d ≤ 10000 ∧ 0 ≤ a.n * b.d ∧ a.n * b.d ≤ 10000 := by
  obtain ⟨a1, a2, a3, a4, _⟩ := wt_facts ha
  obtain ⟨b1, b2, b3, b4, _⟩ := wt_facts hb
  have h1 : 0 ≤ b.n * a.d := Int.mul_nonneg b3 (by omega)
  have h2 : b.n * a.d ≤ 100 * 100 := Int.mul_le_mul (by omega) a2 (by omega) (by omega)
  have h3 : 0 ≤ a.n * b.d := Int.mul_nonneg a3 (by omega)
  have h4 : a.n * b.d ≤ 100 * 100 := Int.mul_le_mul (by omega) b2 (by omega) (by omega)
  omega
end Go.AL
/- Thresholds made by dice. -/
set_option linter.unusedVariables false
namespace Go.AL
open Go

def sixF : List Fr := [⟨1, 2⟩, ⟨1, 3⟩, ⟨2, 3⟩, ⟨1, 1⟩, ⟨0, 1⟩, ⟨99, 100⟩]
def genF : Nat → Dc → List Fr → List Fr × Dc
  | 0, d, l => (l, d)
  | k + 1, d, l => genF k (d.next 6).2 (l ++ [sixF.getD (d.next 6).1.toNat default])
def oneW : Fr := ⟨1, 1⟩
/-- The lists of weights. -/
def kitW (l : List Fr) (d : Dc) (n : Nat) : List (List Fr) × Dc :=
  let q := d.next n
  let l1 := l.set q.1.toNat oneW
  if 1 < n then
    let r := q.2.next 3
    if r.1 = 0 then
      let l2 := (l1.set 0 oneW).set (n - 1) oneW
      let u := r.2.next ((n : Int) - 1)
      ([l2.take (1 + u.1).toNat, l2.drop (1 + u.1).toNat], u.2)
    else ([l1], r.2)
  else ([l1], q.2)
def kitTh (d : Dc) (n : Nat) : Th × Dc :=
  if n = 0 then (⟨0, []⟩, d) else
    let q := d.next 3
    if 0 < q.1 then
      let r := q.2.next n
      (⟨1 + r.1, []⟩, r.2)
    else
      let g := genF n q.2 []
      let w := kitW g.1 g.2 n
      (⟨0, w.1⟩, w.2)
end Go.AL
namespace Go.AL
open Go
end Go.AL
/- Sums of weights as parts of one whole. -/
set_option linter.unusedVariables false
namespace Go.AL
open Go

/-- The whole, in parts. -/
def facN : Nat → Nat
  | 0 => 1
  | n + 1 => (n + 1) * facN n
theorem fac_pos : ∀ n, 0 < facN n
  | 0 => by decide
  | n + 1 => Nat.mul_pos (by omega) (fac_pos n)
theorem dvd_fac : ∀ (n d : Nat), 1 ≤ d → d ≤ n → d ∣ facN n
  | 0, d, h1, h2 => by omega
  | n + 1, d, h1, h2 => by
    rw [facN]
    rcases Nat.lt_or_ge n d with h | h
    · obtain rfl : d = n + 1 := by omega
      exact Nat.dvd_mul_right _ _
    · exact Nat.dvd_trans (dvd_fac n d h1 h) (Nat.dvd_mul_left _ _)
theorem exM : ∃ M : Int, 0 < M ∧ ∀ d : Int, 1 ≤ d → d ≤ 100 → d ∣ M := by
  refine ⟨(facN 100 : Nat), by have := fac_pos 100; omega, fun d h1 h2 => ?_⟩
  obtain ⟨e, rfl⟩ : ∃ e : Nat, d = e := ⟨d.toNat, by omega⟩
  exact Int.natCast_dvd_natCast.2 (dvd_fac 100 e (by omega) (by omega))
def vF (M : Int) (f : Fr) : Int := f.n * (M / f.d)
def sV (M : Int) : List Fr → Int
  | [] => 0
  | f :: l => vF M f + sV M l
theorem sV_append (M : Int) : ∀ (a b : List Fr), sV M (a ++ b) = sV M a + sV M b
  | [], b => by simp [sV]
  | f :: a, b => by simp only [List.cons_append, sV, sV_append M a b]; omega
theorem sV_perm (M : Int) {a b : List Fr} (h : a.Perm b) : sV M a = sV M b := by
  induction h with
  | nil => rfl
  | cons x _ ih => simp only [sV, ih]
  | swap x y l => simp only [sV]; omega
  | trans _ _ h1 h2 => rw [h1, h2]
theorem gcd_div {a b : Int} (ha : 0 ≤ a) (hb : 1 ≤ b) : gcdI (a / gcdI a b) (b / gcdI a b) = 1 := by
  obtain ⟨x, rfl⟩ : ∃ x : Nat, a = (x : Int) := ⟨a.toNat, by omega⟩
  obtain ⟨y, rfl⟩ : ∃ y : Nat, b = (y : Int) := ⟨b.toNat, by omega⟩
  unfold gcdI
  simp only [Int.toNat_natCast]
  have h0 : 0 < Nat.gcd x y := Nat.gcd_pos_of_pos_right x (by omega)
  rw [show ((x : Int) / (Nat.gcd x y : Int)).toNat = x / Nat.gcd x y by rw [← Int.natCast_ediv]; rfl, show ((y : Int) / (Nat.gcd x y : Int)).toNat = y / Nat.gcd x y by rw [← Int.natCast_ediv]; rfl]
  rw [Nat.gcd_div (Nat.gcd_dvd_left x y) (Nat.gcd_dvd_right x y), Nat.div_self h0]; rfl
section
variable {M : Int} (hM : 0 < M) (hd : ∀ d : Int, 1 ≤ d → d ≤ 100 → d ∣ M)
include hM hd
theorem vF_mul {f : Fr} (hf : f.wt = true) : vF M f * f.d = f.n * M ∧ 0 ≤ vF M f ∧ vF M f ≤ M := by
  obtain ⟨h1, h2, h3, h4, _⟩ := wt_facts hf
  obtain ⟨k, hk⟩ := hd f.d h1 h2
  have e : M / f.d = k := by rw [hk]; exact Int.mul_ediv_cancel_left _ (by omega)
  have hk0 : 0 < k := by
    rcases Int.lt_or_le 0 k with h | h
    · exact h
    · have : f.d * k ≤ f.d * 0 := Int.mul_le_mul_of_nonneg_left h (by omega)
      rw [Int.mul_zero] at this; omega
  unfold vF
  rw [e]
  refine ⟨by rw [hk, Int.mul_assoc, Int.mul_comm k], Int.mul_nonneg h3 (by omega), ?_⟩
  rw [hk]; exact Int.mul_le_mul_of_nonneg_right h4 (by omega)
/-- What a sum says. -/
structure SumOK (M : Int) (s : Fr) (v : Int) : Prop where
  eq : s.n * M = s.d * v
  low : gcdI s.n s.d = 1
  pos : 1 ≤ s.d
  nn : 0 ≤ s.n
theorem add_ok {s f : Fr} {v : Int} (hs : SumOK M s v) (hf : f.wt = true) : SumOK M (addF s f) (v + vF M f) := by
  obtain ⟨e, lo, p, nn⟩ := hs
  obtain ⟨h1, h2, h3, h4, _⟩ := wt_facts hf
  obtain ⟨hv, _, _⟩ := vF_mul hM hd hf
  have a1 : 0 ≤ s.n * f.d + f.n * s.d := Int.add_nonneg (Int.mul_nonneg nn (by omega)) (Int.mul_nonneg h3 (by omega))
  have a2 : 1 ≤ s.d * f.d := by
    have := Int.mul_le_mul p h1 (by omega) (by omega)
    omega
  have hg := gcdI_facts a1 a2
  have hlow := gcd_div a1 a2
  have key : (s.n * f.d + f.n * s.d) * M = (s.d * f.d) * (v + vF M f) := by
    have e1 : s.n * f.d * M = s.d * f.d * v := by
      rw [Int.mul_right_comm, e]; simp only [Int.mul_assoc, Int.mul_comm f.d]
    have e2 : f.n * s.d * M = s.d * f.d * vF M f := by
      rw [Int.mul_right_comm, ← hv]; simp only [Int.mul_assoc, Int.mul_comm, Int.mul_left_comm]
    rw [Int.add_mul, e1, e2, Int.mul_add]
  unfold addF
  generalize s.n * f.d + f.n * s.d = a at *
  generalize s.d * f.d = b at *
  generalize v + vF M f = w at *
  generalize gcdI a b = g at *
  obtain ⟨g1, g2, ⟨a', rfl⟩, ⟨b', rfl⟩⟩ := hg
  have q1 : g * a' / g = a' := Int.mul_ediv_cancel_left _ (by omega)
  have q2 : g * b' / g = b' := Int.mul_ediv_cancel_left _ (by omega)
  rw [q1, q2] at hlow ⊢
  refine ⟨?_, hlow, ?_, ?_⟩
  · rw [Int.mul_assoc, Int.mul_assoc] at key
    exact Int.eq_of_mul_eq_mul_left (by omega) key
  · rcases Int.lt_or_le 0 b' with h | h
    · exact h
    · have : g * b' ≤ g * 0 := Int.mul_le_mul_of_nonneg_left h (by omega)
      rw [Int.mul_zero] at this; omega
  · rcases Int.lt_or_le a' 0 with h | h
    · have : g * a' < g * 0 := Int.mul_lt_mul_of_pos_left h (by omega)
      rw [Int.mul_zero] at this; omega
    · exact h
theorem tot_ok : ∀ (l : List Fr) (s : Fr) (v : Int), SumOK M s v → (∀ f ∈ l, f.wt = true) → SumOK M (l.foldl addF s) (v + sV M l)
  | [], s, v, hs, _ => by simpa [sV] using hs
  | f :: l, s, v, hs, hw => by
    have := tot_ok l (addF s f) (v + vF M f) (add_ok hM hd hs (hw f (by simp))) fun x hx => hw x (List.mem_cons_of_mem _ hx)
    rw [List.foldl_cons, sV, ← Int.add_assoc]; exact this
theorem totF_ok (l : List Fr) (hw : ∀ f ∈ l, f.wt = true) : SumOK M (totF l) (sV M l) := by
  have := tot_ok hM hd l ⟨0, 1⟩ 0 ⟨by simp, by decide, by decide, by decide⟩ hw
  rwa [Int.zero_add] at this
end
theorem sumOK_uniq {M : Int} (hM : 0 < M) {s t : Fr} {v : Int} (hs : SumOK M s v) (ht : SumOK M t v) : s = t := by
  obtain ⟨e1, l1, p1, n1⟩ := hs
  obtain ⟨e2, l2, p2, n2⟩ := ht
  have hx : s.n * t.d = t.n * s.d := by
    have : (s.n * t.d) * M = (t.n * s.d) * M := by
      rw [Int.mul_right_comm, e1, Int.mul_right_comm t.n, e2]; simp only [Int.mul_assoc, Int.mul_comm, Int.mul_left_comm]
    exact Int.eq_of_mul_eq_mul_right (by omega) this
  obtain ⟨sn, sd⟩ := s
  obtain ⟨tn, td⟩ := t
  simp only at *
  obtain ⟨a, rfl⟩ : ∃ x : Nat, sn = (x : Int) := ⟨sn.toNat, by omega⟩
  obtain ⟨b, rfl⟩ : ∃ x : Nat, sd = (x : Int) := ⟨sd.toNat, by omega⟩
  obtain ⟨c, rfl⟩ : ∃ x : Nat, tn = (x : Int) := ⟨tn.toNat, by omega⟩
  obtain ⟨d, rfl⟩ : ∃ x : Nat, td = (x : Int) := ⟨td.toNat, by omega⟩
  have hx : a * d = c * b := by exact_mod_cast hx
  unfold gcdI at l1 l2
  simp only [Int.toNat_natCast] at l1 l2
  have c1 : Nat.Coprime a b := by show Nat.gcd a b = 1; omega
  have c2 : Nat.Coprime c d := by show Nat.gcd c d = 1; omega
  have d1 : b ∣ d := c1.symm.dvd_of_dvd_mul_left ⟨c, by rw [hx, Nat.mul_comm]⟩
  have d2 : d ∣ b := c2.symm.dvd_of_dvd_mul_left ⟨a, by rw [← hx, Nat.mul_comm]⟩
  have hbd : b = d := Nat.dvd_antisymm d1 d2
  subst hbd
  have hac : a = c := Nat.eq_of_mul_eq_mul_right (by omega) hx
  rw [hac]
theorem tot_perm {a b : List Fr} (h : a.Perm b) (hw : ∀ f ∈ a, f.wt = true) : totF a = totF b := by
  obtain ⟨M, hM, hd⟩ := exM
  have h1 := totF_ok hM hd a hw
  have h2 := totF_ok hM hd b fun f hf => hw f (h.mem_iff.2 hf)
  rw [← sV_perm M h] at h2
  exact sumOK_uniq hM h1 h2
end Go.AL
/- Several lists of weights: the plain law. -/
set_option linter.unusedVariables false
namespace Go.AL
open Go

/-- So many of the greatest weights are enough. -/
def IsLeast (l : List Fr) (k : Nat) : Prop := k ≤ l.length ∧ wholeF ((sortF l).take k) = true ∧ ∀ m, m < k → wholeF ((sortF l).take m) = false
def leastK (p : Nat → Bool) : Nat → Nat → Nat
  | 0, k => k
  | c + 1, k => if p k then k else leastK p c (k + 1)
/-- The fewest of the greatest weights that are enough. -/
def leastG (l : List Fr) : Nat := leastK (fun k => wholeF ((sortF l).take k)) l.length 0
theorem sV_nn {M : Int} (hM : 0 < M) (hd : ∀ d : Int, 1 ≤ d → d ≤ 100 → d ∣ M) : ∀ (l : List Fr), (∀ f ∈ l, f.wt = true) → 0 ≤ sV M l
  | [], _ => by simp [sV]
  | f :: l, h => by
    have h1 := (vF_mul hM hd (h f (by simp))).2.1
    have h2 := sV_nn hM hd l fun x hx => h x (List.mem_cons_of_mem _ hx)
    rw [sV]; omega
end Go.AL
/- Sums of weights: lowest terms, and that they grow. -/
set_option linter.unusedVariables false
namespace Go.AL
open Go

theorem sums_ok (l : List Fr) (hw : ∀ f ∈ l, f.wt = true) : gcdI (totF l).n (totF l).d = 1 ∧ 1 ≤ (totF l).d ∧ 0 ≤ (totF l).n := by
  obtain ⟨M, hM, hd⟩ := exM
  obtain ⟨e, lo, p, nn⟩ := totF_ok hM hd l hw
  exact ⟨lo, p, nn⟩
theorem sums_mod (l : List Fr) (hw : ∀ f ∈ l, f.wt = true) (g : Int) (hg : 2 ≤ g) (h1 : (totF l).n.tmod g = 0) : ¬ (totF l).d.tmod g = 0 := fun h2 => by
  obtain ⟨lo, p, nn⟩ := sums_ok l hw
  generalize (totF l).n = a at *
  generalize (totF l).d = b at *
  obtain ⟨x, rfl⟩ : ∃ x : Nat, a = (x : Int) := ⟨a.toNat, by omega⟩
  obtain ⟨y, rfl⟩ : ∃ y : Nat, b = (y : Int) := ⟨b.toNat, by omega⟩
  obtain ⟨z, rfl⟩ : ∃ z : Nat, g = (z : Int) := ⟨g.toNat, by omega⟩
  have d1 : z ∣ x := Int.natCast_dvd_natCast.1 (Int.dvd_of_tmod_eq_zero h1)
  have d2 : z ∣ y := Int.natCast_dvd_natCast.1 (Int.dvd_of_tmod_eq_zero h2)
  have := Nat.dvd_gcd d1 d2
  unfold gcdI at lo
  simp only [Int.toNat_natCast] at lo
  have h3 : Nat.gcd x y = 1 := by omega
  rw [h3] at this
  have := Nat.le_of_dvd (by omega) this
  omega
theorem take_sV {M : Int} (hM : 0 < M) (hd : ∀ d : Int, 1 ≤ d → d ≤ 100 → d ∣ M) (l : List Fr) (hw : ∀ f ∈ l, f.wt = true) (k : Nat) : sV M (l.take k) ≤ sV M l := by
  have h1 := sV_append M (l.take k) (l.drop k)
  rw [List.take_append_drop] at h1
  have h2 := sV_nn hM hd (l.drop k) fun f hf => hw f (List.mem_of_mem_drop hf)
  omega
theorem sums_quo (l : List Fr) (hw : ∀ f ∈ l, f.wt = true) (k : Nat) : (totF (l.take k)).n.tdiv (totF (l.take k)).d ≤ (totF l).n.tdiv (totF l).d ∧ 0 ≤ (totF (l.take k)).n.tdiv (totF (l.take k)).d ∧ (totF l).n.tdiv (totF l).d ≤ (totF l).n := by
  obtain ⟨M, hM, hd⟩ := exM
  obtain ⟨e1, _, p1, n1⟩ := totF_ok hM hd l hw
  obtain ⟨e2, _, p2, n2⟩ := totF_ok hM hd (l.take k) fun f hf => hw f (List.mem_of_mem_take hf)
  have hv := take_sV hM hd l hw k
  generalize sV M (l.take k) = v2 at *
  generalize sV M l = v1 at *
  generalize totF (l.take k) = c at *
  generalize totF l = a at *
  rw [Int.tdiv_eq_ediv_of_nonneg n2, Int.tdiv_eq_ediv_of_nonneg n1]
  refine ⟨?_, Int.ediv_nonneg n2 (by omega), Int.ediv_le_self _ n1⟩
  rw [Int.le_ediv_iff_mul_le (by omega)]
  have q1 : c.n / c.d * c.d ≤ c.n := Int.ediv_mul_le _ (by omega)
  have q0 := Int.ediv_nonneg n2 (show 0 ≤ c.d by omega)
  generalize c.n / c.d = q at *
  have q2 : q * M ≤ v2 := by
    have : (q * c.d) * M ≤ c.n * M := Int.mul_le_mul_of_nonneg_right q1 (by omega)
    rw [e2, Int.mul_comm q, Int.mul_assoc] at this
    exact Int.le_of_mul_le_mul_left this (by omega)
  have q3 : (q * a.d) * M ≤ a.n * M := by
    rw [e1, Int.mul_comm q, Int.mul_assoc]
    exact Int.mul_le_mul_of_nonneg_left (by omega) (by omega)
  exact Int.le_of_mul_le_mul_right q3 hM
theorem sums_snoc {l : List Fr} {f : Fr} (h : ∀ x ∈ l, x.wt = true) (hf : f.wt = true) : ∀ x ∈ l ++ [f], x.wt = true := fun x hx => by
  rcases List.mem_append.1 hx with h1 | h1
  · exact h x h1
  · rw [List.mem_singleton.1 h1]; exact hf
theorem sums_one {v : Int} (h0 : 0 ≤ v) (h : v < 100) : (Fr.mk 1 (1 + v)).wt = true := by
  unfold Fr.wt
  simp only [Bool.and_eq_true, decide_eq_true_eq]
  refine ⟨⟨by omega, by omega, by omega, by omega⟩, ?_⟩
  unfold gcdI
  rw [show (1 : Int).toNat = 1 from rfl, Nat.gcd_one_left]; rfl
theorem sums_turn (l : List Fr) (k : Nat) : (l.drop k ++ l.take k).Perm l := by
  have := List.perm_append_comm (l₁ := l.drop k) (l₂ := l.take k)
  rwa [List.take_append_drop] at this
end Go.AL
/- What is sorted stands in falling order; the greatest weights. -/
set_option linter.unusedVariables false
namespace Go.AL
open Go

section
variable {M : Int} (hM : 0 < M) (hd : ∀ d : Int, 1 ≤ d → d ≤ 100 → d ∣ M)
include hM hd
end
end Go.AL
namespace Go.AL
open Go
def leastSum (g : List Fr → Nat) : List (List Fr) → Nat
  | [] => 0
  | l :: r => g l + leastSum g r
end Go.AL
