/- Weights and their sums, without the program. -/
import Derived.Test.YtkfjchmmhabocaaPur
import Derived.Test.YtkfjchmmhabocaaAl4
set_option linter.unusedVariables false
namespace Go.AL
open Go

/-- A fraction. -/
structure Fr where
  n : Int
  d : Int
  deriving Inhabited, DecidableEq
def Fr.toT (f : Fr) : T := .agg [.int .i64 f.n, .int .i64 f.d]
def gcdI (a b : Int) : Int := (Nat.gcd a.toNat b.toNat : Int)
def Fr.wt (f : Fr) : Bool := decide (1 ≤ f.d ∧ f.d ≤ 100 ∧ 0 ≤ f.n ∧ f.n ≤ f.d) && decide (gcdI f.n f.d = 1)
def addF (a b : Fr) : Fr := ⟨(a.n * b.d + b.n * a.d) / gcdI (a.n * b.d + b.n * a.d) (a.d * b.d), (a.d * b.d) / gcdI (a.n * b.d + b.n * a.d) (a.d * b.d)⟩
def totF (l : List Fr) : Fr := l.foldl addF ⟨0, 1⟩
def wholeF (l : List Fr) : Bool := decide ((totF l).d ≤ (totF l).n)

theorem gcdI_facts {a b : Int} (ha : 0 ≤ a) (hb : 1 ≤ b) : 1 ≤ gcdI a b ∧ gcdI a b ≤ b ∧ gcdI a b ∣ a ∧ gcdI a b ∣ b := by
  obtain ⟨x, rfl⟩ : ∃ x : Nat, a = (x : Int) := ⟨a.toNat, by omega⟩
  obtain ⟨y, rfl⟩ : ∃ y : Nat, b = (y : Int) := ⟨b.toNat, by omega⟩
  unfold gcdI
  simp only [Int.toNat_natCast]
  have h1 : 0 < Nat.gcd x y := Nat.gcd_pos_of_pos_right x (by omega)
  have h2 : Nat.gcd x y ≤ y := Nat.le_of_dvd (by omega) (Nat.gcd_dvd_right x y)
  exact ⟨by omega, by omega, Int.natCast_dvd_natCast.2 (Nat.gcd_dvd_left x y), Int.natCast_dvd_natCast.2 (Nat.gcd_dvd_right x y)⟩
/-- A sum of so many weights. -/
def Fr.Bd (s : Fr) (k : Nat) : Prop := 1 ≤ s.d ∧ s.d ≤ ((100 ^ k : Nat) : Int) ∧ 0 ≤ s.n ∧ s.n ≤ (k : Int) * s.d
theorem wt_facts {f : Fr} (h : f.wt = true) : 1 ≤ f.d ∧ f.d ≤ 100 ∧ 0 ≤ f.n ∧ f.n ≤ f.d ∧ gcdI f.n f.d = 1 := by
  unfold Fr.wt at h
  simp only [Bool.and_eq_true, decide_eq_true_eq] at h
  exact ⟨h.1.1, h.1.2.1, h.1.2.2.1, h.1.2.2.2, h.2⟩
theorem add_mid {s f : Fr} {k : Nat} (hs : s.Bd k) (hf : f.wt = true) : 0 ≤ s.n * f.d + f.n * s.d ∧ s.n * f.d + f.n * s.d ≤ ((k : Int) + 1) * (s.d * f.d) ∧ 1 ≤ s.d * f.d ∧ s.d * f.d ≤ ((100 ^ (k + 1) : Nat) : Int) ∧ 0 ≤ s.n * f.d ∧ 0 ≤ f.n * s.d ∧ s.n * f.d ≤ (k : Int) * (s.d * f.d) ∧ f.n * s.d ≤ s.d * f.d := by
  obtain ⟨h1, h2, h3, h4⟩ := hs
  obtain ⟨f1, f2, f3, f4, _⟩ := wt_facts hf
  have a1 : 0 ≤ s.n * f.d := Int.mul_nonneg h3 (by omega)
  have a2 : 0 ≤ f.n * s.d := Int.mul_nonneg f3 (by omega)
  have a3 : s.n * f.d ≤ ((k : Int) * s.d) * f.d := Int.mul_le_mul_of_nonneg_right h4 (by omega)
  have a4 : f.n * s.d ≤ f.d * s.d := Int.mul_le_mul_of_nonneg_right f4 (by omega)
  have a5 : 1 * 1 ≤ s.d * f.d := Int.mul_le_mul h1 f1 (by omega) (by omega)
  have a6 : s.d * f.d ≤ ((100 ^ k : Nat) : Int) * 100 := Int.mul_le_mul h2 f2 (by omega) (by omega)
  have e1 : ((100 ^ (k + 1) : Nat) : Int) = ((100 ^ k : Nat) : Int) * 100 := by rw [Nat.pow_succ]; omega
  have e2 : ((k : Int) + 1) * (s.d * f.d) = (k : Int) * (s.d * f.d) + s.d * f.d := by rw [Int.add_mul]; omega
  have e3 : ((k : Int) * s.d) * f.d = (k : Int) * (s.d * f.d) := Int.mul_assoc ..
  have e4 : f.d * s.d = s.d * f.d := Int.mul_comm ..
  rw [e1, e2]
  rw [e3] at a3
  rw [e4] at a4
  exact ⟨by omega, by omega, by omega, a6, a1, a2, a3, a4⟩
theorem add_bd {s f : Fr} {k : Nat} (hs : s.Bd k) (hf : f.wt = true) : (addF s f).Bd (k + 1) := by
  obtain ⟨m1, m2, m3, m4, _⟩ := add_mid hs hf
  unfold addF Fr.Bd
  simp only
  generalize s.n * f.d + f.n * s.d = n at *
  generalize s.d * f.d = e at *
  obtain ⟨g1, g2, ⟨n', hn⟩, ⟨e', he⟩⟩ := gcdI_facts m1 m3
  generalize gcdI n e = g at *
  subst hn; subst he
  rw [Int.mul_ediv_cancel_left _ (by omega), Int.mul_ediv_cancel_left _ (by omega)]
  have e1 : 1 ≤ e' := by
    rcases Int.lt_or_le e' 1 with h | h
    · have : g * e' ≤ g * 0 := Int.mul_le_mul_of_nonneg_left (by omega) (by omega)
      rw [Int.mul_zero] at this; omega
    · exact h
  have n1 : 0 ≤ n' := by
    rcases Int.lt_or_le n' 0 with h | h
    · have : g * n' ≤ g * (-1) := Int.mul_le_mul_of_nonneg_left (by omega) (by omega)
      omega
    · exact h
  have e2 : e' ≤ g * e' := by
    have : 1 * e' ≤ g * e' := Int.mul_le_mul_of_nonneg_right g1 (by omega)
    omega
  have e3 : n' ≤ ((k : Int) + 1) * e' := by
    rw [← Int.mul_assoc, Int.mul_comm _ g, Int.mul_assoc] at m2
    exact Int.le_of_mul_le_mul_left m2 (by omega)
  exact ⟨e1, by omega, n1, by simpa using e3⟩
theorem tot_take (l : List Fr) (k : Nat) (h : k < l.length) : totF (l.take (k + 1)) = addF (totF (l.take k)) (l.getD k default) := by
  unfold totF
  rw [List.take_add_one, List.foldl_append, List.getD_eq_getElem?_getD, List.getElem?_eq_getElem h]
  rfl
theorem tot_bd (l : List Fr) (hl : ∀ f ∈ l, f.wt = true) : ∀ k, k ≤ l.length → (totF (l.take k)).Bd k
  | 0, _ => ⟨by show (1 : Int) ≤ 1; omega, by show (1 : Int) ≤ 1; omega, by show (0 : Int) ≤ 0; omega, by show (0 : Int) ≤ _; simp⟩
  | k + 1, h => by
    rw [tot_take l k (by omega)]
    refine add_bd (tot_bd l hl k (by omega)) (hl _ ?_)
    rw [List.getD_eq_getElem?_getD, List.getElem?_eq_getElem (by omega)]
    exact List.getElem_mem _
end Go.AL
namespace Go.AL
open Go
/-- The first place of one for which something holds, or -1. -/
def idxI {α : Type} (p : α → Bool) : List α → Nat → Int
  | [], _ => -1
  | x :: l, k => if p x then (k : Int) else idxI p l (k + 1)
theorem idx_any {α : Type} (p : α → Bool) : ∀ (l : List α) (k : Nat), decide (0 ≤ idxI p l k) = l.any p
  | [], k => by simp [idxI]
  | x :: l, k => by
    rw [idxI, List.any_cons]
    cases hp : p x with
    | true => simp
    | false => simp [idx_any p l (k + 1)]
end Go.AL
/- Which thresholds are valid: the plain law. -/
set_option linter.unusedVariables false
namespace Go.AL
open Go

/-- A list of weights, as data. -/
def frs (l : List Fr) : T := .sl 2 (l.map Fr.toT)
/-- A threshold. -/
structure Th where
  n : Int
  w : List (List Fr)
  deriving Inhabited
def Th.toT (t : Th) : T := .agg [.int .i64 t.n, .sl 1 (t.w.map frs)]
def sumE (l : List Fr) : Int := if 8 < l.length then 3 else if l.any (fun f => !f.wt) then 2 else 0
def sumF (l : List Fr) : Fr := if sumE l = 0 then totF l else ⟨0, 0⟩
def oneF (l : List Fr) : Bool := decide (sumE l = 0) && decide ((sumF l).d ≤ (sumF l).n)
theorem sumE_ok {l : List Fr} : sumE l = 0 ↔ l.length ≤ 8 ∧ ∀ f ∈ l, f.wt = true := by
  unfold sumE
  by_cases h : 8 < l.length
  · rw [if_pos h]; exact ⟨fun h => by omega, fun h => by omega⟩
  · rw [if_neg h]
    cases ha : l.any (fun f => !f.wt) with
    | true =>
      simp only [if_true]
      constructor
      · intro h; omega
      · intro ⟨_, h2⟩
        obtain ⟨x, hx, h3⟩ := List.any_eq_true.1 ha
        rw [h2 x hx] at h3; cases h3
    | false =>
      simp only [Bool.false_eq_true, if_false, true_iff]
      refine ⟨by omega, fun f hf => ?_⟩
      have := List.any_eq_false.1 ha f hf
      simpa using this
theorem sumE_cases (l : List Fr) : sumE l = 0 ∨ sumE l = 2 ∨ sumE l = 3 := by
  unfold sumE; repeat' split
  all_goals simp
def keysGo : List (List Fr) → Nat → Int
  | [], n => n
  | l :: r, n => if l.length = 0 ∨ 8 < n + l.length ∨ l.any (fun f => !f.wt) = true then -1 else keysGo r (n + l.length)
def validP (t : Th) (k : Int) : Bool := if t.n ≠ 0 then decide (0 < t.n ∧ t.n ≤ k ∧ k ≤ 8) && decide (t.w.length = 0) else if t.w.length = 0 then decide (k = 0) else decide (0 < k) && decide (keysGo t.w 0 = k) && !(t.w.any fun l => !(wholeF l))
def lensT : List (List Fr) → Nat
  | [] => 0
  | l :: r => l.length + lensT r
def validR (t : Th) (k : Int) : Bool := if k = 0 then decide (t.n = 0) && decide (t.w.length = 0) else if k < 0 ∨ 8 < k then false else if t.w.length = 0 then decide (1 ≤ t.n) && decide (t.n ≤ k) else (t.w.all fun l => decide (l.length ≠ 0) && oneF l) && decide (t.n = 0) && decide ((lensT t.w : Int) = k)
theorem one_whole {l : List Fr} (h : sumE l = 0) : oneF l = wholeF l := by
  unfold oneF sumF wholeF
  rw [decide_eq_true h, if_pos h, Bool.true_and]
theorem keysGo_ok : ∀ (w : List (List Fr)) (n : Nat), n ≤ 8 → (0 ≤ keysGo w n ↔ (∀ l ∈ w, l.length ≠ 0 ∧ ∀ f ∈ l, f.wt = true) ∧ n + lensT w ≤ 8) ∧ (0 ≤ keysGo w n → keysGo w n = ((n + lensT w : Nat) : Int)) := by
  intro w
  induction w with
  | nil => intro n hn; simp [keysGo, lensT]; omega
  | cons l r ih =>
    intro n hn
    rw [keysGo]
    by_cases hb : l.length = 0 ∨ 8 < n + l.length ∨ l.any (fun f => !f.wt) = true
    · rw [if_pos hb]
      refine ⟨⟨fun h => by omega, fun ⟨h1, h2⟩ => ?_⟩, fun h => by omega⟩
      exfalso
      have hl := h1 l (by simp)
      rcases hb with hb | hb | hb
      · exact hl.1 hb
      · simp only [lensT] at h2; omega
      · obtain ⟨x, hx, h3⟩ := List.any_eq_true.1 hb
        rw [hl.2 x hx] at h3; cases h3
    · rw [if_neg hb]
      have hb1 : l.length ≠ 0 := fun h => hb (.inl h)
      have hb2 : n + l.length ≤ 8 := by
        rcases Nat.lt_or_ge 8 (n + l.length) with h | h
        · exact absurd (.inr (.inl h)) hb
        · exact h
      have hb3 : ∀ f ∈ l, f.wt = true := fun f hf => by
        cases h : f.wt with
        | true => rfl
        | false => exact absurd (.inr (.inr (List.any_eq_true.2 ⟨f, hf, by rw [h]; rfl⟩))) hb
      obtain ⟨i1, i2⟩ := ih (n + l.length) hb2
      refine ⟨⟨fun h => ?_, fun ⟨h1, h2⟩ => ?_⟩, fun h => ?_⟩
      · obtain ⟨j1, j2⟩ := i1.1 h
        refine ⟨fun x hx => ?_, by simp only [lensT]; omega⟩
        rcases List.mem_cons.1 hx with rfl | hx
        · exact ⟨hb1, hb3⟩
        · exact j1 x hx
      · exact i1.2 ⟨fun x hx => h1 x (List.mem_cons_of_mem _ hx), by simp only [lensT] at h2; omega⟩
      · rw [i2 h]; simp only [lensT]; congr 1; omega
theorem len_le {l : List Fr} : ∀ {w : List (List Fr)}, l ∈ w → l.length ≤ lensT w
  | x :: r, h => by
    simp only [lensT]
    rcases List.mem_cons.1 h with rfl | h
    · omega
    · have := len_le h; omega
theorem valid_eq (t : Th) (k : Int) : validP t k = validR t k := by
  unfold validP validR
  by_cases hn : t.n = 0
  · rw [if_neg (by simp [hn])]
    by_cases hw : t.w.length = 0
    · rw [if_pos hw]
      by_cases hk : k = 0
      · rw [if_pos hk, decide_eq_true hk, decide_eq_true hn, decide_eq_true hw]; rfl
      · rw [if_neg hk, decide_eq_false hk]
        split
        · rfl
        · rw [decide_eq_false (show ¬ (1 ≤ t.n) by omega)]; rfl
    · rw [if_neg hw]
      by_cases hk : k = 0
      · rw [if_pos hk, decide_eq_false hw, decide_eq_false (show ¬ 0 < k by omega)]; simp
      · rw [if_neg hk]
        by_cases hr : k < 0 ∨ 8 < k
        · rw [if_pos hr]
          rcases hr with hr | hr
          · rw [decide_eq_false (show ¬ 0 < k by omega)]; simp
          · have := keysGo_ok t.w 0 (by omega)
            rw [decide_eq_false (show ¬ keysGo t.w 0 = k by
              intro h
              have h0 : 0 ≤ keysGo t.w 0 := by omega
              have h2 := (this.1.1 h0).2
              have h3 := this.2 h0
              omega)]
            simp
        · rw [if_neg hr, if_neg hw, decide_eq_true hn, decide_eq_true (show 0 < k by omega)]
          obtain ⟨i1, i2⟩ := keysGo_ok t.w 0 (by omega)
          by_cases hg : keysGo t.w 0 = k
          · have h0 : 0 ≤ keysGo t.w 0 := by omega
            obtain ⟨j1, j2⟩ := i1.1 h0
            have hL : (lensT t.w : Int) = k := by rw [← hg, i2 h0]; simp
            rw [decide_eq_true hg, decide_eq_true hL]
            have hall : (!(t.w.any fun l => !(wholeF l))) = t.w.all fun l => decide (l.length ≠ 0) && oneF l := by
              rw [List.not_any_eq_all_not]
              have each : ∀ l ∈ t.w, (!(!(wholeF l))) = (decide (l.length ≠ 0) && oneF l) := fun l hl => by
                have hs : sumE l = 0 := sumE_ok.2 ⟨by have := len_le hl; omega, (j1 l hl).2⟩
                rw [one_whole hs, decide_eq_true (j1 l hl).1]; simp
              rw [Bool.eq_iff_iff, List.all_eq_true, List.all_eq_true]
              exact ⟨fun h l hl => by rw [← each l hl]; exact h l hl, fun h l hl => by rw [each l hl]; exact h l hl⟩
            rw [hall]; simp
          · rw [decide_eq_false hg]
            simp only [Bool.true_and, Bool.false_and, Bool.and_true]
            symm
            rw [Bool.and_eq_false_iff]
            by_cases hL : (lensT t.w : Int) = k
            · left
              rw [List.all_eq_false]
              have hne : ¬ (∀ l ∈ t.w, l.length ≠ 0 ∧ ∀ f ∈ l, f.wt = true) := fun h => by
                have h0 := i1.2 ⟨h, by omega⟩
                have := i2 h0
                omega
              simp only [Classical.not_forall] at hne
              obtain ⟨l, hl, h2⟩ := hne
              refine ⟨l, hl, fun h3 => h2 ?_⟩
              simp only [Bool.and_eq_true, decide_eq_true_eq] at h3
              refine ⟨h3.1, ?_⟩
              have h4 := h3.2
              unfold oneF at h4
              simp only [Bool.and_eq_true, decide_eq_true_eq] at h4
              exact (sumE_ok.1 h4.1).2
            · right; exact decide_eq_false hL
  · rw [if_pos hn]
    by_cases hk : k = 0
    · rw [if_pos hk, decide_eq_false hn, decide_eq_false (show ¬ (0 < t.n ∧ t.n ≤ k ∧ k ≤ 8) by omega)]
    · rw [if_neg hk]
      by_cases hr : k < 0 ∨ 8 < k
      · rw [if_pos hr, decide_eq_false (show ¬ (0 < t.n ∧ t.n ≤ k ∧ k ≤ 8) by omega)]; simp
      · rw [if_neg hr]
        by_cases hw : t.w.length = 0
        · rw [if_pos hw, decide_eq_true hw, Bool.and_true, ← Bool.decide_and]
          exact decide_eq_decide.2 ⟨fun h => by omega, fun h => by omega⟩
        · rw [if_neg hw, decide_eq_false hw, decide_eq_false hn]; simp
theorem lens_take : ∀ (w : List (List Fr)) (j : Nat), j < w.length → lensT (w.take (j + 1)) = lensT (w.take j) + (w.getD j default).length
  | [], j, h => by simp at h
  | x :: r, 0, h => by simp [lensT]
  | x :: r, j + 1, h => by
    have := lens_take r j (by simpa using h)
    rw [List.take_succ_cons, List.take_succ_cons, lensT, lensT, this, List.getD_cons_succ]; omega
end Go.AL
/- Which sets of keys are enough: the plain law. -/
set_option linter.unusedVariables false
namespace Go.AL
open Go

def insK (acc : List Int) (k : Int) : List Int := if (0 ≤ k ∧ k < 8) ∧ k ∉ acc then acc ++ [k] else acc
/-- The keys of a set, each once. -/
def ksF (s : List Int) : List Int := s.foldl insK []
def haveF (p : Nat → Bool) : List Fr → Nat → List Fr
  | [], _ => []
  | f :: l, k => if p k then f :: haveF p l (k + 1) else haveF p l (k + 1)
def enoughW (p : Nat → Bool) : List (List Fr) → Nat → Bool
  | [], _ => true
  | l :: r, k => wholeF (haveF p l k) && enoughW p r (k + l.length)
def inK (ks : List Int) (k : Nat) : Bool := decide ((k : Int) ∈ ks)
def enoughP (t : Th) (s : List Int) : Bool := if t.n ≠ 0 then decide (t.n ≤ ((ksF s).length : Int)) else enoughW (inK (ksF s)) t.w 0
def enoughR (t : Th) (s : List Int) : Bool := if t.w.length = 0 then decide (t.n ≤ ((ksF s).length : Int)) else enoughW (inK (ksF s)) t.w 0
theorem ks_take (s : List Int) (j : Nat) (h : j < s.length) : ksF (s.take (j + 1)) = insK (ksF (s.take j)) (s.getD j default) := by
  unfold ksF
  rw [List.take_add_one, List.foldl_append, List.getD_eq_getElem?_getD, List.getElem?_eq_getElem h]
  rfl
theorem ks_range (s : List Int) : ∀ k ∈ ksF s, 0 ≤ k ∧ k < 8 := by
  have key : ∀ (l acc : List Int), (∀ k ∈ acc, 0 ≤ k ∧ k < 8) → ∀ k ∈ l.foldl insK acc, 0 ≤ k ∧ k < 8 := by
    intro l
    induction l with
    | nil => intro acc h; exact h
    | cons x l ih =>
      intro acc h
      refine ih _ fun k hk => ?_
      unfold insK at hk
      split at hk
      · rename_i hx
        rcases List.mem_append.1 hk with h1 | h1
        · exact h k h1
        · simp at h1; subst h1; exact hx.1
      · exact h k hk
  exact key s [] (by simp)
theorem have_take (p : Nat → Bool) : ∀ (l : List Fr) (k j : Nat), j < l.length → haveF p (l.take (j + 1)) k = haveF p (l.take j) k ++ (if p (k + j) then [l.getD j default] else [])
  | [], k, j, h => by simp at h
  | x :: l, k, 0, h => by simp [haveF]
  | x :: l, k, j + 1, h => by
    have := have_take p l (k + 1) j (by simpa using h)
    rw [List.take_succ_cons, List.take_succ_cons, haveF, haveF, this, List.getD_cons_succ, show k + 1 + j = k + (j + 1) by omega]
    split <;> rfl
theorem have_sub (p : Nat → Bool) : ∀ (l : List Fr) (k : Nat), (haveF p l k).length ≤ l.length ∧ ∀ f ∈ haveF p l k, f ∈ l
  | [], k => by simp [haveF]
  | x :: l, k => by
    obtain ⟨h1, h2⟩ := have_sub p l (k + 1)
    rw [haveF]
    split
    · refine ⟨by simp only [List.length_cons]; omega, fun f hf => ?_⟩
      rcases List.mem_cons.1 hf with rfl | hf
      · simp
      · exact List.mem_cons_of_mem _ (h2 f hf)
    · exact ⟨by simp only [List.length_cons]; omega, fun f hf => List.mem_cons_of_mem _ (h2 f hf)⟩
/-- A threshold that a test of sets may be asked about. -/
structure Th.Fit (t : Th) : Prop where
  few : lensT t.w ≤ 8
  lists : t.w.length ≤ 8
  wt : ∀ l ∈ t.w, ∀ f ∈ l, f.wt = true
  one : t.n = 0 ∨ t.w.length = 0
theorem enough_eq {t : Th} (h : t.Fit) (hz : t.n = 0 → t.w.length = 0 → True) (s : List Int) (h0 : t.n = 0 ∧ t.w.length = 0 → True) : (t.n ≠ 0 ∨ t.w.length ≠ 0 ∨ t.n ≤ 0) → enoughP t s = enoughR t s := by
  intro _
  unfold enoughP enoughR
  by_cases hn : t.n = 0
  · rw [if_neg (by simp [hn])]
    by_cases hw : t.w.length = 0
    · rw [if_pos hw, hn, decide_eq_true (show (0 : Int) ≤ ((ksF s).length : Int) by omega)]
      have : t.w = [] := List.length_eq_zero_iff.1 hw
      rw [this]; rfl
    · rw [if_neg hw]
  · rw [if_pos hn]
    rcases h.one with h1 | h1
    · exact absurd h1 hn
    · rw [if_pos h1]
theorem mget_ks (ks : List Int) (k : Int) : (mget (ks.map fun x => (T.int .i64 x, T.bool true)) (.int .i64 k)).getD (.bool false) = .bool (decide (k ∈ ks)) := by
  induction ks with
  | nil => simp [mget]
  | cons x ks ih =>
    by_cases h : k = x
    · subst h; simp [mget, keyEq]
    · by_cases h2 : x = k
      · exact absurd h2.symm h
      · simpa [mget, keyEq, h, h2] using ih
theorem mset_ks (ks : List Int) (k : Int) : mset (ks.map fun x => (T.int .i64 x, T.bool true)) (.int .i64 k) (.bool true) = (if k ∈ ks then ks else ks ++ [k]).map fun x => (T.int .i64 x, T.bool true) := by
  induction ks with
  | nil => simp [mset]
  | cons x ks ih =>
    by_cases h : k = x
    · subst h; simp [mset, keyEq]
    · by_cases h2 : x = k
      · exact absurd h2.symm h
      · simp only [List.map_cons, mset, keyEq, h, h2, decide_false, Bool.false_eq_true, if_false, List.mem_cons, false_or, ih]
        split <;> simp
theorem keysOK_ks (ks : List Int) : keysOK (.int .i64) (ks.map fun x => (T.int .i64 x, T.bool true)) = true := by
  induction ks with
  | nil => rfl
  | cons x ks ih => simp [keysOK, isKeyT, ih]
end Go.AL
/- The sort by insertion. -/
set_option linter.unusedVariables false
namespace Go.AL
open Go

def cmpF (a b : Fr) : Int := b.n * a.d - a.n * b.d
def swp (l : List Fr) (j : Nat) : List Fr := (l.set j (l.getD (j - 1) default)).set (j - 1) (l.getD j default)
def bub : Nat → List Fr → List Fr
  | 0, l => l
  | j + 1, l => if cmpF (l.getD (j + 1) default) (l.getD j default) < 0 then bub j (swp l (j + 1)) else l
/-- So many are yet to be put in their place. -/
def srt : Nat → List Fr → List Fr
  | 0, l => l
  | k + 1, l => srt k (bub (l.length - (k + 1)) l)
def sortF (l : List Fr) : List Fr := srt (l.length - 1) l
theorem swp_perm (l : List Fr) (j : Nat) (h : j < l.length) : (swp l j).Perm l := by
  unfold swp
  rw [List.getD_eq_getElem?_getD, List.getD_eq_getElem?_getD, List.getElem?_eq_getElem h, List.getElem?_eq_getElem (show j - 1 < l.length by omega)]
  exact List.set_set_perm h (by omega)
theorem bub_perm : ∀ (j : Nat) (l : List Fr), j < l.length → (bub j l).Perm l
  | 0, l, _ => .refl _
  | j + 1, l, h => by
    rw [bub]
    split
    · have hp := swp_perm l (j + 1) h
      exact (bub_perm j _ (by rw [hp.length_eq]; omega)).trans hp
    · exact .refl _
theorem srt_perm : ∀ (k : Nat) (l : List Fr), k ≤ l.length → (srt k l).Perm l
  | 0, l, _ => .refl _
  | k + 1, l, h => by
    rw [srt]
    have hp := bub_perm (l.length - (k + 1)) l (by omega)
    exact (srt_perm k _ (by rw [hp.length_eq]; omega)).trans hp
theorem sort_perm (l : List Fr) : (sortF l).Perm l := srt_perm _ _ (by omega)
theorem cmp_bd {a b : Fr} (ha : a.wt = true) (hb : b.wt = true) : 0 ≤ b.n * a.d ∧ b.n * a.d ≤ 10000 ∧ 0 ≤ a.n * b.d ∧ a.n * b.d ≤ 10000 := by
  obtain ⟨a1, a2, a3, a4, _⟩ := wt_facts ha
  obtain ⟨b1, b2, b3, b4, _⟩ := wt_facts hb
  have h1 : 0 ≤ b.n * a.d := Int.mul_nonneg b3 (by omega)
  have h2 : b.n * a.d ≤ 100 * 100 := Int.mul_le_mul (by omega) a2 (by omega) (by omega)
  have h3 : 0 ≤ a.n * b.d := Int.mul_nonneg a3 (by omega)
  have h4 : a.n * b.d ≤ 100 * 100 := Int.mul_le_mul (by omega) b2 (by omega) (by omega)
  omega
end Go.AL
/- Thresholds made by dice. -/
set_option linter.unusedVariables false
namespace Go.AL
open Go

def sixF : List Fr := [⟨1, 2⟩, ⟨1, 3⟩, ⟨2, 3⟩, ⟨1, 1⟩, ⟨0, 1⟩, ⟨99, 100⟩]
def genF : Nat → Dc → List Fr → List Fr × Dc
  | 0, d, l => (l, d)
  | k + 1, d, l => genF k (d.next 6).2 (l ++ [sixF.getD (d.next 6).1.toNat default])
def oneW : Fr := ⟨1, 1⟩
/-- The lists of weights. -/
def kitW (l : List Fr) (d : Dc) (n : Nat) : List (List Fr) × Dc :=
  let q := d.next n
  let l1 := l.set q.1.toNat oneW
  if 1 < n then
    let r := q.2.next 3
    if r.1 = 0 then
      let l2 := (l1.set 0 oneW).set (n - 1) oneW
      let u := r.2.next ((n : Int) - 1)
      ([l2.take (1 + u.1).toNat, l2.drop (1 + u.1).toNat], u.2)
    else ([l1], r.2)
  else ([l1], q.2)
def kitTh (d : Dc) (n : Nat) : Th × Dc :=
  if n = 0 then (⟨0, []⟩, d) else
    let q := d.next 3
    if 0 < q.1 then
      let r := q.2.next n
      (⟨1 + r.1, []⟩, r.2)
    else
      let g := genF n q.2 []
      let w := kitW g.1 g.2 n
      (⟨0, w.1⟩, w.2)
theorem genF_facts : ∀ (k : Nat) (d : Dc) (l : List Fr), (∀ f ∈ l, f.wt = true) → (genF k d l).1.length = l.length + k ∧ (∀ f ∈ (genF k d l).1, f.wt = true) ∧ (genF k d l).2.l = d.l
  | 0, d, l, h => ⟨rfl, h, rfl⟩
  | k + 1, d, l, h => by
    have hlt := d.next_lt 6 (by omega)
    have hm : sixF.getD (d.next 6).1.toNat default ∈ sixF := by
      have h6 : sixF.length = 6 := rfl
      rw [List.getD_eq_getElem?_getD, List.getElem?_eq_getElem (by omega)]; exact List.getElem_mem _
    have hs : ∀ f ∈ sixF, f.wt = true := by decide
    have := genF_facts k (d.next 6).2 (l ++ [sixF.getD (d.next 6).1.toNat default]) (fun f hf => by
      rcases List.mem_append.1 hf with h1 | h1
      · exact h f h1
      · rw [List.mem_singleton.1 h1]; exact hs _ hm)
    rw [genF]
    refine ⟨by rw [this.1]; simp; omega, this.2.1, by rw [this.2.2, Dc.next_l]⟩
theorem set_wt {l : List Fr} {i : Nat} (h : ∀ f ∈ l, f.wt = true) : ∀ f ∈ l.set i oneW, f.wt = true := fun f hf => by
  rcases List.mem_or_eq_of_mem_set hf with h1 | h1
  · exact h f h1
  · rw [h1]; decide
end Go.AL
namespace Go.AL
open Go
theorem kitW_facts (l : List Fr) (d : Dc) (n : Nat) (h1 : 1 ≤ n) (hl : l.length = n) (hw : ∀ f ∈ l, f.wt = true) :
    (kitW l d n).1.length ≤ 2 ∧ (kitW l d n).1.length ≠ 0 ∧ lensT (kitW l d n).1 = n ∧ (∀ x ∈ (kitW l d n).1, ∀ f ∈ x, f.wt = true) ∧ (kitW l d n).2.l = d.l := by
  unfold kitW
  simp only
  have hset : ∀ (a : Nat), ∀ f ∈ l.set a oneW, f.wt = true := fun a => set_wt hw
  split
  · split
    · have hu := ((d.next (n : Int)).2.next 3).2.next_lt ((n : Int) - 1) (by omega)
      refine ⟨by simp, by simp, ?_, ?_, by simp only [Dc.next_l]⟩
      · simp only [lensT, List.length_take, List.length_drop, List.length_set]; omega
      · intro x hx f hf
        simp only [List.mem_cons, List.not_mem_nil, or_false] at hx
        have hall : ∀ f ∈ (((l.set (d.next (n : Int)).1.toNat oneW).set 0 oneW).set (n - 1) oneW), f.wt = true := set_wt (set_wt (hset _))
        rcases hx with rfl | rfl
        · exact hall f (List.mem_of_mem_take hf)
        · exact hall f (List.mem_of_mem_drop hf)
    · refine ⟨by simp, by simp, by simp [lensT, hl], fun x hx f hf => ?_, by simp only [Dc.next_l]⟩
      rw [List.mem_singleton.1 hx] at hf; exact hset _ f hf
  · refine ⟨by simp, by simp, by simp [lensT, hl], fun x hx f hf => ?_, by simp only [Dc.next_l]⟩
    rw [List.mem_singleton.1 hx] at hf; exact hset _ f hf
theorem kitTh_l (d : Dc) (n : Nat) : (kitTh d n).2.l = d.l := by
  unfold kitTh
  simp only
  split
  · rfl
  · split
    · simp only [Dc.next_l]
    · have h2 := genF_facts n (d.next 3).2 [] (by simp)
      rw [(kitW_facts _ _ n (by omega) (by simpa using h2.1) h2.2.1).2.2.2.2, h2.2.2, Dc.next_l]
theorem kitTh_fit (d : Dc) (n : Nat) (h8 : n ≤ 8) : (kitTh d n).1.Fit := by
  unfold kitTh
  simp only
  split
  · exact ⟨by simp [lensT], by simp, by simp, .inl rfl⟩
  · split
    · exact ⟨by simp [lensT], by simp, by simp, .inr rfl⟩
    · have h2 := genF_facts n (d.next 3).2 [] (by simp)
      have h3 := kitW_facts (genF n (d.next 3).2 []).1 (genF n (d.next 3).2 []).2 n (by omega) (by simpa using h2.1) h2.2.1
      exact ⟨by show lensT (kitW _ _ _).1 ≤ 8; omega, by show (kitW _ _ _).1.length ≤ 8; omega, h3.2.2.2.1, .inl rfl⟩
end Go.AL
/- Sums of weights as parts of one whole. -/
set_option linter.unusedVariables false
namespace Go.AL
open Go

/-- The whole, in parts. -/
def facN : Nat → Nat
  | 0 => 1
  | n + 1 => (n + 1) * facN n
theorem fac_pos : ∀ n, 0 < facN n
  | 0 => by decide
  | n + 1 => Nat.mul_pos (by omega) (fac_pos n)
theorem dvd_fac : ∀ (n d : Nat), 1 ≤ d → d ≤ n → d ∣ facN n
  | 0, d, h1, h2 => by omega
  | n + 1, d, h1, h2 => by
    rw [facN]
    rcases Nat.lt_or_ge n d with h | h
    · obtain rfl : d = n + 1 := by omega
      exact Nat.dvd_mul_right _ _
    · exact Nat.dvd_trans (dvd_fac n d h1 h) (Nat.dvd_mul_left _ _)
theorem exM : ∃ M : Int, 0 < M ∧ ∀ d : Int, 1 ≤ d → d ≤ 100 → d ∣ M := by
  refine ⟨(facN 100 : Nat), by have := fac_pos 100; omega, fun d h1 h2 => ?_⟩
  obtain ⟨e, rfl⟩ : ∃ e : Nat, d = e := ⟨d.toNat, by omega⟩
  exact Int.natCast_dvd_natCast.2 (dvd_fac 100 e (by omega) (by omega))
def vF (M : Int) (f : Fr) : Int := f.n * (M / f.d)
def sV (M : Int) : List Fr → Int
  | [] => 0
  | f :: l => vF M f + sV M l
theorem sV_append (M : Int) : ∀ (a b : List Fr), sV M (a ++ b) = sV M a + sV M b
  | [], b => by simp [sV]
  | f :: a, b => by simp only [List.cons_append, sV, sV_append M a b]; omega
theorem sV_perm (M : Int) {a b : List Fr} (h : a.Perm b) : sV M a = sV M b := by
  induction h with
  | nil => rfl
  | cons x _ ih => simp only [sV, ih]
  | swap x y l => simp only [sV]; omega
  | trans _ _ h1 h2 => rw [h1, h2]
theorem gcd_div {a b : Int} (ha : 0 ≤ a) (hb : 1 ≤ b) : gcdI (a / gcdI a b) (b / gcdI a b) = 1 := by
  obtain ⟨x, rfl⟩ : ∃ x : Nat, a = (x : Int) := ⟨a.toNat, by omega⟩
  obtain ⟨y, rfl⟩ : ∃ y : Nat, b = (y : Int) := ⟨b.toNat, by omega⟩
  unfold gcdI
  simp only [Int.toNat_natCast]
  have h0 : 0 < Nat.gcd x y := Nat.gcd_pos_of_pos_right x (by omega)
  rw [show ((x : Int) / (Nat.gcd x y : Int)).toNat = x / Nat.gcd x y by rw [← Int.natCast_ediv]; rfl, show ((y : Int) / (Nat.gcd x y : Int)).toNat = y / Nat.gcd x y by rw [← Int.natCast_ediv]; rfl]
  rw [Nat.gcd_div (Nat.gcd_dvd_left x y) (Nat.gcd_dvd_right x y), Nat.div_self h0]; rfl
section
variable {M : Int} (hM : 0 < M) (hd : ∀ d : Int, 1 ≤ d → d ≤ 100 → d ∣ M)
include hM hd
theorem vF_mul {f : Fr} (hf : f.wt = true) : vF M f * f.d = f.n * M ∧ 0 ≤ vF M f ∧ vF M f ≤ M := by
  obtain ⟨h1, h2, h3, h4, _⟩ := wt_facts hf
  obtain ⟨k, hk⟩ := hd f.d h1 h2
  have e : M / f.d = k := by rw [hk]; exact Int.mul_ediv_cancel_left _ (by omega)
  have hk0 : 0 < k := by
    rcases Int.lt_or_le 0 k with h | h
    · exact h
    · have : f.d * k ≤ f.d * 0 := Int.mul_le_mul_of_nonneg_left h (by omega)
      rw [Int.mul_zero] at this; omega
  unfold vF
  rw [e]
  refine ⟨by rw [hk, Int.mul_assoc, Int.mul_comm k], Int.mul_nonneg h3 (by omega), ?_⟩
  rw [hk]; exact Int.mul_le_mul_of_nonneg_right h4 (by omega)
/-- What a sum says. -/
structure SumOK (M : Int) (s : Fr) (v : Int) : Prop where
  eq : s.n * M = s.d * v
  low : gcdI s.n s.d = 1
  pos : 1 ≤ s.d
  nn : 0 ≤ s.n
theorem add_ok {s f : Fr} {v : Int} (hs : SumOK M s v) (hf : f.wt = true) : SumOK M (addF s f) (v + vF M f) := by
  obtain ⟨e, lo, p, nn⟩ := hs
  obtain ⟨h1, h2, h3, h4, _⟩ := wt_facts hf
  obtain ⟨hv, _, _⟩ := vF_mul hM hd hf
  have a1 : 0 ≤ s.n * f.d + f.n * s.d := Int.add_nonneg (Int.mul_nonneg nn (by omega)) (Int.mul_nonneg h3 (by omega))
  have a2 : 1 ≤ s.d * f.d := by
    have := Int.mul_le_mul p h1 (by omega) (by omega)
    omega
  have hg := gcdI_facts a1 a2
  have hlow := gcd_div a1 a2
  have key : (s.n * f.d + f.n * s.d) * M = (s.d * f.d) * (v + vF M f) := by
    have e1 : s.n * f.d * M = s.d * f.d * v := by
      rw [Int.mul_right_comm, e]; simp only [Int.mul_assoc, Int.mul_comm f.d]
    have e2 : f.n * s.d * M = s.d * f.d * vF M f := by
      rw [Int.mul_right_comm, ← hv]; simp only [Int.mul_assoc, Int.mul_comm, Int.mul_left_comm]
    rw [Int.add_mul, e1, e2, Int.mul_add]
  unfold addF
  generalize s.n * f.d + f.n * s.d = a at *
  generalize s.d * f.d = b at *
  generalize v + vF M f = w at *
  generalize gcdI a b = g at *
  obtain ⟨g1, g2, ⟨a', rfl⟩, ⟨b', rfl⟩⟩ := hg
  have q1 : g * a' / g = a' := Int.mul_ediv_cancel_left _ (by omega)
  have q2 : g * b' / g = b' := Int.mul_ediv_cancel_left _ (by omega)
  rw [q1, q2] at hlow ⊢
  refine ⟨?_, hlow, ?_, ?_⟩
  · rw [Int.mul_assoc, Int.mul_assoc] at key
    exact Int.eq_of_mul_eq_mul_left (by omega) key
  · rcases Int.lt_or_le 0 b' with h | h
    · exact h
    · have : g * b' ≤ g * 0 := Int.mul_le_mul_of_nonneg_left h (by omega)
      rw [Int.mul_zero] at this; omega
  · rcases Int.lt_or_le a' 0 with h | h
    · have : g * a' < g * 0 := Int.mul_lt_mul_of_pos_left h (by omega)
      rw [Int.mul_zero] at this; omega
    · exact h
theorem tot_ok : ∀ (l : List Fr) (s : Fr) (v : Int), SumOK M s v → (∀ f ∈ l, f.wt = true) → SumOK M (l.foldl addF s) (v + sV M l)
  | [], s, v, hs, _ => by simpa [sV] using hs
  | f :: l, s, v, hs, hw => by
    have := tot_ok l (addF s f) (v + vF M f) (add_ok hM hd hs (hw f (by simp))) fun x hx => hw x (List.mem_cons_of_mem _ hx)
    rw [List.foldl_cons, sV, ← Int.add_assoc]; exact this
theorem totF_ok (l : List Fr) (hw : ∀ f ∈ l, f.wt = true) : SumOK M (totF l) (sV M l) := by
  have := tot_ok hM hd l ⟨0, 1⟩ 0 ⟨by simp, by decide, by decide, by decide⟩ hw
  rwa [Int.zero_add] at this
theorem whole_iff (l : List Fr) (hw : ∀ f ∈ l, f.wt = true) : wholeF l = decide (M ≤ sV M l) := by
  obtain ⟨e, lo, p, nn⟩ := totF_ok hM hd l hw
  unfold wholeF
  refine decide_eq_decide.2 ⟨fun h => ?_, fun h => ?_⟩
  · have : (totF l).d * M ≤ (totF l).d * sV M l := by rw [← e]; exact Int.mul_le_mul_of_nonneg_right h (by omega)
    exact Int.le_of_mul_le_mul_left this (by omega)
  · have : (totF l).d * M ≤ (totF l).n * M := by rw [e]; exact Int.mul_le_mul_of_nonneg_left h (by omega)
    exact Int.le_of_mul_le_mul_right this hM
end
theorem sumOK_uniq {M : Int} (hM : 0 < M) {s t : Fr} {v : Int} (hs : SumOK M s v) (ht : SumOK M t v) : s = t := by
  obtain ⟨e1, l1, p1, n1⟩ := hs
  obtain ⟨e2, l2, p2, n2⟩ := ht
  have hx : s.n * t.d = t.n * s.d := by
    have : (s.n * t.d) * M = (t.n * s.d) * M := by
      rw [Int.mul_right_comm, e1, Int.mul_right_comm t.n, e2]; simp only [Int.mul_assoc, Int.mul_comm, Int.mul_left_comm]
    exact Int.eq_of_mul_eq_mul_right (by omega) this
  obtain ⟨sn, sd⟩ := s
  obtain ⟨tn, td⟩ := t
  simp only at *
  obtain ⟨a, rfl⟩ : ∃ x : Nat, sn = (x : Int) := ⟨sn.toNat, by omega⟩
  obtain ⟨b, rfl⟩ : ∃ x : Nat, sd = (x : Int) := ⟨sd.toNat, by omega⟩
  obtain ⟨c, rfl⟩ : ∃ x : Nat, tn = (x : Int) := ⟨tn.toNat, by omega⟩
  obtain ⟨d, rfl⟩ : ∃ x : Nat, td = (x : Int) := ⟨td.toNat, by omega⟩
  have hx : a * d = c * b := by exact_mod_cast hx
  unfold gcdI at l1 l2
  simp only [Int.toNat_natCast] at l1 l2
  have c1 : Nat.Coprime a b := by show Nat.gcd a b = 1; omega
  have c2 : Nat.Coprime c d := by show Nat.gcd c d = 1; omega
  have d1 : b ∣ d := c1.symm.dvd_of_dvd_mul_left ⟨c, by rw [hx, Nat.mul_comm]⟩
  have d2 : d ∣ b := c2.symm.dvd_of_dvd_mul_left ⟨a, by rw [← hx, Nat.mul_comm]⟩
  have hbd : b = d := Nat.dvd_antisymm d1 d2
  subst hbd
  have hac : a = c := Nat.eq_of_mul_eq_mul_right (by omega) hx
  rw [hac]
theorem tot_perm {a b : List Fr} (h : a.Perm b) (hw : ∀ f ∈ a, f.wt = true) : totF a = totF b := by
  obtain ⟨M, hM, hd⟩ := exM
  have h1 := totF_ok hM hd a hw
  have h2 := totF_ok hM hd b fun f hf => hw f (h.mem_iff.2 hf)
  rw [← sV_perm M h] at h2
  exact sumOK_uniq hM h1 h2
end Go.AL
/- Several lists of weights: the plain law. -/
set_option linter.unusedVariables false
namespace Go.AL
open Go

/-- So many of the greatest weights are enough. -/
def IsLeast (l : List Fr) (k : Nat) : Prop := k ≤ l.length ∧ wholeF ((sortF l).take k) = true ∧ ∀ m, m < k → wholeF ((sortF l).take m) = false
def leastK (p : Nat → Bool) : Nat → Nat → Nat
  | 0, k => k
  | c + 1, k => if p k then k else leastK p c (k + 1)
theorem leastK_is (p : Nat → Bool) : ∀ (c k : Nat), p (k + c) = true → k ≤ leastK p c k ∧ leastK p c k ≤ k + c ∧ p (leastK p c k) = true ∧ ∀ m, k ≤ m → m < leastK p c k → p m = false
  | 0, k, h => ⟨Nat.le_refl _, Nat.le_refl _, h, fun m h1 h2 => by rw [leastK] at h2; omega⟩
  | c + 1, k, h => by
    rw [leastK]
    cases hp : p k with
    | true => simp only [if_true]; exact ⟨Nat.le_refl _, by omega, hp, fun m h1 h2 => by omega⟩
    | false =>
      simp only [Bool.false_eq_true, if_false]
      obtain ⟨h1, h2, h3, h4⟩ := leastK_is p c (k + 1) (by rw [show k + 1 + c = k + (c + 1) by omega]; exact h)
      refine ⟨by omega, by omega, h3, fun m q1 q2 => ?_⟩
      rcases Nat.lt_or_ge k m with h | h
      · exact h4 m (by omega) q2
      · obtain rfl : m = k := by omega
        exact hp
theorem leastK_le (p : Nat → Bool) : ∀ (c k : Nat), leastK p c k ≤ k + c
  | 0, k => Nat.le_refl _
  | c + 1, k => by
    rw [leastK]; split
    · omega
    · have := leastK_le p c (k + 1); omega
/-- The fewest of the greatest weights that are enough. -/
def leastG (l : List Fr) : Nat := leastK (fun k => wholeF ((sortF l).take k)) l.length 0
theorem leastG_le (l : List Fr) : leastG l ≤ l.length := by
  have := leastK_le (fun k => wholeF ((sortF l).take k)) l.length 0
  unfold leastG; omega
theorem whole_perm {a b : List Fr} (h : a.Perm b) (hw : ∀ f ∈ a, f.wt = true) : wholeF a = wholeF b := by
  unfold wholeF; rw [tot_perm h hw]
theorem leastG_is (l : List Fr) (hw : ∀ f ∈ l, f.wt = true) (h1 : wholeF l = true) : IsLeast l (leastG l) := by
  have hp := sort_perm l
  obtain ⟨_, q2, q3, q4⟩ := leastK_is (fun k => wholeF ((sortF l).take k)) l.length 0 (by
    show wholeF ((sortF l).take (0 + l.length)) = true
    rw [Nat.zero_add, List.take_of_length_le (by rw [hp.length_eq]; omega), whole_perm hp fun f hf => hw f (hp.mem_iff.1 hf)]
    exact h1)
  exact ⟨leastG_le l, q3, fun m hm => q4 m (by omega) hm⟩
theorem sV_nn {M : Int} (hM : 0 < M) (hd : ∀ d : Int, 1 ≤ d → d ≤ 100 → d ∣ M) : ∀ (l : List Fr), (∀ f ∈ l, f.wt = true) → 0 ≤ sV M l
  | [], _ => by simp [sV]
  | f :: l, h => by
    have h1 := (vF_mul hM hd (h f (by simp))).2.1
    have h2 := sV_nn hM hd l fun x hx => h x (List.mem_cons_of_mem _ hx)
    rw [sV]; omega
theorem mem_ks (s : List Int) (x : Int) : x ∈ ksF s ↔ x ∈ s ∧ 0 ≤ x ∧ x < 8 := by
  have key : ∀ (l acc : List Int), x ∈ l.foldl insK acc ↔ (x ∈ acc ∨ (x ∈ l ∧ 0 ≤ x ∧ x < 8)) := by
    intro l
    induction l with
    | nil => intro acc; simp
    | cons y l ih =>
      intro acc
      rw [List.foldl_cons, ih]
      have hi : x ∈ insK acc y ↔ (x ∈ acc ∨ (x = y ∧ 0 ≤ x ∧ x < 8)) := by
        unfold insK
        split
        · rename_i hy
          rw [List.mem_append, List.mem_singleton]
          constructor
          · rintro (h | rfl)
            · exact .inl h
            · exact .inr ⟨rfl, hy.1.1, hy.1.2⟩
          · rintro (h | ⟨rfl, _⟩)
            · exact .inl h
            · exact .inr rfl
        · rename_i hy
          constructor
          · exact .inl
          · rintro (h | ⟨rfl, h1, h2⟩)
            · exact h
            · exact Decidable.byContradiction fun hn => hy ⟨⟨h1, h2⟩, hn⟩
      rw [hi, List.mem_cons]
      constructor
      · rintro ((h | ⟨h1, h2⟩) | ⟨h1, h2⟩)
        · exact .inl h
        · exact .inr ⟨.inl h1, h2⟩
        · exact .inr ⟨.inr h1, h2⟩
      · rintro (h | ⟨h1 | h1, h2⟩)
        · exact .inl (.inl h)
        · exact .inl (.inr ⟨h1, h2⟩)
        · exact .inr ⟨h1, h2⟩
  have := key s []
  unfold ksF
  simpa using this
theorem have_congr {p q : Nat → Bool} : ∀ (l : List Fr) (k k' : Nat), (∀ i, i < l.length → p (k + i) = q (k' + i)) → haveF p l k = haveF q l k'
  | [], k, k', h => rfl
  | f :: l, k, k', h => by
    have h0 := h 0 (by simp)
    have := have_congr (p := p) (q := q) l (k + 1) (k' + 1) fun i hi => by
      have := h (i + 1) (by simp only [List.length_cons]; omega)
      rwa [show k + 1 + i = k + (i + 1) by omega, show k' + 1 + i = k' + (i + 1) by omega]
    rw [haveF, haveF, this]
    simp only [Nat.add_zero] at h0
    rw [h0]
end Go.AL
/- Sums of weights: lowest terms, and that they grow. -/
set_option linter.unusedVariables false
namespace Go.AL
open Go

theorem take_sV {M : Int} (hM : 0 < M) (hd : ∀ d : Int, 1 ≤ d → d ≤ 100 → d ∣ M) (l : List Fr) (hw : ∀ f ∈ l, f.wt = true) (k : Nat) : sV M (l.take k) ≤ sV M l := by
  have h1 := sV_append M (l.take k) (l.drop k)
  rw [List.take_append_drop] at h1
  have h2 := sV_nn hM hd (l.drop k) fun f hf => hw f (List.mem_of_mem_drop hf)
  omega
end Go.AL
/- What is sorted stands in falling order; the greatest weights. -/
set_option linter.unusedVariables false
namespace Go.AL
open Go

theorem swp_get (l : List Fr) (j k : Nat) (hj : 1 ≤ j) (hl : j < l.length) : (swp l j).getD k default = if k = j - 1 then l.getD j default else if k = j then l.getD (j - 1) default else l.getD k default := by
  unfold swp
  simp only [List.getD_eq_getElem?_getD, List.getElem?_set, List.length_set]
  by_cases h1 : j - 1 = k
  · rw [if_pos h1, if_pos (show k = j - 1 by omega), if_pos (by omega)]; rfl
  · rw [if_neg h1, if_neg (show ¬ k = j - 1 by omega)]
    by_cases h2 : j = k
    · rw [if_pos h2, if_pos (show k = j by omega), if_pos (by omega)]; rfl
    · rw [if_neg h2, if_neg (show ¬ k = j by omega)]
/-- Of what falls, the first ones are the greatest. -/
theorem sub_le {M : Int} {S y : List Fr} (h : S.Sublist y) : (∀ f ∈ y, f.wt = true) → y.Pairwise (fun a b => vF M b ≤ vF M a) → sV M S ≤ sV M (y.take S.length) := by
  induction h with
  | slnil => intro _ _; exact Int.le_refl _
  | @cons S y a h ih =>
    intro hw hp
    rw [List.pairwise_cons] at hp
    have ih := ih (fun f hf => hw f (List.mem_cons_of_mem _ hf)) hp.2
    have hl := h.length_le
    cases hS : S.length with
    | zero => rw [List.length_eq_zero_iff.1 hS]; simp [sV]
    | succ k =>
      rw [hS] at ih hl
      rw [List.take_succ_cons, sV]
      rw [List.take_add_one, sV_append, List.getElem?_eq_getElem (show k < y.length by omega)] at ih
      have := hp.1 _ (List.getElem_mem (show k < y.length by omega))
      simp only [Option.toList_some, sV] at ih
      omega
  | @cons_cons S y a h ih =>
    intro hw hp
    rw [List.pairwise_cons] at hp
    have ih := ih (fun f hf => hw f (List.mem_cons_of_mem _ hf)) hp.2
    rw [List.length_cons, List.take_succ_cons, sV, sV]
    omega
section
variable {M : Int} (hM : 0 < M) (hd : ∀ d : Int, 1 ≤ d → d ≤ 100 → d ∣ M)
include hM hd
theorem cmp_lt {a b : Fr} (ha : a.wt = true) (hb : b.wt = true) : cmpF a b < 0 ↔ vF M b < vF M a := by
  obtain ⟨a1, _, _⟩ := vF_mul hM hd ha
  obtain ⟨b1, _, _⟩ := vF_mul hM hd hb
  obtain ⟨p1, _⟩ := wt_facts ha
  obtain ⟨p2, _⟩ := wt_facts hb
  have pd : 0 < a.d * b.d := Int.mul_pos (by omega) (by omega)
  have ea : vF M a * (a.d * b.d) = a.n * b.d * M := by rw [← Int.mul_assoc, a1]; exact Int.mul_right_comm ..
  have eb : vF M b * (a.d * b.d) = b.n * a.d * M := by rw [Int.mul_comm a.d, ← Int.mul_assoc, b1]; exact Int.mul_right_comm ..
  unfold cmpF
  constructor
  · intro h
    have h1 : b.n * a.d * M < a.n * b.d * M := Int.mul_lt_mul_of_pos_right (by omega) hM
    rw [← ea, ← eb] at h1
    exact Int.lt_of_mul_lt_mul_right h1 (by omega)
  · intro h
    have h1 : vF M b * (a.d * b.d) < vF M a * (a.d * b.d) := Int.mul_lt_mul_of_pos_right h pd
    rw [ea, eb] at h1
    have := Int.lt_of_mul_lt_mul_right h1 (by omega)
    omega
theorem bub_inv {i : Nat} : ∀ (j : Nat) (l : List Fr), j ≤ i → i < l.length → (∀ f ∈ l, f.wt = true) → (∀ a b, a < b → b ≤ i → b ≠ j → vF M (l.getD b default) ≤ vF M (l.getD a default)) →
    ∀ a b, a < b → b ≤ i → vF M ((bub j l).getD b default) ≤ vF M ((bub j l).getD a default)
  | 0, l, _, _, _, H, a, b, h1, h2 => by
    rw [bub]; exact H a b h1 h2 (by omega)
  | j + 1, l, hj, hi, hw, H, a, b, h1, h2 => by
    have mem : ∀ k, k < l.length → l.getD k default ∈ l := fun k hk => by
      rw [List.getD_eq_getElem?_getD, List.getElem?_eq_getElem hk]; exact List.getElem_mem _
    have hc := cmp_lt hM hd (hw _ (mem (j + 1) (by omega))) (hw _ (mem j (by omega)))
    rw [bub]
    by_cases hlt : cmpF (l.getD (j + 1) default) (l.getD j default) < 0
    · rw [if_pos hlt]
      have hv := hc.1 hlt
      have hp := swp_perm l (j + 1) (by omega)
      refine bub_inv j (swp l (j + 1)) (by omega) (by rw [hp.length_eq]; exact hi) (fun f hf => hw f (hp.mem_iff.1 hf)) (fun x y q1 q2 q3 => ?_) a b h1 h2
      rw [swp_get l (j + 1) x (by omega) (by omega), swp_get l (j + 1) y (by omega) (by omega)]
      simp only [Nat.add_sub_cancel]
      rw [if_neg q3]
      by_cases y1 : y = j + 1
      · rw [if_pos y1]
        by_cases x1 : x = j
        · rw [if_pos x1]; omega
        · rw [if_neg x1, if_neg (by omega)]; exact H x j (by omega) (by omega) (by omega)
      · rw [if_neg y1]
        by_cases x1 : x = j
        · rw [if_pos x1]; exact H (j + 1) y (by omega) q2 y1
        · rw [if_neg x1]
          by_cases x2 : x = j + 1
          · rw [if_pos x2]; exact H j y (by omega) q2 y1
          · rw [if_neg x2]; exact H x y q1 q2 y1
    · rw [if_neg hlt]
      have hv : vF M (l.getD (j + 1) default) ≤ vF M (l.getD j default) := by
        rcases Int.lt_or_le (vF M (l.getD j default)) (vF M (l.getD (j + 1) default)) with h | h
        · exact absurd (hc.2 h) hlt
        · exact h
      by_cases hb : b = j + 1
      · subst hb
        by_cases ha : a = j
        · rw [ha]; exact hv
        · exact Int.le_trans hv (H a j (by omega) (by omega) (by omega))
      · exact H a b h1 h2 hb
theorem srt_inv : ∀ (k : Nat) (l : List Fr), k + 1 ≤ l.length → (∀ f ∈ l, f.wt = true) → (∀ a b, a < b → b < l.length - k → vF M (l.getD b default) ≤ vF M (l.getD a default)) →
    ∀ a b, a < b → b < l.length → vF M ((srt k l).getD b default) ≤ vF M ((srt k l).getD a default)
  | 0, l, _, _, H, a, b, h1, h2 => by rw [srt]; exact H a b h1 (by omega)
  | k + 1, l, hk, hw, H, a, b, h1, h2 => by
    rw [srt]
    have hp := bub_perm (l.length - (k + 1)) l (by omega)
    refine srt_inv k _ (by rw [hp.length_eq]; omega) (fun f hf => hw f (hp.mem_iff.1 hf)) (fun x y q1 q2 => ?_) a b h1 (by rw [hp.length_eq]; exact h2)
    rw [hp.length_eq] at q2
    exact bub_inv hM hd (i := l.length - (k + 1)) (l.length - (k + 1)) l (Nat.le_refl _) (by omega) hw (fun x y q1 q2 q3 => H x y q1 (by omega)) x y q1 (by omega)
theorem sort_inv (l : List Fr) (hw : ∀ f ∈ l, f.wt = true) : ∀ a b, a < b → b < l.length → vF M ((sortF l).getD b default) ≤ vF M ((sortF l).getD a default) := by
  intro a b h1 h2
  exact srt_inv hM hd (l.length - 1) l (by omega) hw (fun x y q1 q2 => by omega) a b h1 h2
theorem sort_pair (l : List Fr) (hw : ∀ f ∈ l, f.wt = true) : (sortF l).Pairwise (fun a b => vF M b ≤ vF M a) := by
  have hl := (sort_perm l).length_eq
  rw [List.pairwise_iff_getElem]
  intro i j hi hj hij
  have := sort_inv hM hd l hw i j hij (by omega)
  rwa [List.getD_eq_getElem?_getD, List.getD_eq_getElem?_getD, List.getElem?_eq_getElem hi, List.getElem?_eq_getElem hj] at this
end
/-- What is enough has as many weights as the fewest. -/
theorem least_sub {l S : List Fr} (hw : ∀ f ∈ l, f.wt = true) (hS : S.Sublist l) (h1 : wholeF S = true) : leastG l ≤ S.length := by
  obtain ⟨M, hM, hd⟩ := exM
  obtain ⟨S', p1, p2⟩ := List.exists_perm_sublist hS (sort_perm l).symm
  have hy : ∀ f ∈ sortF l, f.wt = true := fun f hf => hw f ((sort_perm l).mem_iff.1 hf)
  have h2 := sub_le p2 hy (sort_pair hM hd l hw)
  have hSw : ∀ f ∈ S, f.wt = true := fun f hf => hw f (hS.subset hf)
  rw [whole_iff hM hd S hSw] at h1
  have h1 := of_decide_eq_true h1
  rw [← sV_perm M p1] at h1
  rcases Nat.lt_or_ge S.length (leastG l) with h | h
  · exfalso
    have h3 := leastG_le l
    have hk : wholeF ((sortF l).take S.length) = true := by
      rw [whole_iff hM hd _ fun f hf => hy f (List.mem_of_mem_take hf)]
      rw [p1.length_eq] at h2
      exact decide_eq_true (by omega)
    have hall : wholeF l = true := by
      rw [whole_iff hM hd l hw]
      have e := take_sV hM hd (sortF l) hy S.length
      rw [sV_perm M (sort_perm l)] at e
      rw [whole_iff hM hd _ fun f hf => hy f (List.mem_of_mem_take hf)] at hk
      have := of_decide_eq_true hk
      exact decide_eq_true (by omega)
    have := (leastG_is l hw hall).2.2 S.length h
    rw [hk] at this; cases this
  · exact h
end Go.AL
namespace Go.AL
open Go
def leastSum (g : List Fr → Nat) : List (List Fr) → Nat
  | [] => 0
  | l :: r => g l + leastSum g r
theorem have_sublist (p : Nat → Bool) : ∀ (l : List Fr) (k : Nat), (haveF p l k).Sublist l
  | [], k => .slnil
  | x :: l, k => by
    rw [haveF]
    split
    · exact (have_sublist p l (k + 1)).cons_cons x
    · exact (have_sublist p l (k + 1)).cons x
theorem have_len (p : Nat → Bool) : ∀ (l : List Fr) (k : Nat), (haveF p l k).length = ((List.range' k l.length).filter p).length
  | [], k => rfl
  | x :: l, k => by
    have := have_len p l (k + 1)
    rw [haveF, List.length_cons, List.range'_succ, List.filter_cons]
    cases hp : p k with
    | true => simp only [if_true, List.length_cons, this]
    | false => simp only [Bool.false_eq_true, if_false, this]
theorem enough_least (p : Nat → Bool) : ∀ (w : List (List Fr)) (k : Nat), (∀ l ∈ w, ∀ f ∈ l, f.wt = true) → enoughW p w k = true → leastSum leastG w ≤ ((List.range' k (lensT w)).filter p).length
  | [], k, _, _ => Nat.zero_le _
  | l :: r, k, hw, h => by
    rw [enoughW, Bool.and_eq_true] at h
    have h1 := least_sub (hw l (by simp)) (have_sublist p l k) h.1
    have h2 := enough_least p r (k + l.length) (fun x hx => hw x (List.mem_cons_of_mem _ hx)) h.2
    rw [have_len] at h1
    rw [leastSum, lensT, ← List.range'_append_1, List.filter_append, List.length_append]
    omega
theorem pick_sub {S l : List Fr} (h : S.Sublist l) : ∀ k : Nat, ∃ p : Nat → Bool, haveF p l k = S := by
  induction h with
  | slnil => intro k; exact ⟨fun _ => true, rfl⟩
  | @cons S l a h ih =>
    intro k
    obtain ⟨p, hp⟩ := ih (k + 1)
    refine ⟨fun x => if x = k then false else p x, ?_⟩
    rw [haveF]
    simp only [if_true, Bool.false_eq_true, if_false]
    rw [← hp]
    exact have_congr l (k + 1) (k + 1) fun i hi => if_neg (by omega)
  | @cons_cons S l a h ih =>
    intro k
    obtain ⟨p, hp⟩ := ih (k + 1)
    refine ⟨fun x => if x = k then true else p x, ?_⟩
    rw [haveF]
    simp only [if_true]
    rw [← hp]
    exact congrArg (a :: ·) (have_congr l (k + 1) (k + 1) fun i hi => if_neg (by omega))
/-- A set of the fewest keys that is enough. -/
theorem least_found : ∀ (w : List (List Fr)) (k : Nat), (∀ l ∈ w, (∀ f ∈ l, f.wt = true) ∧ wholeF l = true) → ∃ p : Nat → Bool, enoughW p w k = true ∧ ((List.range' k (lensT w)).filter p).length = leastSum leastG w
  | [], k, _ => ⟨fun _ => true, rfl, rfl⟩
  | l :: r, k, hw => by
    obtain ⟨p2, e2, n2⟩ := least_found r (k + l.length) fun x hx => hw x (List.mem_cons_of_mem _ hx)
    obtain ⟨w1, w2⟩ := hw l (by simp)
    have hl := leastG_is l w1 w2
    obtain ⟨S, s1, s2⟩ := List.exists_perm_sublist (List.take_sublist (leastG l) (sortF l)) (sort_perm l)
    obtain ⟨p1, hp1⟩ := pick_sub s2 k
    have hS : wholeF S = true := by
      rw [whole_perm s1 fun f hf => w1 f (s2.subset hf)]; exact hl.2.1
    have hSl : S.length = leastG l := by rw [s1.length_eq, List.length_take, (sort_perm l).length_eq]; have := hl.1; omega
    refine ⟨fun x => if x < k + l.length then p1 x else p2 x, ?_, ?_⟩
    · rw [enoughW, Bool.and_eq_true]
      constructor
      · rw [have_congr (q := p1) l k k fun i hi => if_pos (by omega), hp1]; exact hS
      · have key : ∀ (w : List (List Fr)) (j : Nat), k + l.length ≤ j → enoughW (fun x => if x < k + l.length then p1 x else p2 x) w j = enoughW p2 w j := by
          intro w
          induction w with
          | nil => intro j hj; rfl
          | cons x w ih =>
            intro j hj
            rw [enoughW, enoughW, ih _ (by omega), have_congr (q := p2) x j j fun i hi => if_neg (by omega)]
        rw [key r _ (Nat.le_refl _)]; exact e2
    · rw [leastSum, lensT, ← List.range'_append_1, List.filter_append, List.length_append]
      have a1 : ((List.range' k l.length).filter fun x => if x < k + l.length then p1 x else p2 x) = (List.range' k l.length).filter p1 := List.filter_congr fun x hx => by
        have := List.mem_range'_1.1 hx
        exact if_pos (by omega)
      have a2 : ((List.range' (k + l.length) (lensT r)).filter fun x => if x < k + l.length then p1 x else p2 x) = (List.range' (k + l.length) (lensT r)).filter p2 := List.filter_congr fun x hx => by
        have := List.mem_range'_1.1 hx
        exact if_neg (by omega)
      rw [a1, a2, n2, ← have_len, hp1, hSl]
end Go.AL
/- Sets of keys as masks: the plain law of ThresholdGrows. -/
set_option linter.unusedVariables false
namespace Go.AL
open Go

theorem mask_exists (p : Nat → Bool) : ∀ n, ∃ m, m < 2 ^ n ∧ ∀ k, k < n → m.testBit k = p k
  | 0 => ⟨0, by simp, fun k hk => by omega⟩
  | n + 1 => by
    obtain ⟨m, h1, h2⟩ := mask_exists p n
    have hp : 2 ^ (n + 1) = 2 * 2 ^ n := by rw [Nat.pow_succ]; omega
    cases hpn : p n with
    | true =>
      refine ⟨2 ^ n + m, by omega, fun k hk => ?_⟩
      rcases Nat.lt_or_ge k n with h | h
      · rw [Nat.testBit_two_pow_add_gt h]; exact h2 k h
      · obtain rfl : k = n := by omega
        rw [Nat.testBit_two_pow_add_eq, Nat.testBit_lt_two_pow h1, hpn]; rfl
    | false =>
      refine ⟨m, by omega, fun k hk => ?_⟩
      rcases Nat.lt_or_ge k n with h | h
      · exact h2 k h
      · obtain rfl : k = n := by omega
        rw [Nat.testBit_lt_two_pow h1, hpn]
/-- The keys of a mask. -/
def setB (m n : Nat) : List Int := ((List.range n).filter fun k => m.testBit k).map fun k : Nat => (k : Int)
theorem mem_setB (m n k : Nat) : (k : Int) ∈ setB m n ↔ k < n ∧ m.testBit k = true := by
  unfold setB
  simp only [List.mem_map, List.mem_filter, List.mem_range]
  constructor
  · rintro ⟨x, h, e⟩
    obtain rfl : x = k := by omega
    exact h
  · intro h; exact ⟨k, h, rfl⟩
theorem inK_setB {m n k : Nat} (hn : n ≤ 8) (hk : k < n) : inK (ksF (setB m n)) k = m.testBit k := by
  unfold inK
  rw [Bool.eq_iff_iff, decide_eq_true_eq, mem_ks, mem_setB]
  exact ⟨fun h => h.1.2, fun h => ⟨⟨hk, h⟩, by omega, by omega⟩⟩
theorem enoughW_congr {p q : Nat → Bool} : ∀ (w : List (List Fr)) (k : Nat), (∀ i, k ≤ i → i < k + lensT w → p i = q i) → enoughW p w k = enoughW q w k
  | [], k, _ => rfl
  | l :: r, k, h => by
    simp only [lensT] at h
    rw [enoughW, enoughW, enoughW_congr r (k + l.length) fun i h1 h2 => h i (by omega) (by omega), have_congr l k k fun i hi => h (k + i) (by omega) (by omega)]
/-- More keys are enough too. -/
theorem have_mono {M : Int} (hM : 0 < M) (hd : ∀ d : Int, 1 ≤ d → d ≤ 100 → d ∣ M) {p q : Nat → Bool} (hpq : ∀ i, p i = true → q i = true) : ∀ (l : List Fr) (k : Nat), (∀ f ∈ l, f.wt = true) → sV M (haveF p l k) ≤ sV M (haveF q l k)
  | [], k, _ => Int.le_refl _
  | x :: l, k, hw => by
    have ih := have_mono hM hd hpq l (k + 1) fun f hf => hw f (List.mem_cons_of_mem _ hf)
    have hx := (vF_mul hM hd (hw x (by simp))).2.1
    rw [haveF, haveF]
    cases hp : p k with
    | true => rw [hpq k hp]; simp only [if_true, sV]; omega
    | false =>
      simp only [Bool.false_eq_true, if_false]
      split
      · rw [sV]; omega
      · exact ih
theorem enough_mono {p q : Nat → Bool} (hpq : ∀ i, p i = true → q i = true) : ∀ (w : List (List Fr)) (k : Nat), (∀ l ∈ w, ∀ f ∈ l, f.wt = true) → enoughW p w k = true → enoughW q w k = true
  | [], k, _, _ => rfl
  | l :: r, k, hw, h => by
    obtain ⟨M, hM, hd⟩ := exM
    rw [enoughW, Bool.and_eq_true] at h ⊢
    refine ⟨?_, enough_mono hpq r _ (fun x hx => hw x (List.mem_cons_of_mem _ hx)) h.2⟩
    have w1 : ∀ p : Nat → Bool, ∀ f ∈ haveF p l k, f.wt = true := fun p f hf => hw l (by simp) f ((have_sub p l k).2 f hf)
    have h1 := h.1
    rw [whole_iff hM hd _ (w1 p)] at h1
    rw [whole_iff hM hd _ (w1 q)]
    have h1 := of_decide_eq_true h1
    have h2 := have_mono hM hd hpq l k (hw l (by simp))
    exact decide_eq_true (by omega)
theorem have_all (l : List Fr) : ∀ (p : Nat → Bool) (k : Nat), (∀ i, k ≤ i → i < k + l.length → p i = true) → haveF p l k = l := by
  induction l with
  | nil => intro p k _; rfl
  | cons x l ih =>
    intro p k h
    simp only [List.length_cons] at h
    rw [haveF, h k (by omega) (by omega), if_pos rfl, ih p (k + 1) fun i h1 h2 => h i (by omega) (by omega)]
theorem enough_all : ∀ (w : List (List Fr)) (p : Nat → Bool) (k : Nat), (∀ i, k ≤ i → i < k + lensT w → p i = true) → (∀ l ∈ w, wholeF l = true) → enoughW p w k = true
  | [], p, k, _, _ => rfl
  | l :: r, p, k, h, hw => by
    simp only [lensT] at h
    rw [enoughW, have_all l p k fun i h1 h2 => h i h1 (by omega), hw l (by simp), enough_all r p (k + l.length) (fun i h1 h2 => h i (by omega) (by omega)) fun x hx => hw x (List.mem_cons_of_mem _ hx)]; rfl
end Go.AL
namespace Go.AL
open Go
end Go.AL
namespace Go.AL
open Go
theorem ks_nodup (s : List Int) (hn : s.Nodup) (hr : ∀ x ∈ s, 0 ≤ x ∧ x < 8) : ksF s = s := by
  have key : ∀ (l acc : List Int), (acc ++ l).Nodup → (∀ x ∈ l, 0 ≤ x ∧ x < 8) → l.foldl insK acc = acc ++ l := by
    intro l
    induction l with
    | nil => intro acc _ _; simp
    | cons y l ih =>
      intro acc h1 h2
      have hy : insK acc y = acc ++ [y] := by
        unfold insK
        rw [if_pos ⟨h2 y (by simp), fun hm => by
          have := (List.nodup_append.1 h1).2.2 y hm y (by simp)
          exact this rfl⟩]
      rw [List.foldl_cons, hy, ih _ (by simpa using h1) fun x hx => h2 x (List.mem_cons_of_mem _ hx)]
      simp
  have := key s [] (by simpa using hn) hr
  simpa [ksF] using this
theorem cast_nodup {l : List Nat} (h : l.Nodup) : (l.map fun k : Nat => (k : Int)).Nodup := by
  unfold List.Nodup at *
  rw [List.pairwise_map]
  exact h.imp fun hab e => hab (by omega)
theorem ks_setB {m n : Nat} (hn : n ≤ 8) : ksF (setB m n) = setB m n := by
  refine ks_nodup _ (cast_nodup (List.nodup_range.filter _)) fun x hx => ?_
  unfold setB at hx
  obtain ⟨k, hk, rfl⟩ := List.mem_map.1 hx
  have := List.mem_range.1 (List.mem_filter.1 hk).1
  omega
def allL (n : Nat) : List Int := (List.range n).map fun k : Nat => (k : Int)
theorem ks_allL {n : Nat} (hn : n ≤ 8) : ksF (allL n) = allL n := by
  refine ks_nodup _ (cast_nodup List.nodup_range) fun x hx => ?_
  obtain ⟨k, hk, rfl⟩ := List.mem_map.1 hx
  have := List.mem_range.1 hk
  omega
theorem lsum_le : ∀ (w : List (List Fr)), leastSum leastG w ≤ lensT w
  | [] => Nat.le_refl _
  | x :: r => by
    have := lsum_le r
    have := leastG_le x
    simp only [leastSum, lensT]; omega
theorem leastG_pos {l : List Fr} (hw : ∀ f ∈ l, f.wt = true) (h : wholeF l = true) : 1 ≤ leastG l := by
  rcases Nat.lt_or_ge (leastG l) 1 with h0 | h0
  · have := (leastG_is l hw h).2.1
    rw [show leastG l = 0 by omega, List.take_zero] at this
    exact absurd this (by decide)
  · exact h0
theorem filter_lt (n a : Nat) (h : a ≤ n) : ((List.range n).filter fun k => decide (k < a)).length = a := by
  induction n with
  | zero => simp; omega
  | succ n ih =>
    rw [List.range_succ, List.filter_append, List.length_append]
    rcases Nat.lt_or_ge n a with h1 | h1
    · obtain rfl : a = n + 1 := by omega
      have : ((List.range n).filter fun k => decide (k < n + 1)) = List.range n := List.filter_eq_self.2 fun x hx => by
        have := List.mem_range.1 hx
        exact decide_eq_true (by omega)
      rw [this]; simp
    · rw [ih h1]; simp; omega
theorem setB_len {m n : Nat} {p : Nat → Bool} (h : ∀ k, k < n → m.testBit k = p k) : (setB m n).length = ((List.range n).filter p).length := by
  unfold setB
  rw [List.length_map]
  congr 1
  exact List.filter_congr fun x hx => h x (List.mem_range.1 hx)
/-- What the law asks of a threshold of the kit. -/
theorem grows_facts (x : Th) (n : Nat) (h1 : 1 ≤ n) (h8 : n ≤ 8) (hf : x.Fit) (hn : 0 ≤ x.n ∧ x.n ≤ n) (hw : ∀ l ∈ x.w, wholeF l = true) (hc : x.n ≠ 0 ∧ x.w = [] ∨ x.n = 0 ∧ x.w.length ≠ 0 ∧ lensT x.w = n) :
    enoughP x (allL n) = true ∧ (∀ m, enoughP x (setB m n) = true → x.n + (leastSum leastG x.w : Nat) ≤ ((setB m n).length : Int)) ∧
    (∃ m, m < 2 ^ n ∧ enoughP x (setB m n) = true ∧ ((setB m n).length : Int) = x.n + (leastSum leastG x.w : Nat)) ∧
    (∀ s v, enoughP x s = true → enoughP x (s ++ [v]) = true) ∧ 1 ≤ x.n + (leastSum leastG x.w : Nat) ∧ x.n + (leastSum leastG x.w : Nat) ≤ n := by
  have hall : (allL n).length = n := by simp [allL]
  have ksn : ∀ (s : List Int) (v : Int), ksF (s ++ [v]) = insK (ksF s) v := fun s v => by unfold ksF; rw [List.foldl_append]; rfl
  rcases hc with ⟨c1, c2⟩ | ⟨c1, c2, c3⟩
  · unfold enoughP
    simp only [if_pos c1, c2, leastSum, decide_eq_true_eq]
    refine ⟨by rw [ks_allL h8, hall]; omega, fun m hm => by rw [ks_setB h8] at hm; omega, ?_, fun s v hs => ?_, by omega, by omega⟩
    · obtain ⟨m, m1, m2⟩ := mask_exists (fun k => decide (k < x.n.toNat)) n
      have hl := (setB_len m2).trans (filter_lt n x.n.toNat (by omega))
      exact ⟨m, m1, by rw [ks_setB h8]; omega, by omega⟩
    · rw [ksn]
      unfold insK
      split
      · simp only [List.length_append, List.length_singleton]; omega
      · exact hs
  · have e : ∀ s, enoughP x s = enoughW (inK (ksF s)) x.w 0 := fun s => by unfold enoughP; rw [if_neg (by simp [c1])]
    simp only [e, c1, Int.zero_add]
    refine ⟨?_, fun m hm => ?_, ?_, fun s v hs => ?_, ?_, ?_⟩
    · refine enough_all x.w _ 0 (fun i _ hi => ?_) hw
      rw [ks_allL h8]
      unfold inK
      exact decide_eq_true (List.mem_map.2 ⟨i, List.mem_range.2 (by omega), rfl⟩)
    · have := enough_least _ x.w 0 hf.wt hm
      rw [c3, ← List.range_eq_range', ← setB_len (m := m) fun k hk => (inK_setB h8 hk).symm] at this
      omega
    · obtain ⟨p, p1, p2⟩ := least_found x.w 0 fun l hl => ⟨hf.wt l hl, hw l hl⟩
      obtain ⟨m, m1, m2⟩ := mask_exists p n
      refine ⟨m, m1, ?_, ?_⟩
      · rw [enoughW_congr (q := p) x.w 0 fun i _ hi => by rw [inK_setB h8 (by omega)]; exact m2 i (by omega)]
        exact p1
      · rw [setB_len m2, List.range_eq_range', ← c3, p2]
    · refine enough_mono (fun i hi => ?_) x.w 0 hf.wt hs
      unfold inK at hi ⊢
      have hi := of_decide_eq_true hi
      rw [mem_ks] at hi
      exact decide_eq_true ((mem_ks _ _).2 ⟨List.mem_append_left _ hi.1, hi.2⟩)
    · match hx : x.w, c2 with
      | l :: r, _ =>
        have := leastG_pos (hf.wt l (by rw [hx]; simp)) (hw l (by rw [hx]; simp))
        simp only [leastSum]; omega
    · have := lsum_le x.w
      omega
end Go.AL
