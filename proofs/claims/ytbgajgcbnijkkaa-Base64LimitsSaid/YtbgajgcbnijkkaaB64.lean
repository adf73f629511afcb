/- What the base64 functions of the program answer, as plain functions; no program in sight. -/
import Derived.Test.YtbgajgcbnijkkaaAl3
set_option linter.unusedVariables false
namespace Go.AL
open Go Go.RowKit

def alpha : ByteArray := ⟨#[65, 66, 67, 68, 69, 70, 71, 72, 73, 74, 75, 76, 77, 78, 79, 80, 81, 82, 83, 84, 85, 86, 87, 88, 89, 90, 97, 98, 99, 100, 101, 102, 103, 104, 105, 106, 107, 108, 109, 110, 111, 112, 113, 114, 115, 116, 117, 118, 119, 120, 121, 122, 48, 49, 50, 51, 52, 53, 54, 55, 56, 57, 45, 95]⟩

abbrev w64 (n : Int) : Int := IntKind.i64.wrap n
abbrev or64 (a b : Int) : Int := w64 ((BitVec.ofInt 64 a ||| BitVec.ofInt 64 b).toNat : Int)
abbrev and64 (a b : Int) : Int := w64 ((BitVec.ofInt 64 a &&& BitVec.ofInt 64 b).toNat : Int)

theorem and64_63 (x : Int) : 0 ≤ and64 x 63 ∧ and64 x 63 < 64 := by
  have h : (BitVec.ofInt 64 x &&& BitVec.ofInt 64 63).toNat ≤ 63 := by
    rw [BitVec.toNat_and]
    exact Nat.le_trans Nat.and_le_right (by decide)
  unfold and64 w64
  rw [wrap64 (by omega) (by omega)]
  omega
theorem or64_lt (n : Nat) (hn : n ≤ 62) {a b : Int} (ha0 : 0 ≤ a) (ha : a < 2 ^ n) (hb0 : 0 ≤ b) (hb : b < 2 ^ n) : 0 ≤ or64 a b ∧ or64 a b < 2 ^ n := by
  have hp : (2 : Int) ^ n ≤ 2 ^ 62 := by
    have : (2 : Nat) ^ n ≤ 2 ^ 62 := Nat.pow_le_pow_right (by omega) hn
    exact_mod_cast this
  have h1 : (BitVec.ofInt 64 a).toNat = a.toNat := by
    rw [BitVec.toNat_ofInt]
    congr 1
    omega
  have h2 : (BitVec.ofInt 64 b).toNat = b.toNat := by
    rw [BitVec.toNat_ofInt]
    congr 1
    omega
  have h : (BitVec.ofInt 64 a ||| BitVec.ofInt 64 b).toNat < 2 ^ n := by
    rw [BitVec.toNat_or, h1, h2]
    refine Nat.or_lt_two_pow ?_ ?_
    · have : ((a.toNat : Nat) : Int) < ((2 ^ n : Nat) : Int) := by rw [Int.toNat_of_nonneg ha0]; exact_mod_cast ha
      exact_mod_cast this
    · have : ((b.toNat : Nat) : Int) < ((2 ^ n : Nat) : Int) := by rw [Int.toNat_of_nonneg hb0]; exact_mod_cast hb
      exact_mod_cast this
  have h' : ((BitVec.ofInt 64 a ||| BitVec.ofInt 64 b).toNat : Int) < 2 ^ n := by exact_mod_cast h
  unfold or64 w64
  rw [wrap64 (by omega) (by omega)]
  exact ⟨by omega, h'⟩

theorem bAt_le (s : ByteArray) (i : Int) : 0 ≤ bAt s i ∧ bAt s i ≤ 255 := by
  unfold bAt
  have := (s.data.toList.getD i.toNat 0).toNat_lt
  omega

/-- Three bytes as one number. -/
def n24 (a b c : Int) : Int := or64 (or64 (w64 (w64 a * 2 ^ min (16 : Int).toNat 64)) (w64 (w64 b * 2 ^ min (8 : Int).toNat 64))) (w64 c)
theorem n24_bound {a b c : Int} (ha : 0 ≤ a ∧ a ≤ 255) (hb : 0 ≤ b ∧ b ≤ 255) (hc : 0 ≤ c ∧ c ≤ 255) : 0 ≤ n24 a b c ∧ n24 a b c < 16777216 := by
  have e1 : (2 : Int) ^ min (16 : Int).toNat 64 = 65536 := by decide
  have e2 : (2 : Int) ^ min (8 : Int).toNat 64 = 256 := by decide
  unfold n24
  rw [e1, e2]
  unfold w64
  rw [wrap64 (n := a) (by omega) (by omega), wrap64 (n := b) (by omega) (by omega), wrap64 (n := c) (by omega) (by omega), wrap64 (n := a * 65536) (by omega) (by omega), wrap64 (n := b * 256) (by omega) (by omega)]
  have h1 := or64_lt 24 (by decide) (a := a * 65536) (b := b * 256) (by omega) (by omega) (by omega) (by omega)
  exact or64_lt 24 (by decide) h1.1 h1.2 (by omega) (by omega)

/-- The four digits of a number. -/
def quad (n : Int) : List T := [.int .u8 (bAt alpha (n / 2 ^ min (18 : Int).toNat 64)), .int .u8 (bAt alpha (and64 (n / 2 ^ min (12 : Int).toNat 64) 63)), .int .u8 (bAt alpha (and64 (n / 2 ^ min (6 : Int).toNat 64) 63)), .int .u8 (bAt alpha (and64 n 63))]
theorem quad_u8 (n : Int) : IsU8 (quad n) := by
  intro e he
  simp [quad] at he
  rcases he with rfl | rfl | rfl | rfl <;> rfl
theorem alpha_size : (alpha.size : Int) = 64 := by decide

theorem n18_bound {n : Int} (h : 0 ≤ n ∧ n < 16777216) : 0 ≤ n / 2 ^ min (18 : Int).toNat 64 ∧ n / 2 ^ min (18 : Int).toNat 64 < 64 := by
  have e1 : (2 : Int) ^ min (18 : Int).toNat 64 = 262144 := by decide
  rw [e1]
  omega

/-- The text of the first 3k bytes. -/
def encN : Nat → ByteArray → List T
  | 0, _ => []
  | k + 1, s => quad (n24 (bAt s 0) (bAt s 1) (bAt s 2)) ++ encN k (s.extract 3 s.size)
theorem encN_u8 : ∀ (k : Nat) (s : ByteArray), IsU8 (encN k s)
  | 0, _ => fun e he => by simp [encN] at he
  | k + 1, s => fun e he => by
    simp only [encN, List.mem_append] at he
    rcases he with he | he
    · exact quad_u8 _ e he
    · exact encN_u8 k _ e he
theorem encN_length : ∀ (k : Nat) (s : ByteArray), (encN k s).length = 4 * k
  | 0, _ => rfl
  | k + 1, s => by simp [encN, encN_length k, quad]; omega

/-- The same, by places. -/
def encR : Nat → Nat → ByteArray → List T
  | 0, _, _ => []
  | k + 1, j, s => quad (n24 (bAt s ((3 * j : Nat) : Int)) (bAt s ((3 * j + 1 : Nat) : Int)) (bAt s ((3 * j + 2 : Nat) : Int))) ++ encR k (j + 1) s
theorem encR_u8 : ∀ (k j : Nat) (s : ByteArray), IsU8 (encR k j s)
  | 0, _, _ => fun e he => by simp [encR] at he
  | k + 1, j, s => fun e he => by
    simp only [encR, List.mem_append] at he
    rcases he with he | he
    · exact quad_u8 _ e he
    · exact encR_u8 k _ _ e he
def b64encR (s : ByteArray) : ByteArray × Int :=
  if 65536 < (s.size : Int) then (⟨#[]⟩, 3) else if (s.size : Int).tmod 3 ≠ 0 then (⟨#[]⟩, 8) else (strT (encR (s.size / 3) 0 s), 0)

def modF (n m : Int) : Int := if m < 1 then 0 else (w64 (n.tmod m + m)).tmod m

/-- A number's digits, the last i of them written. -/
def numT (n : Int) (d : Nat) : Nat → List T
  | 0 => List.replicate d (.int .u8 0)
  | i + 1 => (numT n d i).set (d - 1 - i) (.int .u8 (bAt alpha (and64 (n / 2 ^ min (6 * (i : Int)).toNat 64) 63)))
theorem numT_length (n : Int) (d : Nat) : ∀ i, (numT n d i).length = d
  | 0 => by simp [numT]
  | i + 1 => by simp [numT, numT_length n d i]
theorem numT_u8 (n : Int) (d : Nat) : ∀ i, IsU8 (numT n d i)
  | 0 => fun e he => by simp [numT] at he; rw [he.2]; rfl
  | i + 1 => fun e he => by
    simp only [numT] at he
    rcases List.mem_or_eq_of_mem_set he with h | rfl
    · exact numT_u8 n d i e h
    · rfl
def numF (n d : Int) : ByteArray × Int :=
  if d < 1 ∨ 8 < d ∨ n < 0 ∨ n / 2 ^ min (6 * d).toNat 64 ≠ 0 then (⟨#[]⟩, 2) else (strT (numT n d.toNat d.toNat), 0)

theorem ba_cases (r : ByteArray) : r = ⟨#[]⟩ ∨ 0 < r.size := by
  by_cases h : r.size = 0
  · left
    obtain ⟨d⟩ := r
    have : d.size = 0 := h
    simp [Array.eq_empty_of_size_eq_zero this]
  · exact .inr (by omega)
theorem IsU8.append {xs ys : List T} (h1 : IsU8 xs) (h2 : IsU8 ys) : IsU8 (xs ++ ys) := fun e he => by
  rcases List.mem_append.1 he with h | h
  · exact h1 e h
  · exact h2 e h

def b64enc (s : ByteArray) : ByteArray × Int :=
  if 65536 < (s.size : Int) then (⟨#[]⟩, 3) else if (s.size : Int).tmod 3 ≠ 0 then (⟨#[]⟩, 8) else (strT (encN (s.size / 3) s), 0)
end Go.AL
