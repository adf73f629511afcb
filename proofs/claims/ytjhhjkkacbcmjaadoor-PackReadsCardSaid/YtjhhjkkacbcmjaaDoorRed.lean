/- The reader's rest never grows, and what it reads is not too large; no program in sight. -/
import Derived.Test.YtjhhjkkacbcmjaaDoorNod1
set_option linter.unusedVariables false
namespace Go.AL
open Go Go.RowKit

theorem take_le (r : Rs) (n : Int) : (r.take n).2.s.size ≤ r.s.size := by
  unfold Rs.take
  split
  · exact Nat.le_refl _
  · simp only [ByteArray.size_extract]; omega
theorem byte_le (r : Rs) : r.byte.2.s.size ≤ r.s.size := take_le r 1
theorem uint_le (r : Rs) (k : Int) : (r.uint k).2.s.size ≤ r.s.size := take_le r k
theorem fits_le (r : Rs) (n : Int) : (r.fits n).2.s.size ≤ r.s.size ∧ ((r.fits n).1 ≤ r.s.size) := by
  unfold Rs.fits
  split
  · exact ⟨Nat.le_refl _, by omega⟩
  · exact ⟨Nat.le_refl _, by omega⟩
theorem uint_range {r : Rs} {i : Nat} (hi : i ≤ 3) : 0 ≤ (r.uint (2 ^ i)).1 ∧ (r.uint (2 ^ i)).1 < 18446744073709551616 := by
  by_cases h : (r.uint (2 ^ i)).2.bad = false
  · have h256 : (256 : Int) ^ (2 ^ i) ≤ 18446744073709551616 := by
      match i, hi with
      | 0, _ | 1, _ | 2, _ | 3, _ => decide +kernel
    have := uint_good hi h
    omega
  · have hb : (r.take (2 ^ i)).2.bad = true := by
      have : (r.uint (2 ^ i)).2 = (r.take (2 ^ i)).2 := rfl
      rw [this] at h; simpa using h
    have he : (r.take (2 ^ i)).1 = eS := by
      unfold Rs.take at hb ⊢
      split
      · rfl
      · rename_i hn; rw [if_neg hn] at hb; simp at hb
    unfold Rs.uint
    rw [he]
    exact ⟨Int.le_refl 0, show (0 : Int) < 18446744073709551616 by decide⟩
theorem zero_ok : Nd.zero.Ok := .mk (by simp) (by simp) (by simp)
end Go.AL
/- The document's reader of the second serialisation as plain functions, and that it reads what was written; no program in sight. -/
set_option linter.unusedVariables false
namespace Go.AL
open Go Go.RowKit

/-- A head at a place: its type, its number, and the place after it, or -1. -/
def rRead (s : ByteArray) (p : Nat) : (Int × Int) × Int :=
  if s.size ≤ p then ((0, 0), -1)
  else if bAt s p % 32 < 24 then ((bAt s p / 32, bAt s p % 32), (p : Int) + 1)
  else if 27 < bAt s p % 32 then ((0, 0), -1)
  else if (s.size : Int) - p - 1 < 2 ^ (bAt s p % 32 - 24).toNat then ((0, 0), -1)
  else ((bAt s p / 32, ((s.data.toList.drop (p + 1)).take (2 ^ (bAt s p % 32 - 24).toNat)).foldl u64Step 0), (p : Int) + 1 + 2 ^ (bAt s p % 32 - 24).toNat)
def rText (s : ByteArray) (p : Nat) : ByteArray × Int :=
  if (rRead s p).2 < 0 ∨ (rRead s p).1.1 ≠ 3 ∨ (s.size : Int) - (rRead s p).2 < (rRead s p).1.2 then (eS, -1)
  else (s.extract (rRead s p).2.toNat ((rRead s p).2 + (rRead s p).1.2).toNat, (rRead s p).2 + (rRead s p).1.2)
def rItems (f : Nat → Nd × Int) (s : ByteArray) (k : Int) : Nat → List ByteArray → List Nd → Nat → Nd × Int
  | 0, ns, is, q => (.mk k false 0 eS ns is, q)
  | c + 1, ns, is, q =>
    if k = 5 then
      (if (rText s q).2 < 0 then (Nd.zero, -1)
       else if (f (rText s q).2.toNat).2 < 0 then (Nd.zero, -1)
       else rItems f s k c (ns ++ [(rText s q).1]) (is ++ [(f (rText s q).2.toNat).1]) (f (rText s q).2.toNat).2.toNat)
    else (if (f q).2 < 0 then (Nd.zero, -1) else rItems f s k c ns (is ++ [(f q).1]) (f q).2.toNat)
def rVal (s : ByteArray) : Nat → Nat → Nd × Int
  | 0, p => (Nd.zero, -1)
  | d + 1, p =>
    if s.size ≤ p then (Nd.zero, -1)
    else if bAt s p = 244 ∨ bAt s p = 245 then (.mk 1 (decide (bAt s p = 245)) 0 eS [] [], (p : Int) + 1)
    else if bAt s p = 246 then (Nd.zero, (p : Int) + 1)
    else
      let m := (rRead s p).1.1
      let n := (rRead s p).1.2
      let q := (rRead s p).2
      if q < 0 ∨ 5 < m ∨ m = 2 ∨ (m < 2 ∧ 9223372036854775807 < n) ∨ (3 < m ∧ 256 < n) then (Nd.zero, -1)
      else if m = 0 then (.mk 2 false (i64 n) eS [] [], q)
      else if m = 1 then (.mk 2 false (i64 (-1 - i64 n)) eS [] [], q)
      else if m = 3 then (.mk 3 false 0 (rText s p).1 [] [], (rText s p).2)
      else rItems (rVal s d) s m n.toNat [] [] q.toNat

/-! ### it reads what was written -/
theorem bAt_mid (a : List UInt8) (x : UInt8) (b : List UInt8) : bAt (ofL (a ++ x :: b)) (a.length : Nat) = (x.toNat : Int) := by
  simp [bAt, ofL]
theorem extract_mid (a s b : List UInt8) : (ofL (a ++ (s ++ b))).extract a.length (a ++ s).length = ofL s := by
  rw [ofL_extract]
  simp
end Go.AL
/- What the document's reader of the second serialisation takes, and that both readers take the same; no program in sight. -/
set_option linter.unusedVariables false
namespace Go.AL
open Go Go.RowKit

def VGood (s : ByteArray) (p : Nat) (r : Nd × Int) : Prop := r.1.Ok ∧ -1 ≤ r.2 ∧ (r.2 ≠ -1 → (p : Int) < r.2 ∧ r.2 ≤ s.size ∧ (r.1.cb.length : Int) + p ≤ r.2 ∧ r.1.In)
theorem VGood.fail (s : ByteArray) (p : Nat) : VGood s p (Nd.zero, -1) := ⟨zero_ok, by decide, fun h => absurd rfl h⟩

def rDec (V : ByteArray → Bool) (s : ByteArray) : Nd × Int :=
  if 65536 < s.size then (Nd.zero, 4)
  else if (rVal s 8 0).2 = s.size ∧ (rVal s 8 0).1.validB V 8 = true ∧ ofL (rVal s 8 0).1.cb = s then ((rVal s 8 0).1, 0) else (Nd.zero, 4)
end Go.AL
