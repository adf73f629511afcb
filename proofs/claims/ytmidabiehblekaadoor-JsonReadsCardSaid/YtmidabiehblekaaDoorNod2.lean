/- SHA-256 as plain functions; no program in sight. -/
import Derived.Test.YtmidabiehblekaaDoorNod1
import Derived.Test.YtmidabiehblekaaDoorAl4
import Derived.Lib.AtoiAll
import Derived.Lib.AtoiAllCases
set_option linter.unusedVariables false
namespace Go.AL
open Go Go.RowKit

def wx (a b : Int) : Int := IntKind.u32.wrap ((BitVec.ofInt 32 a ^^^ BitVec.ofInt 32 b).toNat : Int)
def wa (a b : Int) : Int := IntKind.u32.wrap ((BitVec.ofInt 32 a &&& BitVec.ofInt 32 b).toNat : Int)
def wo (a b : Int) : Int := IntKind.u32.wrap ((BitVec.ofInt 32 a ||| BitVec.ofInt 32 b).toNat : Int)
def wn (a : Int) : Int := IntKind.u32.wrap ((BitVec.ofInt 32 4294967295 ^^^ BitVec.ofInt 32 a).toNat : Int)
def wp (a b : Int) : Int := IntKind.u32.wrap (a + b)
def wr (a : Int) (n : Nat) : Int := a / 2 ^ n
def wl (a : Int) (n : Nat) : Int := IntKind.u32.wrap (a * 2 ^ n)
/-- Rotated to the right. -/
def rr (x : Int) (n : Nat) : Int := wo (wr x n) (wl x (32 - n))

def bL (p : List UInt8) (i : Nat) : Int := ((p.getD i 0).toNat : Int)
/-- The word of four bytes. -/
def wordL (p : List UInt8) (t : Nat) : Int := wo (wo (wo (wl (bL p (4 * t)) 24) (wl (bL p (4 * t + 1)) 16)) (wl (bL p (4 * t + 2)) 8)) (bL p (4 * t + 3))
def newW (x y u v : Int) : Int := wp (wp (wp (wx (wx (rr y 17) (rr y 19)) (wr y 10)) u) (wx (wx (rr x 7) (rr x 18)) (wr x 3))) v

structure H8 where
  a : Int
  b : Int
  c : Int
  d : Int
  e : Int
  f : Int
  g : Int
  h : Int
  deriving DecidableEq
def H8.l (v : H8) : List Int := [v.a, v.b, v.c, v.d, v.e, v.f, v.g, v.h]
def H8.t (v : H8) : List T := [.int .u32 v.a, .int .u32 v.b, .int .u32 v.c, .int .u32 v.d, .int .u32 v.e, .int .u32 v.f, .int .u32 v.g, .int .u32 v.h]

def rnd (k w : Int) (v : H8) : H8 :=
  let t1 := wp (wp (wp (wp v.h (wx (wx (rr v.e 6) (rr v.e 11)) (rr v.e 25))) (wx (wa v.e v.f) (wa (wn v.e) v.g))) k) w
  let t2 := wp (wx (wx (rr v.a 2) (rr v.a 13)) (rr v.a 22)) (wx (wx (wa v.a v.b) (wa v.a v.c)) (wa v.b v.c))
  ⟨wp t1 t2, v.a, v.b, v.c, wp v.d t1, v.e, v.f, v.g⟩

def iter {α : Type} (f : Nat → α → α) : Nat → Nat → α → α
  | 0, _, a => a
  | c + 1, t, a => iter f c (t + 1) (f t a)

def kTab : List Int := [
  0x428a2f98, 0x71374491, 0xb5c0fbcf, 0xe9b5dba5, 0x3956c25b, 0x59f111f1, 0x923f82a4, 0xab1c5ed5,
  0xd807aa98, 0x12835b01, 0x243185be, 0x550c7dc3, 0x72be5d74, 0x80deb1fe, 0x9bdc06a7, 0xc19bf174,
  0xe49b69c1, 0xefbe4786, 0x0fc19dc6, 0x240ca1cc, 0x2de92c6f, 0x4a7484aa, 0x5cb0a9dc, 0x76f988da,
  0x983e5152, 0xa831c66d, 0xb00327c8, 0xbf597fc7, 0xc6e00bf3, 0xd5a79147, 0x06ca6351, 0x14292967,
  0x27b70a85, 0x2e1b2138, 0x4d2c6dfc, 0x53380d13, 0x650a7354, 0x766a0abb, 0x81c2c92e, 0x92722c85,
  0xa2bfe8a1, 0xa81a664b, 0xc24b8b70, 0xc76c51a3, 0xd192e819, 0xd6990624, 0xf40e3585, 0x106aa070,
  0x19a4c116, 0x1e376c08, 0x2748774c, 0x34b0bcb5, 0x391c0cb3, 0x4ed8aa4a, 0x5b9cca4f, 0x682e6ff3,
  0x748f82ee, 0x78a5636f, 0x84c87814, 0x8cc70208, 0x90befffa, 0xa4506ceb, 0xbef9a3f7, 0xc67178f2]
def hTab : H8 := ⟨0x6a09e667, 0xbb67ae85, 0x3c6ef372, 0xa54ff53a, 0x510e527f, 0x9b05688c, 0x1f83d9ab, 0x5be0cd19⟩

def w0L : List Int := List.replicate 64 0
def loadW (p : List UInt8) : List Int := iter (fun t w => w.set t (wordL p t)) 16 0 w0L
def schedStep (t : Nat) (w : List Int) : List Int := w.set t (newW (w.getD (t - 15) 0) (w.getD (t - 2) 0) (w.getD (t - 7) 0) (w.getD (t - 16) 0))
def sched (w : List Int) : List Int := iter schedStep 48 16 w
def rounds (w : List Int) (v : H8) : H8 := iter (fun t v => rnd (kTab.getD t 0) (w.getD t 0) v) 64 0 v
def plus8 (u v : H8) : H8 := ⟨wp u.a v.a, wp u.b v.b, wp u.c v.c, wp u.d v.d, wp u.e v.e, wp u.f v.f, wp u.g v.g, wp u.h v.h⟩
def addB (h : H8) (p : List UInt8) : H8 := plus8 h (rounds (sched (loadW p)) h)
def shaGo : Nat → H8 → List UInt8 → H8
  | 0, h, _ => h
  | n + 1, h, p => shaGo n (addB h p) (p.drop 64)
def w4 (x : Int) : List UInt8 := bigL 4 x.toNat
def H8.out (v : H8) : List UInt8 := w4 v.a ++ w4 v.b ++ w4 v.c ++ w4 v.d ++ w4 v.e ++ w4 v.f ++ w4 v.g ++ w4 v.h
/-- What is behind the whole blocks of a string, in a padded string. -/
def restL (left : List UInt8) (n : Nat) : List UInt8 := left ++ 128 :: (List.replicate ((119 - left.length % 64) % 64) 0 ++ bigL 8 (8 * n))
def padL (s : List UInt8) : List UInt8 := restL s s.length
def shaL (s : List UInt8) : List UInt8 := (shaGo ((padL s).length / 64) hTab (padL s)).out
def sha (s : ByteArray) : ByteArray := ofL (shaL s.data.toList)
end Go.AL
/- Facts of SHA-256 as plain functions: blocks one behind the other, lengths, ranges; no program in sight. -/
set_option linter.unusedVariables false
namespace Go.AL
open Go Go.RowKit

def H8.In (v : H8) : Prop := (0 ≤ v.a ∧ v.a < 4294967296) ∧ (0 ≤ v.b ∧ v.b < 4294967296) ∧ (0 ≤ v.c ∧ v.c < 4294967296) ∧ (0 ≤ v.d ∧ v.d < 4294967296) ∧ (0 ≤ v.e ∧ v.e < 4294967296) ∧ (0 ≤ v.f ∧ v.f < 4294967296) ∧ (0 ≤ v.g ∧ v.g < 4294967296) ∧ (0 ≤ v.h ∧ v.h < 4294967296)
end Go.AL
/- Hexadecimal digits. -/
set_option linter.unusedVariables false
namespace Go.AL
open Go

section
open Go.RowKit
end
def hexC (d : Nat) : UInt8 := if d < 10 then UInt8.ofNat (48 + d) else UInt8.ofNat (87 + d)
/-- The low digits of a number. -/
def lowHex : Nat → Nat → List UInt8
  | 0, _ => []
  | k + 1, n => hexC (n / 16 ^ k % 16) :: lowHex k n
theorem wrapU64 {n : Int} (h0 : 0 ≤ n) (h : n < 18446744073709551616) : IntKind.u64.wrap n = n := by
  show n.emod 18446744073709551616 = n
  exact Int.emod_eq_of_lt h0 h
abbrev hexS : ByteArray := ⟨#[48, 49, 50, 51, 52, 53, 54, 55, 56, 57, 97, 98, 99, 100, 101, 102, 103, 104, 105, 106, 107, 108, 109, 110, 111, 112, 113, 114, 115, 116, 117, 118, 119, 120, 121, 122]⟩
end Go.AL
namespace Go.AL
def lowN (c : Nat) : Nat := c ||| 32
/-- The value of a hexadecimal digit, as strconv reads it. -/
def hv (c : Nat) : Option Nat := if 48 ≤ c ∧ c ≤ 57 then some (c - 48) else if 97 ≤ lowN c ∧ lowN c ≤ 102 then some (lowN c - 87) else none
/-- What strconv.ParseUint reads in base 16 up to a greatest value: the number, or which error. -/
def pgo (mx : Nat) : List UInt8 → Nat → Except Int Nat
  | [], n => .ok n
  | c :: l, n => match hv c.toNat with
    | none => .error 2
    | some d => if mx < 16 * n + d then .error 1 else pgo mx l (16 * n + d)
theorem lowN_lt (c : Nat) (h : c < 256) : lowN c < 256 := Nat.or_lt_two_pow (n := 8) h (by omega)
end Go.AL
namespace Go.AL
theorem ba_len2 (s : ByteArray) : s.size = s.data.toList.length := by cases s; rfl
theorem wrapU8 {n : Int} (h0 : 0 ≤ n) (h : n < 256) : IntKind.u8.wrap n = n := by
  show n.emod 256 = n
  exact Int.emod_eq_of_lt h0 h
theorem drop_getD {α : Type} [Inhabited α] : ∀ (L : List α) (j : Nat), j < L.length → L.drop j = L.getD j default :: L.drop (j + 1)
  | [], j, h => by simp at h
  | x :: L, 0, h => by simp
  | x :: L, j + 1, h => by simpa using drop_getD L j (by simpa using h)
end Go.AL
namespace Go.AL
theorem pgo_err (mx : Nat) : ∀ (L : List UInt8) (n : Nat) (k : Int), pgo mx L n = .error k → k = 1 ∨ k = 2
  | [], n, k, h => by simp [pgo] at h
  | c :: L, n, k, h => by
    rw [pgo] at h
    split at h
    · cases h; exact .inr rfl
    · split at h
      · cases h; exact .inl rfl
      · exact pgo_err mx L _ k h
end Go.AL
namespace Go.AL
end Go.AL
/- Versions and their texts, without the program. -/
set_option linter.unusedVariables false
namespace Go.AL
open Go

/-- A version. -/
structure Vr where
  p : ByteArray
  mj : Int
  mn : Int
  fm : Int
  sz : Int
def Vr.toT (v : Vr) : T := .agg [.str v.p, .int .i64 v.mj, .int .i64 v.mn, .int .i64 v.fm, .int .i64 v.sz]
def Vr.zero : Vr := ⟨⟨#[]⟩, 0, 0, 0, 0⟩
def isUp (p : ByteArray) : Bool := decide (p.size = 4) && p.data.toList.all (fun b => decide (65 ≤ b.toNat ∧ b.toNat ≤ 90))
def Vr.valid (v : Vr) : Bool := decide (1 ≤ v.fm ∧ v.fm ≤ 3) && isUp v.p && decide (0 ≤ v.mj ∧ v.mj ≤ 15 ∧ 0 ≤ v.mn ∧ v.mn ≤ 15 ∧ 0 ≤ v.sz ∧ v.sz ≤ 16777215)
def fname (k : Int) : List UInt8 := if k = 1 then [74, 83, 79, 78] else if k = 2 then [67, 66, 79, 82] else if k = 3 then [77, 71, 80, 75] else []
def Vr.txt (v : Vr) : List UInt8 := v.p.data.toList ++ lowHex 1 v.mj.toNat ++ lowHex 1 v.mn.toNat ++ fname v.fm ++ lowHex 6 v.sz.toNat ++ [95]
def numI (s : ByteArray) : Int := match pgo 4294967295 s.data.toList 0 with
  | .ok n => (n : Int)
  | .error _ => -1
def formOf (s : ByteArray) : Int := if s = ⟨#[74, 83, 79, 78]⟩ then 1 else if s = ⟨#[67, 66, 79, 82]⟩ then 2 else if s = ⟨#[77, 71, 80, 75]⟩ then 3 else 0

end Go.AL
namespace Go.AL
/-- The number whose small hexadecimal digit a byte is, among the first ones; or -1. -/
def lv : Nat → UInt8 → Int
  | 0, _ => -1
  | k + 1, b => if hexC k = b then (k : Int) else lv k b
def rgo : List UInt8 → Int → Int
  | [], n => n
  | c :: l, n => if lv 16 c < 0 then -1 else rgo l (16 * n + lv 16 c)
end Go.AL
namespace Go.AL
def Vr.text (v : Vr) : ByteArray := if v.valid then ofL v.txt else ⟨#[]⟩
def Vr.err (v : Vr) : Int := if v.valid then 0 else 2
/-- The version that the program reads in 17 bytes, perhaps one with another text. -/
def Vr.rd (s : ByteArray) : Vr := ⟨s.extract 0 4, numI (s.extract 4 5), numI (s.extract 5 6), formOf (s.extract 6 10), numI (s.extract 10 16)⟩
def Vr.rdR (s : ByteArray) : Vr := ⟨s.extract 0 4, rgo (s.extract 4 5).data.toList 0, rgo (s.extract 5 6).data.toList 0, formOf (s.extract 6 10), rgo (s.extract 10 16).data.toList 0⟩
def parseV (s : ByteArray) : Vr × Int := if s.size = 17 then (if (Vr.rd s).err = 0 ∧ (Vr.rd s).text = s then (Vr.rd s, 0) else (Vr.zero, 10)) else (Vr.zero, 10)
def parseR (s : ByteArray) : Vr × Int := if s.size = 17 then (if (Vr.rdR s).valid = true ∧ s.data.toList.getD 16 default = 95 then (Vr.rdR s, 0) else (Vr.zero, 10)) else (Vr.zero, 10)
end Go.AL
namespace Go.AL
/-- The first place, not far behind the beginning, at which a version stands. -/
def findV (P : ByteArray → Vr × Int) (s : ByteArray) : Nat → Nat → Vr × Int × Int
  | 0, _ => (Vr.zero, 0, 10)
  | f + 1, at_ => if at_ ≤ 24 ∧ at_ + 17 ≤ s.size then (if (P (s.extract at_ (at_ + 17))).2 = 0 then ((P (s.extract at_ (at_ + 17))).1, (at_ : Int), 0) else findV P s f (at_ + 1)) else (Vr.zero, 0, 10)
end Go.AL
/- What is read of a version's text: the plain law. -/
set_option linter.unusedVariables false
namespace Go.AL
open Go

end Go.AL
/- The first serialisation as plain data: how a node is read; no program in sight. -/
set_option linter.unusedVariables false
namespace Go.AL
open Go Go.RowKit

/-- Whether a string begins so. -/
def hasP (s t : ByteArray) : Bool := decide (t.size ≤ s.size) && decide (s.extract 0 t.size = t)
def Rs.skip (r : Rs) (t : ByteArray) : Bool × Rs := if hasP r.s t && !r.bad then (true, ⟨r.s.extract t.size r.s.size, false⟩) else (false, r)
def Rs.expect (r : Rs) (t : ByteArray) : Rs := if (r.skip t).1 = true then (r.skip t).2 else ⟨r.s, true⟩
/-- What strconv.ParseUint(t, 16, 8) gives, and whether without an error. -/
def pu8 (t : ByteArray) : Int × Bool :=
  if t = eS then (0, false) else
    match pgo 255 t.data.toList 0 with
    | .ok n => ((n : Int), true)
    | .error k => (if k = 2 then 0 else 255, false)
def escI (l : Int) : Option UInt8 := (escL.find? fun x => decide ((x.2.toNat : Int) = l)).map (·.1)
def jEscR (r : Rs) : Int × Rs :=
  if r.byte.1 = 117 then ((pu8 (r.byte.2.take 4).1).1, if (pu8 (r.byte.2.take 4).1).2 = true then (r.byte.2.take 4).2 else ⟨(r.byte.2.take 4).2.s, true⟩)
  else match escI r.byte.1 with
    | some c => ((c.toNat : Int), r.byte.2)
    | none => (0, ⟨r.byte.2.s, true⟩)
def jTextL : Nat → List UInt8 → Rs → ByteArray × Rs
  | 0, out, r => (eS, r)
  | f + 1, out, r => if r.bad = true then (eS, r)
    else if r.byte.1 = 34 then (ofL out, r.byte.2)
    else if r.byte.1 = 92 then jTextL f (out ++ [UInt8.ofNat (jEscR r.byte.2).1.toNat]) (jEscR r.byte.2).2
    else jTextL f (out ++ [UInt8.ofNat r.byte.1.toNat]) r.byte.2
def qS : ByteArray := ⟨#[34]⟩
def jTextR (r : Rs) : ByteArray × Rs := jTextL (r.s.size + 2) [] (r.expect qS)
def isNumC (b : UInt8) : Bool := decide (b = 45) || (decide (48 ≤ b.toNat) && decide (b.toNat ≤ 57))
def jRun (s : ByteArray) : Nat := (s.data.toList.takeWhile isNumC).length
def jNumR (r : Rs) : Int × Rs :=
  match Lib.atoiAll (r.take (jRun r.s)).1.data.toList with
  | .ok v => (v, (r.take (jRun r.s)).2)
  | .range => (Lib.atoiSat (r.take (jRun r.s)).1.data.toList, ⟨(r.take (jRun r.s)).2.s, true⟩)
  | _ => (0, ⟨(r.take (jRun r.s)).2.s, true⟩)
/-- What stands ahead of an item, but for the first one. -/
def jSep (first : Bool) (r : Rs) : Rs := if first then r else r.expect ⟨#[44]⟩
def jItemsR (f : Rs → Nd × Rs) (k : Int) (e : ByteArray) : Nat → Bool → List ByteArray → List Nd → Rs → Nd × Rs
  | 0, first, ns, is, r => (.mk k false 0 eS ns is, r)
  | c + 1, first, ns, is, r =>
    if r.bad = true then (.mk k false 0 eS ns is, r)
    else if (r.skip e).1 = true then (.mk k false 0 eS ns is, (r.skip e).2)
    else if k = 5 then jItemsR f k e c false (ns ++ [(jTextR (jSep first r)).1]) (is ++ [(f ((jTextR (jSep first r)).2.expect ⟨#[58]⟩)).1]) (f ((jTextR (jSep first r)).2.expect ⟨#[58]⟩)).2
    else jItemsR f k e c false ns (is ++ [(f (jSep first r)).1]) (f (jSep first r)).2
def nullS : ByteArray := ofL jNull
def trueS : ByteArray := ofL jTrue
def falseS : ByteArray := ofL jFalse
def jNodeR : Nat → Rs → Nd × Rs
  | 0, r => (Nd.zero, ⟨r.s, true⟩)
  | d + 1, r =>
    if (r.skip nullS).1 = true then (Nd.zero, (r.skip nullS).2)
    else if (r.skip trueS).1 = true then (.mk 1 true 0 eS [] [], (r.skip trueS).2)
    else if (r.skip falseS).1 = true then (.mk 1 false 0 eS [] [], (r.skip falseS).2)
    else if (r.skip ⟨#[91]⟩).1 = true then jItemsR (jNodeR d) 4 ⟨#[93]⟩ ((r.skip ⟨#[91]⟩).2.s.size + 2) true [] [] (r.skip ⟨#[91]⟩).2
    else if (r.skip ⟨#[123]⟩).1 = true then jItemsR (jNodeR d) 5 ⟨#[125]⟩ ((r.skip ⟨#[123]⟩).2.s.size + 2) true [] [] (r.skip ⟨#[123]⟩).2
    else if hasP r.s qS = true then (.mk 3 false 0 (jTextR r).1 [] [], (jTextR r).2)
    else (.mk 2 false (jNumR r).1 eS [] [], (jNumR r).2)

/-! ### what was written comes back -/
theorem skip_back (t a : List UInt8) : (Rs.mk (ofL (t ++ a)) false).skip (ofL t) = (true, ⟨ofL a, false⟩) := by
  unfold Rs.skip hasP
  simp only [ofL_size, ofL_extract, List.length_append]
  rw [if_pos (by simp)]
  simp
theorem skip_not {c d : UInt8} (a t : List UInt8) (h : c ≠ d) : (Rs.mk (ofL (c :: a)) false).skip (ofL (d :: t)) = (false, ⟨ofL (c :: a), false⟩) := by
  unfold Rs.skip hasP
  simp only [ofL_size, ofL_extract]
  rw [if_neg]
  intro hh
  simp only [Bool.and_eq_true, decide_eq_true_eq, List.drop_zero, Nat.sub_zero] at hh
  have h2 := congrArg (fun s => s.data.toList.head?) hh.1.2
  simp only [ofL_toList, List.length_cons, List.take_succ_cons, List.head?_cons, Option.some.injEq] at h2
  exact h h2
theorem expect_back (t a : List UInt8) : (Rs.mk (ofL (t ++ a)) false).expect (ofL t) = ⟨ofL a, false⟩ := by
  unfold Rs.expect
  rw [skip_back]; simp
theorem esc_lt (c : UInt8) (h : c.toNat < 32) : pu8 (ofL [48, 48, hexB (c.toNat / 16), hexB (c.toNat % 16)]) = ((c.toNat : Int), true) := by
  have key : ∀ n : Fin 32, pu8 (ofL [48, 48, hexB (n.val / 16), hexB (n.val % 16)]) = ((n.val : Int), true) := by decide +kernel
  exact key ⟨c.toNat, h⟩
theorem escO_some {c l : UInt8} (h : escO c = some l) : l.toNat ≠ 117 ∧ escI (l.toNat : Int) = some c := by
  have key : ∀ x ∈ escL, x.2.toNat ≠ 117 ∧ escI (x.2.toNat : Int) = some x.1 := by decide
  have hm : ∀ (L : List (UInt8 × UInt8)), L.lookup c = some l → (c, l) ∈ L := by
    intro L
    induction L with
    | nil => simp
    | cons x L ih =>
      obtain ⟨a, b⟩ := x
      intro h
      simp only [List.lookup] at h
      split at h
      · rename_i he
        have : c = a := by simpa using he
        cases h; subst this; simp
      · exact List.mem_cons_of_mem _ (ih h)
  exact key _ (hm _ h)
theorem escO_none {c : UInt8} (h : escO c = none) : c ≠ 34 ∧ c ≠ 92 := by
  constructor <;> (rintro rfl; exact absurd h (by decide))
theorem u8_of (c : UInt8) : UInt8.ofNat ((c.toNat : Int)).toNat = c := by simp
theorem jEscR_letter {c l : UInt8} (h : escO c = some l) (a : List UInt8) : jEscR ⟨ofL (l :: a), false⟩ = ((c.toNat : Int), ⟨ofL a, false⟩) := by
  obtain ⟨h1, h2⟩ := escO_some h
  unfold jEscR
  rw [byte_ofL]
  simp only
  rw [if_neg (by omega), h2]
theorem jEscR_hex {c : UInt8} (h : c.toNat < 32) (a : List UInt8) : jEscR ⟨ofL (117 :: 48 :: 48 :: hexB (c.toNat / 16) :: hexB (c.toNat % 16) :: a), false⟩ = ((c.toNat : Int), ⟨ofL a, false⟩) := by
  have ht := take_ofL [48, 48, hexB (c.toNat / 16), hexB (c.toNat % 16)] a
  rw [show (([48, 48, hexB (c.toNat / 16), hexB (c.toNat % 16)] : List UInt8).length : Int) = 4 from rfl] at ht
  unfold jEscR
  rw [byte_ofL]
  simp only
  rw [if_pos (by decide)]
  rw [show (48 :: 48 :: hexB (c.toNat / 16) :: hexB (c.toNat % 16) :: a) = [48, 48, hexB (c.toNat / 16), hexB (c.toNat % 16)] ++ a from rfl, ht]
  simp only
  rw [esc_lt c h]
  simp
theorem jTextL_back : ∀ (l : List UInt8) (f : Nat) (out t : List UInt8), l.length + 1 ≤ f → jTextL f out ⟨ofL (jEscs l ++ 34 :: t), false⟩ = (ofL (out ++ l), ⟨ofL t, false⟩)
  | [], f, out, t, hf => by
    obtain ⟨f, rfl⟩ : ∃ g, f = g + 1 := ⟨f - 1, by simp at hf; omega⟩
    simp only [jEscs, List.nil_append, jTextL, byte_ofL]
    simp
  | c :: l, f, out, t, hf => by
    obtain ⟨f, rfl⟩ : ∃ g, f = g + 1 := ⟨f - 1, by simp at hf; omega⟩
    have ih := jTextL_back l f (out ++ [c]) t (by simp at hf ⊢; omega)
    rw [show out ++ c :: l = out ++ [c] ++ l by simp, ← ih]
    simp only [jEscs, List.append_assoc]
    rw [jTextL]
    unfold jEsc
    cases hO : escO c with
    | some m =>
      simp only [List.cons_append, List.nil_append, byte_ofL, Bool.false_eq_true, if_false]
      rw [if_neg (by decide), if_pos (by decide), jEscR_letter hO, u8_of]
    | none =>
      obtain ⟨n1, n2⟩ := escO_none hO
      simp only
      by_cases h32 : c.toNat < 32
      · rw [if_pos h32]
        simp only [List.cons_append, List.nil_append, byte_ofL, Bool.false_eq_true, if_false]
        rw [if_neg (by decide), if_pos (by decide), jEscR_hex h32, u8_of]
      · rw [if_neg h32]
        simp only [List.cons_append, List.nil_append, byte_ofL, Bool.false_eq_true, if_false]
        have e1 : ¬ ((c.toNat : Int) = 34) := fun e => n1 (UInt8.toNat_inj.1 (by show c.toNat = 34; omega))
        have e2 : ¬ ((c.toNat : Int) = 92) := fun e => n2 (UInt8.toNat_inj.1 (by show c.toNat = 92; omega))
        rw [if_neg e1, if_neg e2, u8_of]
theorem jTextR_back (s : ByteArray) (t : List UInt8) : jTextR ⟨ofL (jQ s ++ t), false⟩ = (s, ⟨ofL t, false⟩) := by
  unfold jTextR
  have h1 : (Rs.mk (ofL (jQ s ++ t)) false).expect qS = ⟨ofL (jEscs s.data.toList ++ 34 :: t), false⟩ := by
    have := expect_back [34] (jEscs s.data.toList ++ 34 :: t)
    unfold jQ
    rw [show qS = ofL [34] from rfl]
    simpa using this
  rw [h1, jTextL_back _ _ _ _ ?_, List.nil_append, ofL_of]
  have : ∀ l : List UInt8, l.length ≤ (jEscs l).length := fun l => by
    induction l with
    | nil => simp
    | cons c l ih => have := jEsc_len c; simp only [jEscs, List.length_append, List.length_cons]; omega
  have := this s.data.toList
  simp only [ofL_size, jQ, List.length_cons, List.length_append]; omega
end Go.AL
/- What the first serialisation wrote comes back: numbers, lists, maps; no program in sight. -/
set_option linter.unusedVariables false
namespace Go.AL
open Go Go.RowKit Go.Lib

theorem p10_snoc (c : UInt8) : ∀ (l : List UInt8) (a u : Nat), parseUint10 a l = .ok u → parseUint10 a (l ++ [c]) = parseUint10 u [c]
  | [], a, u, h => by
    simp only [parseUint10] at h
    injection h with h
    subst h; rfl
  | b :: l, a, u, h => by
    simp only [parseUint10] at h
    simp only [List.cons_append]
    rw [parseUint10]
    split at h
    · rename_i h1
      rw [if_pos h1]
      split at h
      · cases h
      · rename_i h2
        rw [if_neg h2]
        split at h
        · cases h
        · rename_i h3
          rw [if_neg h3]
          exact p10_snoc c l _ u h
    · cases h
theorem dig_nat (d : Nat) (h : d < 10) : (UInt8.ofNat (48 + d)).toNat = 48 + d := by
  rw [UInt8.toNat_ofNat_of_lt' (by simp only [UInt8.size]; omega)]
theorem p10_one (u d : Nat) (hd : d < 10) (h : u * 10 + d < 18446744073709551616) : parseUint10 u [UInt8.ofNat (48 + d)] = .ok (u * 10 + d) := by
  simp only [parseUint10, dig_nat d hd]
  rw [if_pos (by omega), if_neg (by omega), if_neg (by omega)]
  congr 1; omega
theorem p10_digits : ∀ (u : Nat), u < 18446744073709551616 → parseUint10 0 (decDigits u) = .ok u := by
  intro u
  induction u using Nat.strongRecOn with
  | ind u ih =>
    intro hu
    by_cases h : u < 10
    · rw [decDigits, dif_pos h]
      have := p10_one 0 u h (by omega)
      simpa using this
    · rw [decDigits, dif_neg h, p10_snoc _ _ _ _ (ih (u / 10) (by omega) (by omega)), p10_one _ _ (by omega) (by omega)]
      congr 1; omega
theorem dig_num : ∀ (u : Nat), ∀ c ∈ decDigits u, 48 ≤ c.toNat ∧ c.toNat ≤ 57 := by
  intro u
  induction u using Nat.strongRecOn with
  | ind u ih =>
    intro c hc
    by_cases h : u < 10
    · rw [decDigits, dif_pos h] at hc
      rw [List.mem_singleton.1 hc, dig_nat u h]; omega
    · rw [decDigits, dif_neg h] at hc
      rcases List.mem_append.1 hc with h1 | h1
      · exact ih (u / 10) (by omega) c h1
      · rw [List.mem_singleton.1 h1, dig_nat _ (by omega)]; omega
theorem dig_ne (u : Nat) : decDigits u ≠ [] := by
  rw [decDigits]; split <;> simp
theorem atoi_itoa (n : Int) (h0 : -9223372036854775808 ≤ n) (h1 : n ≤ 9223372036854775807) : atoiAll (itoa n) = .ok n := by
  by_cases hn : n < 0
  · have e : itoa n = 45 :: decDigits n.natAbs := by unfold itoa; rw [if_pos hn]
    rw [e]
    have hp : parseMag (decDigits n.natAbs) = .ok n.natAbs := by
      unfold parseMag; rw [if_neg (dig_ne _), p10_digits _ (by omega)]
    unfold atoiAll
    simp only
    rw [if_pos (.inr (by decide)), hp]
    simp only
    rw [if_neg (by simp), if_neg (by simp; omega), if_pos (by decide)]
    congr 1; omega
  · have e : itoa n = decDigits n.toNat := by unfold itoa; rw [if_neg hn]
    rw [e]
    have hp : parseMag (decDigits n.toNat) = .ok n.toNat := by
      unfold parseMag; rw [if_neg (dig_ne _), p10_digits _ (by omega)]
    obtain ⟨c, l, hcl⟩ : ∃ c l, decDigits n.toNat = c :: l := by
      cases h : decDigits n.toNat with
      | nil => exact absurd h (dig_ne _)
      | cons c l => exact ⟨c, l, rfl⟩
    have hc := dig_num n.toNat c (by rw [hcl]; simp)
    rw [hcl] at hp ⊢
    unfold atoiAll
    simp only
    rw [if_neg (by omega), hp]
    simp only
    rw [if_neg (by omega), if_neg (by omega), if_neg (by omega)]
    congr 1; omega
theorem itoa_num (n : Int) : ∀ c ∈ itoa n, isNumC c = true := by
  intro c hc
  have key : ∀ u, ∀ c ∈ decDigits u, isNumC c = true := fun u c hc => by
    have := dig_num u c hc
    unfold isNumC; simp [this]
  unfold itoa at hc
  split at hc
  · rcases List.mem_cons.1 hc with h | h
    · subst h; rfl
    · exact key _ c h
  · exact key _ c hc
/-- No digit or sign stands ahead. -/
def numEnd (t : List UInt8) : Prop := ∀ c, t.head? = some c → isNumC c = false
theorem takeWhile_end (l t : List UInt8) (h : ∀ c ∈ l, isNumC c = true) (ht : numEnd t) : (l ++ t).takeWhile isNumC = l := by
  induction l with
  | nil =>
    cases t with
    | nil => rfl
    | cons c t =>
      have := ht c rfl
      simp [List.takeWhile_cons, this]
  | cons c l ih =>
    rw [List.cons_append, List.takeWhile_cons, h c (by simp), if_pos rfl, ih fun c hc => h c (by simp [hc])]
theorem jNumR_back (n : Int) (t : List UInt8) (h0 : -9223372036854775808 ≤ n) (h1 : n ≤ 9223372036854775807) (ht : numEnd t) : jNumR ⟨ofL (itoa n ++ t), false⟩ = (n, ⟨ofL t, false⟩) := by
  unfold jNumR
  have hr : jRun (ofL (itoa n ++ t)) = (itoa n).length := by
    unfold jRun; rw [ofL_toList, takeWhile_end _ _ (itoa_num n) ht]
  simp only [hr, take_ofL, ofL_toList, atoi_itoa n h0 h1]
/-- How a node's text begins. -/
theorem jb_head {V : ByteArray → Bool} (x : Nd) (e : Int) (hv : x.validB V e = true) : ∃ c l, x.jb = c :: l ∧ c ≠ 93 ∧ c ≠ 44 := by
  obtain ⟨k, b, n, t, ns, is⟩ := x
  unfold Nd.jb
  split
  · exact ⟨110, _, rfl, by decide, by decide⟩
  split
  · cases b with
    | true => exact ⟨116, _, rfl, by decide, by decide⟩
    | false => exact ⟨102, _, rfl, by decide, by decide⟩
  split
  · have hh : ∀ u : Nat, ∃ c l, decDigits u = c :: l ∧ c ≠ 93 ∧ c ≠ 44 := fun u => by
      cases h : decDigits u with
      | nil => exact absurd h (dig_ne _)
      | cons c l =>
        have := dig_num u c (by rw [h]; simp)
        refine ⟨c, l, rfl, ?_, ?_⟩ <;> (rintro rfl; revert this; decide)
    unfold itoa
    split
    · exact ⟨45, _, rfl, by decide, by decide⟩
    · exact hh _
  split
  · exact ⟨34, _, rfl, by decide, by decide⟩
  split
  · exact ⟨91, _, rfl, by decide, by decide⟩
  · exact ⟨123, _, rfl, by decide, by decide⟩
theorem numEnd_sep (f : Bool) (xs : List Nd) (c : UInt8) (hc : isNumC c = false) (t : List UInt8) : numEnd (Nd.jbs false xs ++ c :: t) := by
  intro d hd
  cases xs with
  | nil =>
    simp only [Nd.jbs, List.nil_append, List.head?_cons, Option.some.injEq] at hd
    subst hd; exact hc
  | cons x xs =>
    simp only [Nd.jbs, Bool.false_eq_true, if_false, List.cons_append, List.nil_append, List.head?_cons, Option.some.injEq] at hd
    subst hd; rfl
theorem numEnd_sepm (ns : List ByteArray) (xs : List Nd) (c : UInt8) (hc : isNumC c = false) (t : List UInt8) : numEnd (Nd.jbm false ns xs ++ c :: t) := by
  intro d hd
  have base : Nd.jbm false ns xs = [] → isNumC d = false := fun h => by
    rw [h] at hd
    simp only [List.nil_append, List.head?_cons, Option.some.injEq] at hd
    subst hd; exact hc
  cases ns with
  | nil => exact base (by simp [Nd.jbm])
  | cons s ns =>
    cases xs with
    | nil => exact base (by simp [Nd.jbm])
    | cons x xs =>
      simp only [Nd.jbm, Bool.false_eq_true, if_false, List.cons_append, List.nil_append, List.head?_cons, Option.some.injEq] at hd
      subst hd; rfl
theorem jItems_end {f : Rs → Nd × Rs} {k : Int} {e : ByteArray} {c : Nat} {first : Bool} {ns : List ByteArray} {is : List Nd} {r r' : Rs} (hb : r.bad = false) (h : r.skip e = (true, r')) : jItemsR f k e (c + 1) first ns is r = (.mk k false 0 eS ns is, r') := by
  rw [jItemsR, if_neg (by rw [hb]; decide), if_pos (by rw [h]), h]
theorem jItems_4 {f : Rs → Nd × Rs} {k : Int} {e : ByteArray} {c : Nat} {first : Bool} {ns : List ByteArray} {is : List Nd} {r r' : Rs} (hb : r.bad = false) (h : r.skip e = (false, r')) (hk : ¬ k = 5) : jItemsR f k e (c + 1) first ns is r = jItemsR f k e c false ns (is ++ [(f (jSep first r)).1]) (f (jSep first r)).2 := by
  rw [jItemsR, if_neg (by rw [hb]; decide), if_neg (by rw [h]; simp), if_neg hk]
theorem jItems_5 {f : Rs → Nd × Rs} {k : Int} {e : ByteArray} {c : Nat} {first : Bool} {ns : List ByteArray} {is : List Nd} {r r' : Rs} (hb : r.bad = false) (h : r.skip e = (false, r')) (hk : k = 5) : jItemsR f k e (c + 1) first ns is r = jItemsR f k e c false (ns ++ [(jTextR (jSep first r)).1]) (is ++ [(f ((jTextR (jSep first r)).2.expect ⟨#[58]⟩)).1]) (f ((jTextR (jSep first r)).2.expect ⟨#[58]⟩)).2 := by
  rw [jItemsR, if_neg (by rw [hb]; decide), if_neg (by rw [h]; simp), if_pos hk]
theorem jItems_list (f : Rs → Nd × Rs) : ∀ (xs : List Nd) (first : Bool) (ns : List ByteArray) (acc : List Nd) (t : List UInt8) (fu : Nat), xs.length + 1 ≤ fu → (∀ x ∈ xs, (∃ c l, x.jb = c :: l ∧ c ≠ 93 ∧ c ≠ 44) ∧ ∀ t : List UInt8, numEnd t → f ⟨ofL (x.jb ++ t), false⟩ = (x, ⟨ofL t, false⟩)) →
    jItemsR f 4 ⟨#[93]⟩ fu first ns acc ⟨ofL (Nd.jbs first xs ++ 93 :: t), false⟩ = (.mk 4 false 0 eS ns (acc ++ xs), ⟨ofL t, false⟩)
  | [], first, ns, acc, t, fu, hf, _ => by
    obtain ⟨fu, rfl⟩ : ∃ g, fu = g + 1 := ⟨fu - 1, by simp at hf; omega⟩
    have h := skip_back [93] t
    have e : (Nd.jbs first [] ++ 93 :: t) = [93] ++ t := by simp [Nd.jbs]
    rw [e, show (⟨#[93]⟩ : ByteArray) = ofL [93] from rfl, jItems_end rfl h, List.append_nil]
  | x :: xs, first, ns, acc, t, fu, hf, h => by
    obtain ⟨fu, rfl⟩ : ∃ g, fu = g + 1 := ⟨fu - 1, by simp at hf; omega⟩
    obtain ⟨⟨c, l, hcl, hc1, hc2⟩, hx⟩ := h x (by simp)
    have ih := jItems_list f xs false ns (acc ++ [x]) t fu (by simp at hf ⊢; omega) fun y hy => h y (by simp [hy])
    have hx := hx (Nd.jbs false xs ++ 93 :: t) (numEnd_sep true xs 93 rfl t)
    have hs : (Rs.mk (ofL (Nd.jbs first (x :: xs) ++ 93 :: t)) false).skip ⟨#[93]⟩ = (false, ⟨ofL (Nd.jbs first (x :: xs) ++ 93 :: t), false⟩) := by
      cases first with
      | true =>
        simp only [Nd.jbs, if_true, List.nil_append, hcl, List.cons_append]
        exact skip_not _ [] hc1
      | false =>
        simp only [Nd.jbs, Bool.false_eq_true, if_false, List.cons_append, List.nil_append]
        exact skip_not _ [] (by decide)
    have hsep : jSep first ⟨ofL (Nd.jbs first (x :: xs) ++ 93 :: t), false⟩ = ⟨ofL (x.jb ++ (Nd.jbs false xs ++ 93 :: t)), false⟩ := by
      unfold jSep
      cases first with
      | true => simp [Nd.jbs]
      | false =>
        have := expect_back [44] (x.jb ++ (Nd.jbs false xs ++ 93 :: t))
        simp only [Nd.jbs, Bool.false_eq_true, if_false, List.append_assoc]
        exact this
    rw [jItems_4 rfl hs (by decide), hsep, hx]
    simp only
    rw [ih]; simp
theorem jItems_map (f : Rs → Nd × Rs) : ∀ (ss : List ByteArray) (xs : List Nd) (first : Bool) (ns : List ByteArray) (acc : List Nd) (t : List UInt8) (fu : Nat), ss.length = xs.length → xs.length + 1 ≤ fu → (∀ x ∈ xs, ∀ t : List UInt8, numEnd t → f ⟨ofL (x.jb ++ t), false⟩ = (x, ⟨ofL t, false⟩)) →
    jItemsR f 5 ⟨#[125]⟩ fu first ns acc ⟨ofL (Nd.jbm first ss xs ++ 125 :: t), false⟩ = (.mk 5 false 0 eS (ns ++ ss) (acc ++ xs), ⟨ofL t, false⟩)
  | [], [], first, ns, acc, t, fu, _, hf, _ => by
    obtain ⟨fu, rfl⟩ : ∃ g, fu = g + 1 := ⟨fu - 1, by simp at hf; omega⟩
    have h := skip_back [125] t
    have e : (Nd.jbm first [] [] ++ 125 :: t) = [125] ++ t := by simp [Nd.jbm]
    rw [e, show (⟨#[125]⟩ : ByteArray) = ofL [125] from rfl, jItems_end rfl h, List.append_nil, List.append_nil]
  | s :: ss, x :: xs, first, ns, acc, t, fu, hl, hf, h => by
    obtain ⟨fu, rfl⟩ : ∃ g, fu = g + 1 := ⟨fu - 1, by simp at hf; omega⟩
    have ih := jItems_map f ss xs false (ns ++ [s]) (acc ++ [x]) t fu (by simpa using hl) (by simp at hf ⊢; omega) fun y hy => h y (by simp [hy])
    have hx := h x (by simp) (Nd.jbm false ss xs ++ 125 :: t) (numEnd_sepm ss xs 125 rfl t)
    have hs : (Rs.mk (ofL (Nd.jbm first (s :: ss) (x :: xs) ++ 125 :: t)) false).skip ⟨#[125]⟩ = (false, ⟨ofL (Nd.jbm first (s :: ss) (x :: xs) ++ 125 :: t), false⟩) := by
      cases first with
      | true =>
        simp only [Nd.jbm, if_true, List.nil_append, jQ, List.cons_append]
        exact skip_not _ [] (by decide)
      | false =>
        simp only [Nd.jbm, Bool.false_eq_true, if_false, List.cons_append, List.nil_append]
        exact skip_not _ [] (by decide)
    have hsep : jSep first ⟨ofL (Nd.jbm first (s :: ss) (x :: xs) ++ 125 :: t), false⟩ = ⟨ofL (jQ s ++ (58 :: (x.jb ++ (Nd.jbm false ss xs ++ 125 :: t)))), false⟩ := by
      unfold jSep
      cases first with
      | true => simp [Nd.jbm]
      | false =>
        have := expect_back [44] (jQ s ++ (58 :: (x.jb ++ (Nd.jbm false ss xs ++ 125 :: t))))
        simp only [Nd.jbm, Bool.false_eq_true, if_false, List.append_assoc, List.cons_append]
        exact this
    have hcol : (Rs.mk (ofL (58 :: (x.jb ++ (Nd.jbm false ss xs ++ 125 :: t)))) false).expect ⟨#[58]⟩ = ⟨ofL (x.jb ++ (Nd.jbm false ss xs ++ 125 :: t)), false⟩ := expect_back [58] _
    rw [jItems_5 rfl hs rfl, hsep, jTextR_back]
    simp only
    rw [hcol, hx]
    simp only
    rw [ih]; simp
  | [], _ :: _, _, _, _, _, _, hl, _, _ => by simp at hl
  | _ :: _, [], _, _, _, _, _, hl, _, _ => by simp at hl
theorem jbs_len : ∀ (f : Bool) (xs : List Nd), (∀ x ∈ xs, 1 ≤ x.jb.length) → xs.length ≤ (Nd.jbs f xs).length
  | f, [], _ => by simp
  | f, x :: xs, h => by
    have := jbs_len false xs fun y hy => h y (by simp [hy])
    have := h x (by simp)
    simp only [Nd.jbs, List.length_append, List.length_cons]; omega
theorem jbm_len : ∀ (f : Bool) (ss : List ByteArray) (xs : List Nd), ss.length = xs.length → xs.length ≤ (Nd.jbm f ss xs).length
  | f, [], [], _ => by simp
  | f, s :: ss, x :: xs, h => by
    have := jbm_len false ss xs (by simpa using h)
    simp only [Nd.jbm, List.length_append, List.length_cons]; omega
  | _, [], _ :: _, h => by simp at h
  | _, _ :: _, [], h => by simp at h
theorem hasP_head (c : UInt8) (a : List UInt8) (h : c ≠ 34) : hasP (ofL (c :: a)) qS = false := by
  have := skip_not (d := 34) a [] h
  unfold Rs.skip at this
  cases hp : hasP (ofL (c :: a)) qS with
  | false => rfl
  | true =>
    rw [show ofL [34] = qS from rfl] at this
    simp only [hp, Bool.not_false, Bool.and_self, if_true] at this
    exact absurd (congrArg (·.1) this) (by simp)
theorem hasP_quote (a : List UInt8) : hasP (ofL (34 :: a)) qS = true := by
  have := skip_back [34] a
  unfold Rs.skip at this
  cases hp : hasP (ofL (34 :: a)) qS with
  | true => rfl
  | false =>
    rw [show ofL [34] = qS from rfl] at this
    simp only [List.cons_append, List.nil_append, hp, Bool.false_and, Bool.false_eq_true, if_false] at this
    exact absurd (congrArg (·.1) this) (by simp)
/-- The five ways that are tried first, where a text does not begin so. -/
theorem jNode_other {d : Nat} {c : UInt8} {a : List UInt8} (h1 : c ≠ 110) (h2 : c ≠ 116) (h3 : c ≠ 102) (h4 : c ≠ 91) (h5 : c ≠ 123) : jNodeR (d + 1) ⟨ofL (c :: a), false⟩ =
    if hasP (ofL (c :: a)) qS = true then (.mk 3 false 0 (jTextR ⟨ofL (c :: a), false⟩).1 [] [], (jTextR ⟨ofL (c :: a), false⟩).2) else (.mk 2 false (jNumR ⟨ofL (c :: a), false⟩).1 eS [] [], (jNumR ⟨ofL (c :: a), false⟩).2) := by
  have e1 := skip_not (d := 110) a [117, 108, 108] h1
  have e2 := skip_not (d := 116) a [114, 117, 101] h2
  have e3 := skip_not (d := 102) a [97, 108, 115, 101] h3
  have e4 := skip_not (d := 91) a [] h4
  have e5 := skip_not (d := 123) a [] h5
  rw [jNodeR]
  rw [show nullS = ofL [110, 117, 108, 108] from rfl, show trueS = ofL [116, 114, 117, 101] from rfl, show falseS = ofL [102, 97, 108, 115, 101] from rfl, show (⟨#[91]⟩ : ByteArray) = ofL [91] from rfl, show (⟨#[123]⟩ : ByteArray) = ofL [123] from rfl]
  rw [e1, e2, e3, e4, e5]
  simp only [Bool.false_eq_true, if_false]
theorem jNode_back {V : ByteArray → Bool} : ∀ (x : Nd) (d : Nat), x.validB V d = true → x.In → ∀ t : List UInt8, numEnd t → jNodeR d ⟨ofL (x.jb ++ t), false⟩ = (x, ⟨ofL t, false⟩)
  | .mk k b n t ns is, d, hv, hin, u, hu => by
    rw [valid_mk] at hv
    obtain ⟨h1, h2, h3, h4, h5, h6, h7, h8⟩ := hv
    cases hin with
    | mk i1 i2 i3 =>
    obtain ⟨d, rfl⟩ : ∃ e, d = e + 1 := ⟨d - 1, by omega⟩
    have e8 : (((d + 1 : Nat) : Int) - 1) = (d : Int) := by omega
    rw [e8] at h8
    have fld := h4
    simp only [Nd.fieldsOK, Bool.and_eq_true, Bool.or_eq_true, decide_eq_true_eq, Bool.not_eq_true'] at fld
    have hb : ¬ k = 1 → b = false := fun h => by rcases fld.1.1.1.1 with q | q <;> simp_all
    have hn : ¬ k = 2 → n = 0 := fun h => by rcases fld.1.1.1.2 with q | q <;> simp_all
    have ht : ¬ k = 3 → t = eS := fun h => by
      rcases fld.1.1.2 with q | q
      · exact absurd q h
      · cases t with
        | mk a => simp_all [eS]
    have hns : ¬ k = 5 → ns = [] := fun h => by
      rcases fld.2 with q | q
      · exact absurd q h
      · exact List.eq_nil_of_length_eq_zero (by omega)
    have his : ¬ (k = 4 ∨ k = 5) → is = [] := fun h => by
      rcases fld.1.2 with q | q
      · exact absurd q h
      · exact List.eq_nil_of_length_eq_zero (by omega)
    have hk : k = 0 ∨ k = 1 ∨ k = 2 ∨ k = 3 ∨ k = 4 ∨ k = 5 := by omega
    rcases hk with rfl | rfl | rfl | rfl | rfl | rfl
    · rw [hb (by decide), hn (by decide), ht (by decide), hns (by decide), his (by decide)]
      rw [show (Nd.mk 0 false 0 eS [] []).jb = jNull by simp [Nd.jb], jNodeR, show nullS = ofL jNull from rfl, skip_back]
      rfl
    · rw [hn (by decide), ht (by decide), hns (by decide), his (by decide)]
      cases b with
      | true =>
        rw [show (Nd.mk 1 true 0 eS [] []).jb = jTrue by simp [Nd.jb], jNodeR, show nullS = ofL (110 :: [117, 108, 108]) from rfl, show jTrue ++ u = 116 :: ([114, 117, 101] ++ u) from rfl, skip_not _ _ (by decide)]
        rw [show (116 :: ([114, 117, 101] ++ u) : List UInt8) = jTrue ++ u from rfl, show trueS = ofL jTrue from rfl, skip_back]
        rfl
      | false =>
        rw [show (Nd.mk 1 false 0 eS [] []).jb = jFalse by simp [Nd.jb], jNodeR, show nullS = ofL (110 :: [117, 108, 108]) from rfl, show trueS = ofL (116 :: [114, 117, 101]) from rfl, show jFalse ++ u = 102 :: ([97, 108, 115, 101] ++ u) from rfl, skip_not _ _ (by decide), skip_not _ _ (by decide)]
        rw [show (102 :: ([97, 108, 115, 101] ++ u) : List UInt8) = jFalse ++ u from rfl, show falseS = ofL jFalse from rfl, skip_back]
        rfl
    · rw [hb (by decide), ht (by decide), hns (by decide), his (by decide)]
      rw [show (Nd.mk 2 false n eS [] []).jb = itoa n by simp [Nd.jb]]
      have hN := jNumR_back n u i1 i2 hu
      obtain ⟨c, l, hc⟩ : ∃ c l, itoa n = c :: l := by
        have := (itoa_len n i1 i2).1
        cases h : itoa n with
        | nil => rw [h] at this; simp at this
        | cons c l => exact ⟨c, l, rfl⟩
      have hnum := itoa_num n c (by rw [hc]; simp)
      rw [hc, List.cons_append] at hN ⊢
      have ne : ∀ a : UInt8, isNumC a = false → c ≠ a := fun a ha e => by subst e; rw [ha] at hnum; cases hnum
      rw [jNode_other (ne _ rfl) (ne _ rfl) (ne _ rfl) (ne _ rfl) (ne _ rfl), hasP_head c _ (ne _ rfl), hN]
      rfl
    · rw [hb (by decide), hn (by decide), hns (by decide), his (by decide)]
      rw [show (Nd.mk 3 false 0 t [] []).jb = jQ t by simp [Nd.jb]]
      have hT := jTextR_back t u
      have e : jQ t ++ u = 34 :: (jEscs t.data.toList ++ [34] ++ u) := by simp [jQ]
      rw [e] at hT ⊢
      rw [jNode_other (by decide) (by decide) (by decide) (by decide) (by decide), hasP_quote, hT]
      rfl
    · rw [hb (by decide), hn (by decide), ht (by decide), hns (by decide)]
      have e : (Nd.mk 4 false 0 eS [] is).jb ++ u = 91 :: (Nd.jbs true is ++ 93 :: u) := by simp [Nd.jb]
      rw [e, jNodeR, show nullS = ofL (110 :: [117, 108, 108]) from rfl, show trueS = ofL (116 :: [114, 117, 101]) from rfl, show falseS = ofL (102 :: [97, 108, 115, 101]) from rfl, skip_not _ _ (by decide), skip_not _ _ (by decide), skip_not _ _ (by decide)]
      rw [show (⟨#[91]⟩ : ByteArray) = ofL [91] from rfl, show (91 :: (Nd.jbs true is ++ 93 :: u)) = [91] ++ (Nd.jbs true is ++ 93 :: u) from rfl, skip_back]
      simp only [Bool.false_eq_true, if_false, if_true]
      have hj : ∀ x ∈ is, ∃ c l, x.jb = c :: l ∧ c ≠ 93 ∧ c ≠ 44 := fun x hx => jb_head x _ (h8 x hx)
      have hl := jbs_len true is fun x hx => by obtain ⟨c, l, q, _⟩ := hj x hx; rw [q]; simp
      rw [jItems_list (jNodeR d) is true [] [] u _ (by simp only [ofL_size, List.length_append, List.length_cons]; omega) fun x hx => ⟨hj x hx, fun t' ht' => jNode_back x d (h8 x hx) (i3 x hx) t' ht'⟩]
      simp
    · rw [hb (by decide), hn (by decide), ht (by decide)]
      have e : (Nd.mk 5 false 0 eS ns is).jb ++ u = 123 :: (Nd.jbm true ns is ++ 125 :: u) := by simp [Nd.jb]
      have hl5 := (h7 rfl).2
      rw [e, jNodeR, show nullS = ofL (110 :: [117, 108, 108]) from rfl, show trueS = ofL (116 :: [114, 117, 101]) from rfl, show falseS = ofL (102 :: [97, 108, 115, 101]) from rfl, show (⟨#[91]⟩ : ByteArray) = ofL (91 :: []) from rfl, skip_not _ _ (by decide), skip_not _ _ (by decide), skip_not _ _ (by decide), skip_not _ _ (by decide)]
      rw [show (⟨#[123]⟩ : ByteArray) = ofL [123] from rfl, show (123 :: (Nd.jbm true ns is ++ 125 :: u)) = [123] ++ (Nd.jbm true ns is ++ 125 :: u) from rfl, skip_back]
      simp only [Bool.false_eq_true, if_false, if_true]
      have hl := jbm_len true ns is hl5
      rw [jItems_map (jNodeR d) ns is true [] [] u _ hl5 (by simp only [ofL_size, List.length_append, List.length_cons]; omega) fun x hx t' ht' => jNode_back x d (h8 x hx) (i3 x hx) t' ht']
      simp
termination_by x => SizeOf.sizeOf x
decreasing_by
  all_goals
    have := List.sizeOf_lt_of_mem hx
    simp only [Nd.mk.sizeOf_spec]
    omega
end Go.AL
/- What the reader of the first serialisation takes; no program in sight. -/
set_option linter.unusedVariables false
namespace Go.AL
open Go Go.RowKit

theorem skip_yes {r : Rs} {t : ByteArray} (h : (r.skip t).1 = true) : r.bad = false ∧ (r.skip t).2.bad = false ∧ (r.skip t).2.s.size + t.size = r.s.size := by
  unfold Rs.skip at h ⊢
  split at h
  · rename_i hc
    rw [if_pos hc]
    simp only [Bool.and_eq_true, Bool.not_eq_true', hasP, decide_eq_true_eq] at hc
    refine ⟨hc.2, rfl, ?_⟩
    have := hc.1.1
    simp only [ByteArray.size_extract]; omega
  · cases h
theorem skip_no {r : Rs} {t : ByteArray} (h : ¬ (r.skip t).1 = true) : (r.skip t).2 = r := by
  unfold Rs.skip at h ⊢
  split
  · rename_i hc; rw [if_pos hc] at h; exact absurd rfl h
  · rfl
theorem skip_le (r : Rs) (t : ByteArray) : (r.skip t).2.s.size ≤ r.s.size := by
  by_cases h : (r.skip t).1 = true
  · have := (skip_yes h).2.2; omega
  · rw [skip_no h]; exact Nat.le_refl _
theorem expect_good {r : Rs} {t : ByteArray} (h : (r.expect t).bad = false) : r.bad = false ∧ (r.expect t).s.size + t.size = r.s.size := by
  unfold Rs.expect at h ⊢
  split at h
  · rename_i hc; rw [if_pos hc]; exact ⟨(skip_yes hc).1, (skip_yes hc).2.2⟩
  · cases h
theorem expect_le (r : Rs) (t : ByteArray) : (r.expect t).s.size ≤ r.s.size := by
  unfold Rs.expect
  split
  · exact skip_le r t
  · exact Nat.le_refl _
theorem pgo_lt (mx : Nat) : ∀ (l : List UInt8) (a n : Nat), a ≤ mx → pgo mx l a = .ok n → n ≤ mx
  | [], a, n, ha, h => by simp only [pgo] at h; cases h; exact ha
  | c :: l, a, n, ha, h => by
    simp only [pgo] at h
    split at h
    · cases h
    · split at h
      · cases h
      · exact pgo_lt mx l _ n (by omega) h
theorem pu8_range (t : ByteArray) : 0 ≤ (pu8 t).1 ∧ (pu8 t).1 < 256 := by
  unfold pu8
  split
  · simp
  · split
    · rename_i n h
      have := pgo_lt 255 _ 0 n (by omega) h
      simp only; omega
    · simp only; split <;> omega
theorem jEscR_range (r : Rs) : 0 ≤ (jEscR r).1 ∧ (jEscR r).1 < 256 := by
  unfold jEscR
  split
  · exact pu8_range _
  · split
    · rename_i c _; have := c.toNat_lt; simp only; omega
    · simp
theorem jEscR_le (r : Rs) : (jEscR r).2.s.size ≤ r.s.size := by
  have h1 := byte_le r
  have h2 := take_le r.byte.2 4
  unfold jEscR
  split
  · simp only
    split
    · exact Nat.le_trans h2 h1
    · exact Nat.le_trans h2 h1
  · split
    · exact h1
    · exact h1
theorem jEscR_good {r : Rs} (h : (jEscR r).2.bad = false) : r.bad = false ∧ (jEscR r).2.s.size + 1 ≤ r.s.size := by
  have hb := byte_le r
  unfold jEscR at h ⊢
  split at h
  · rename_i h1
    rw [if_pos h1]
    simp only at h ⊢
    split at h
    · rename_i h2
      rw [if_pos h2]
      have q := take_good h
      have q2 := byte_good q.1
      exact ⟨q2.1, by omega⟩
    · cases h
  · rename_i h1
    rw [if_neg h1]
    split at h
    · rename_i c hc
      have q2 := byte_good h
      exact ⟨q2.1, by simp only; omega⟩
    · cases h
theorem jTextL_le : ∀ (f : Nat) (out : List UInt8) (r : Rs), (jTextL f out r).2.s.size ≤ r.s.size
  | 0, out, r => Nat.le_refl _
  | f + 1, out, r => by
    have h1 := byte_le r
    have h2 := jEscR_le r.byte.2
    rw [jTextL]
    split
    · exact Nat.le_refl _
    split
    · exact h1
    split
    · exact Nat.le_trans (jTextL_le f _ _) (Nat.le_trans h2 h1)
    · exact Nat.le_trans (jTextL_le f _ _) h1
theorem jTextL_good : ∀ (f : Nat) (out : List UInt8) (r : Rs), (jTextL f out r).2.bad = false → r.bad = false ∧ (jTextL f out r).2.s.size + (jTextL f out r).1.size ≤ r.s.size + out.length
  | 0, out, r, h => by
    have h : r.bad = false := h
    exact ⟨h, by show r.s.size + 0 ≤ _; omega⟩
  | f + 1, out, r, h => by
    rw [jTextL] at h ⊢
    split at h
    · rename_i h1; have h : r.bad = false := h; rw [h1] at h; cases h
    rename_i h1
    rw [if_neg h1]
    have hb : r.bad = false := by simpa using h1
    split at h
    · rename_i h2
      rw [if_pos h2]
      have := byte_good h
      exact ⟨hb, by simp only [ofL_size]; omega⟩
    rename_i h2
    rw [if_neg h2]
    split at h
    · rename_i h3
      rw [if_pos h3]
      have ih := jTextL_good f _ _ h
      have q := jEscR_good ih.1
      have q2 := byte_good q.1
      refine ⟨hb, ?_⟩
      have := ih.2
      simp only [List.length_append, List.length_singleton] at this; omega
    · rename_i h3
      rw [if_neg h3]
      have ih := jTextL_good f _ _ h
      have q2 := byte_good ih.1
      refine ⟨hb, ?_⟩
      have := ih.2
      simp only [List.length_append, List.length_singleton] at this; omega
theorem jTextR_le (r : Rs) : (jTextR r).2.s.size ≤ r.s.size := Nat.le_trans (jTextL_le _ _ _) (expect_le _ _)
theorem jTextR_good {r : Rs} (h : (jTextR r).2.bad = false) : r.bad = false ∧ (jTextR r).2.s.size + (jTextR r).1.size + 1 ≤ r.s.size := by
  have q := jTextL_good _ _ _ h
  have q2 := expect_good q.1
  refine ⟨q2.1, ?_⟩
  have h1 : qS.size = 1 := rfl
  have := q.2
  simp only [List.length_nil] at this
  show (jTextL _ _ _).2.s.size + (jTextL _ _ _).1.size + 1 ≤ _
  omega
theorem jNumR_le (r : Rs) : (jNumR r).2.s.size ≤ r.s.size := by
  have := take_le r (jRun r.s)
  unfold jNumR
  split <;> exact this
theorem jNumR_good {r : Rs} (h : (jNumR r).2.bad = false) : r.bad = false ∧ (jNumR r).2.s.size + 1 ≤ r.s.size ∧ -9223372036854775808 ≤ (jNumR r).1 ∧ (jNumR r).1 ≤ 9223372036854775807 := by
  unfold jNumR at h ⊢
  split at h
  · rename_i v hv
    have q := take_good h
    have hb := Lib.atoiAll_bounds hv
    simp only
    refine ⟨q.1, ?_, hb.1, hb.2⟩
    rcases Nat.lt_or_ge 0 (jRun r.s) with h0 | h0
    · have := q.2.2.2.2
      simp only [Int.toNat_natCast] at this; omega
    · exfalso
      have e : (r.take (jRun r.s)).1 = eS := by
        have := q.2.2.2.1
        simp only [Int.toNat_natCast] at this
        have h2 : (r.take (jRun r.s)).1.size = 0 := by omega
        cases hh : (r.take (jRun r.s)).1 with
        | mk a =>
          rw [hh] at h2
          have h3 : a.size = 0 := by
            have h4 : (ByteArray.mk a).size = a.size := rfl
            have h5 := q.2.2.2.1
            omega
          have h6 : a = #[] := by simpa using h3
          rw [h6]; rfl
      rw [e] at hv
      cases hv
  · cases h
  · cases h
/-- A reader of a node that takes at least its text's part. -/
def JGood (f : Rs → Nd × Rs) : Prop := ∀ r, (f r).2.bad = false → r.bad = false ∧ (f r).1.jb.length + 21 * (f r).2.s.size ≤ 21 * r.s.size ∧ (f r).1.In
theorem jSep_good {first : Bool} {r : Rs} (h : (jSep first r).bad = false) : r.bad = false ∧ (jSep first r).s.size + (if first then 0 else 1) = r.s.size := by
  unfold jSep at h ⊢
  cases first with
  | true => exact ⟨h, rfl⟩
  | false => exact expect_good h
theorem jSep_le (first : Bool) (r : Rs) : (jSep first r).s.size ≤ r.s.size := by
  unfold jSep
  split
  · exact Nat.le_refl _
  · exact expect_le _ _
theorem jItems_good4 (f : Rs → Nd × Rs) (hf : JGood f) (e : ByteArray) : ∀ (c : Nat) (first : Bool) (ns : List ByteArray) (is : List Nd) (r : Rs), (first = true → is = []) → (∀ x ∈ is, x.In) → (jItemsR f 4 e c first ns is r).2.bad = false →
    ∃ is', (jItemsR f 4 e c first ns is r).1 = .mk 4 false 0 eS ns is' ∧ r.bad = false ∧ (Nd.jbs true is').length + 21 * (jItemsR f 4 e c first ns is r).2.s.size ≤ (Nd.jbs true is).length + 21 * r.s.size ∧ ∀ x ∈ is', x.In
  | 0, first, ns, is, r, h1, h2, h => ⟨is, rfl, h, Nat.le_refl _, h2⟩
  | c + 1, first, ns, is, r, h1, h2, h => by
    by_cases hb : r.bad = true
    · rw [jItemsR, if_pos hb] at h
      have h : r.bad = false := h
      rw [hb] at h; cases h
    have hb' : r.bad = false := by simpa using hb
    by_cases hs : (r.skip e).1 = true
    · rw [jItemsR, if_neg hb, if_pos hs] at h ⊢
      have := (skip_yes hs).2.2
      exact ⟨is, rfl, hb', by simp only; omega, h2⟩
    rw [jItemsR, if_neg hb, if_neg hs, if_neg (by decide)] at h ⊢
    have hin : ∀ x ∈ is ++ [(f (jSep first r)).1], (f (jSep first r)).1.In → x.In := fun x hx hi => by
      rcases List.mem_append.1 hx with q | q
      · exact h2 x q
      · rw [List.mem_singleton.1 q]; exact hi
    have key : ∀ (hfi : (f (jSep first r)).1.In), _ := fun hfi => jItems_good4 f hf e c false ns (is ++ [(f (jSep first r)).1]) (f (jSep first r)).2 (fun h => by cases h) (fun x hx => hin x hx hfi) h
    have hbad : (f (jSep first r)).2.bad = false := by
      -- what goes on is not bad only where it began so
      have mono : ∀ (c : Nat) (first : Bool) (ns : List ByteArray) (is : List Nd) (r : Rs), (jItemsR f 4 e c first ns is r).2.bad = false → r.bad = false := by
        intro c
        induction c with
        | zero => intro first ns is r h; exact h
        | succ c ih =>
          intro first ns is r h
          rw [jItemsR] at h
          split at h
          · exact h
          · rename_i q; simpa using q
      exact mono _ _ _ _ _ h
    obtain ⟨q1, q2, q3⟩ := hf _ hbad
    obtain ⟨is', e1, e2, e3, e4⟩ := key q3
    have hsep := jSep_good q1
    refine ⟨is', e1, hb', ?_, e4⟩
    rw [jbs_snoc] at e3
    simp only [List.length_append, Bool.true_and] at e3
    have hcom : ((if is.isEmpty then [] else [44] : List UInt8)).length ≤ 21 * (if first then 0 else 1) := by
      cases first with
      | true => rw [h1 rfl]; simp
      | false => split <;> simp
    have := hsep.2
    omega
theorem jItems_good5 (f : Rs → Nd × Rs) (hf : JGood f) (e : ByteArray) : ∀ (c : Nat) (first : Bool) (ns : List ByteArray) (is : List Nd) (r : Rs), ns.length = is.length → (first = true → is = []) → (∀ x ∈ is, x.In) → (jItemsR f 5 e c first ns is r).2.bad = false →
    ∃ ns' is', (jItemsR f 5 e c first ns is r).1 = .mk 5 false 0 eS ns' is' ∧ r.bad = false ∧ (Nd.jbm true ns' is').length + 21 * (jItemsR f 5 e c first ns is r).2.s.size ≤ (Nd.jbm true ns is).length + 21 * r.s.size ∧ ∀ x ∈ is', x.In
  | 0, first, ns, is, r, hl, h1, h2, h => ⟨ns, is, rfl, h, Nat.le_refl _, h2⟩
  | c + 1, first, ns, is, r, hl, h1, h2, h => by
    by_cases hb : r.bad = true
    · rw [jItemsR, if_pos hb] at h
      have h : r.bad = false := h
      rw [hb] at h; cases h
    have hb' : r.bad = false := by simpa using hb
    by_cases hs : (r.skip e).1 = true
    · rw [jItemsR, if_neg hb, if_pos hs] at h ⊢
      have := (skip_yes hs).2.2
      exact ⟨ns, is, rfl, hb', by simp only; omega, h2⟩
    rw [jItemsR, if_neg hb, if_neg hs, if_pos rfl] at h ⊢
    generalize hT : jTextR (jSep first r) = T at *
    obtain ⟨s, q⟩ := T
    simp only at h ⊢
    generalize hF : f (q.expect ⟨#[58]⟩) = F at *
    obtain ⟨x, p⟩ := F
    simp only at h ⊢
    have mono : ∀ (c : Nat) (first : Bool) (ns : List ByteArray) (is : List Nd) (r : Rs), (jItemsR f 5 e c first ns is r).2.bad = false → r.bad = false := by
      intro c
      induction c with
      | zero => intro first ns is r h; exact h
      | succ c ih =>
        intro first ns is r h
        rw [jItemsR] at h
        split at h
        · exact h
        · rename_i q; simpa using q
    have hbad : p.bad = false := mono _ _ _ _ _ h
    have hf1 := hf (q.expect ⟨#[58]⟩)
    rw [hF] at hf1
    obtain ⟨q1, q2, q3⟩ := hf1 hbad
    have hcol := expect_good q1
    have htx := jTextR_good (r := jSep first r)
    rw [hT] at htx
    have htx := htx hcol.1
    have hsep := jSep_good htx.1
    obtain ⟨ns', is', e1, e2, e3, e4⟩ := jItems_good5 f hf e c false (ns ++ [s]) (is ++ [x]) p (by simp [hl]) (fun h => by cases h) (fun y hy => by
      rcases List.mem_append.1 hy with q | q
      · exact h2 y q
      · rw [List.mem_singleton.1 q]; exact q3) h
    refine ⟨ns', is', e1, hb', ?_, e4⟩
    rw [jbm_snoc true ns is s x hl] at e3
    simp only [List.length_append, List.length_cons, Bool.true_and] at e3
    have hcom : ((if is.isEmpty then [] else [44] : List UInt8)).length ≤ 21 * (if first then 0 else 1) := by
      cases first with
      | true => rw [h1 rfl]; simp
      | false => split <;> simp
    have hq := (jQ_len s).2
    have c58 : (⟨#[58]⟩ : ByteArray).size = 1 := rfl
    have h4 := hcol.2
    have h5 := htx.2
    have h6 := hsep.2
    simp only at q2 h5
    omega
theorem jNode_good : ∀ d : Nat, JGood (jNodeR d)
  | 0 => fun r h => by cases h
  | d + 1 => fun r h => by
    rw [jNodeR] at h ⊢
    split at h
    · rename_i h1
      rw [if_pos h1]
      have q := skip_yes h1
      have : nullS.size = 4 := rfl
      refine ⟨q.1, ?_, .mk (by decide) (by decide) (by simp)⟩
      show Nd.zero.jb.length + _ ≤ _
      rw [show Nd.zero.jb = jNull by simp [Nd.zero, Nd.jb]]
      simp only [jNull, List.length_cons, List.length_nil]; omega
    rename_i h1
    rw [if_neg h1]
    split at h
    · rename_i h2
      rw [if_pos h2]
      have q := skip_yes h2
      have : trueS.size = 4 := rfl
      refine ⟨q.1, ?_, .mk (by decide) (by decide) (by simp)⟩
      simp only
      rw [show (Nd.mk 1 true 0 eS [] []).jb = jTrue by simp [Nd.jb]]
      simp only [jTrue, List.length_cons, List.length_nil]; omega
    rename_i h2
    rw [if_neg h2]
    split at h
    · rename_i h3
      rw [if_pos h3]
      have q := skip_yes h3
      have : falseS.size = 5 := rfl
      refine ⟨q.1, ?_, .mk (by decide) (by decide) (by simp)⟩
      simp only
      rw [show (Nd.mk 1 false 0 eS [] []).jb = jFalse by simp [Nd.jb]]
      simp only [jFalse, List.length_cons, List.length_nil]; omega
    rename_i h3
    rw [if_neg h3]
    split at h
    · rename_i h4
      rw [if_pos h4]
      have q := skip_yes h4
      have c1 : (⟨#[91]⟩ : ByteArray).size = 1 := rfl
      obtain ⟨is', e1, e2, e3, e4⟩ := jItems_good4 (jNodeR d) (jNode_good d) ⟨#[93]⟩ _ true [] [] _ (fun _ => rfl) (by simp) h
      refine ⟨q.1, ?_, ?_⟩
      · rw [e1, show (Nd.mk 4 false 0 eS [] is').jb = 91 :: (Nd.jbs true is' ++ [93]) by simp [Nd.jb]]
        simp only [Nd.jbs, List.length_nil] at e3
        simp only [List.length_cons, List.length_append, List.length_nil]; omega
      · rw [e1]; exact .mk (by decide) (by decide) e4
    rename_i h4
    rw [if_neg h4]
    split at h
    · rename_i h5
      rw [if_pos h5]
      have q := skip_yes h5
      have c1 : (⟨#[123]⟩ : ByteArray).size = 1 := rfl
      obtain ⟨ns', is', e1, e2, e3, e4⟩ := jItems_good5 (jNodeR d) (jNode_good d) ⟨#[125]⟩ _ true [] [] _ rfl (fun _ => rfl) (by simp) h
      refine ⟨q.1, ?_, ?_⟩
      · rw [e1, show (Nd.mk 5 false 0 eS ns' is').jb = 123 :: (Nd.jbm true ns' is' ++ [125]) by simp [Nd.jb]]
        simp only [Nd.jbm, List.length_nil] at e3
        simp only [List.length_cons, List.length_append, List.length_nil]; omega
      · rw [e1]; exact .mk (by decide) (by decide) e4
    rename_i h5
    rw [if_neg h5]
    split at h
    · rename_i h6
      rw [if_pos h6]
      have q := jTextR_good h
      have hq := (jQ_len (jTextR r).1).2
      refine ⟨q.1, ?_, .mk (by decide) (by decide) (by simp)⟩
      simp only
      rw [show (Nd.mk 3 false 0 (jTextR r).1 [] []).jb = jQ (jTextR r).1 by simp [Nd.jb]]
      have := q.2; omega
    · rename_i h6
      rw [if_neg h6]
      have q := jNumR_good h
      have hq := (itoa_len (jNumR r).1 q.2.2.1 q.2.2.2).2
      refine ⟨q.1, ?_, .mk q.2.2.1 q.2.2.2 (by simp)⟩
      simp only
      rw [show (Nd.mk 2 false (jNumR r).1 eS [] []).jb = Lib.itoa (jNumR r).1 by simp [Nd.jb]]
      have := q.2.1; omega
end Go.AL
/- The first serialisation as plain data: it comes back, and what is read is small; no program in sight. -/
set_option linter.unusedVariables false
namespace Go.AL
open Go Go.RowKit

/-- The first serialisation. -/
def jsC : Codec where
  E := Nd.jb
  R s := jNodeR 8 ⟨s, false⟩
  back := fun {V x} hv hin => by
    have := jNode_back x 8 hv hin [] (by simp [numEnd])
    rw [List.append_nil] at this
    exact this
  good := fun {s} h => (jNode_good 8 ⟨s, false⟩ h).2.2
theorem jEnc_gEnc (V : ByteArray → Bool) (x : Nd) : jEnc V x = gEnc jsC V x := rfl
theorem jb_pos {V : ByteArray → Bool} (x : Nd) (h0 : -9223372036854775808 ≤ x.num) (h1 : x.num ≤ 9223372036854775807) : 1 ≤ x.jb.length := by
  cases x with
  | mk k b n t ns is =>
  simp only [Nd.num] at h0 h1
  unfold Nd.jb
  repeat' split
  all_goals first | (simp [jNull, jTrue, jFalse, jQ]; done) | exact (itoa_len n h0 h1).1
theorem in_num {x : Nd} (h : x.In) : -9223372036854775808 ≤ x.num ∧ x.num ≤ 9223372036854775807 := by
  cases h with
  | mk a b c => exact ⟨a, b⟩
theorem jNode_less (d : Nat) (r : Rs) (h : (jNodeR d r).2.bad = false) : r.bad = false ∧ (jNodeR d r).2.s.size + 1 ≤ r.s.size := by
  obtain ⟨h1, h2, h3⟩ := jNode_good d r h
  have := jb_pos (V := fun _ => true) (jNodeR d r).1 (in_num h3).1 (in_num h3).2
  exact ⟨h1, by omega⟩
theorem jItems_le (f : Rs → Nd × Rs) (k : Int) (e : ByteArray) (B : Nat) (hf : ∀ r : Rs, r.s.size ≤ B → (f r).2.s.size ≤ B ∧ (f r).1.Ok) : ∀ (c : Nat) (first : Bool) (ns : List ByteArray) (is : List Nd) (r : Rs), r.s.size ≤ B → ns.length + c ≤ 1000000000 → is.length + c ≤ 1000000000 → (∀ x ∈ is, x.Ok) → (jItemsR f k e c first ns is r).2.s.size ≤ B ∧ (jItemsR f k e c first ns is r).1.Ok
  | 0, first, ns, is, r, hr, h1, h2, h3 => ⟨hr, .mk (by omega) (by omega) h3⟩
  | c + 1, first, ns, is, r, hr, h1, h2, h3 => by
    unfold jItemsR
    have key : ∀ (y : Nd), y.Ok → ∀ x ∈ is ++ [y], x.Ok := fun y hy x hx => by
      rcases List.mem_append.1 hx with h | h
      · exact h3 x h
      · rw [List.mem_singleton.1 h]; exact hy
    split
    · exact ⟨hr, .mk (by omega) (by omega) h3⟩
    split
    · exact ⟨Nat.le_trans (skip_le r e) hr, .mk (by omega) (by omega) h3⟩
    have hs := Nat.le_trans (jSep_le first r) hr
    split
    · have h := hf ((jTextR (jSep first r)).2.expect ⟨#[58]⟩) (Nat.le_trans (expect_le _ _) (Nat.le_trans (jTextR_le _) hs))
      exact jItems_le f k e B hf c _ _ _ _ h.1 (by simp; omega) (by simp; omega) (key _ h.2)
    · have h := hf (jSep first r) hs
      exact jItems_le f k e B hf c _ _ _ _ h.1 (by omega) (by simp; omega) (key _ h.2)
theorem jNode_le (B : Nat) (hB : B ≤ 500000000) : ∀ (d : Nat) (r : Rs), r.s.size ≤ B → (jNodeR d r).2.s.size ≤ B ∧ (jNodeR d r).1.Ok
  | 0, r, hr => ⟨hr, zero_ok⟩
  | d + 1, r, hr => by
    have hs := fun t => Nat.le_trans (skip_le r t) hr
    rw [jNodeR]
    split
    · exact ⟨hs _, zero_ok⟩
    split
    · exact ⟨hs _, .mk (by simp) (by simp) (by simp)⟩
    split
    · exact ⟨hs _, .mk (by simp) (by simp) (by simp)⟩
    split
    · have := hs ⟨#[91]⟩
      exact jItems_le (jNodeR d) 4 _ B (jNode_le B hB d) _ _ _ _ _ this (by simp; omega) (by simp; omega) (by simp)
    split
    · have := hs ⟨#[123]⟩
      exact jItems_le (jNodeR d) 5 _ B (jNode_le B hB d) _ _ _ _ _ this (by simp; omega) (by simp; omega) (by simp)
    split
    · exact ⟨Nat.le_trans (jTextR_le r) hr, .mk (by simp) (by simp) (by simp)⟩
    · exact ⟨Nat.le_trans (jNumR_le r) hr, .mk (by simp) (by simp) (by simp)⟩
end Go.AL
/- How many bytes the kit's nodes take in the first serialisation, as plain data; no program in sight. -/
set_option linter.unusedVariables false
namespace Go.AL
open Go Go.RowKit

/-- The bytes of nodes, and one more for each. -/
def jsum : List Nd → Nat
  | [] => 0
  | x :: l => x.jb.length + 1 + jsum l
theorem jsum_app : ∀ a b : List Nd, jsum (a ++ b) = jsum a + jsum b
  | [], b => by simp [jsum]
  | x :: a, b => by simp only [List.cons_append, jsum, jsum_app a b]; omega
theorem zero_jb : Nd.zero.jb.length = 4 := by simp [Nd.zero, Nd.jb, jNull]
theorem jsum_zeros : ∀ m, jsum (List.replicate m Nd.zero) = 5 * m
  | 0 => rfl
  | m + 1 => by simp only [List.replicate_succ, jsum, zero_jb, jsum_zeros m]; omega
theorem jsum_le {B : Nat} : ∀ {l : List Nd}, (∀ x ∈ l, x.jb.length ≤ B) → jsum l ≤ l.length * (B + 1)
  | [], _ => by simp [jsum]
  | x :: l, h => by
    have h1 := h x (by simp)
    have h2 := jsum_le (l := l) (fun y hy => h y (by simp [hy]))
    simp only [jsum, List.length_cons, Nat.add_mul] at *; omega
theorem jbs_sum : ∀ (f : Bool) (l : List Nd), (Nd.jbs f l).length ≤ jsum l
  | f, [] => by simp [Nd.jbs, jsum]
  | f, x :: l => by
    have := jbs_sum false l
    simp only [Nd.jbs, jsum, List.length_append]
    split <;> simp <;> omega
theorem jbm_sum {C : Nat} : ∀ (f : Bool) (ns : List ByteArray) (l : List Nd), (∀ s ∈ ns, s.size ≤ C) → (Nd.jbm f ns l).length ≤ jsum l + l.length * (6 * C + 3)
  | f, [], l, _ => by cases l <;> simp [Nd.jbm]
  | f, s :: ns, [], _ => by simp [Nd.jbm, jsum]
  | f, s :: ns, x :: l, h => by
    have h1 := h s (by simp)
    have h2 := jbm_sum (C := C) false ns l (fun y hy => h y (by simp [hy]))
    have h3 := (jQ_len s).2
    have h4 : (l.length + 1) * (6 * C + 3) = l.length * (6 * C + 3) + (6 * C + 3) := by rw [Nat.add_mul, Nat.one_mul]
    simp only [Nd.jbm, jsum, List.length_append, List.length_cons, h4]
    split <;> simp <;> omega
theorem kSeq_jb (k : Int) (hk : k = 4 ∨ k = 5) (f : Dc → Nd × Dc) (B : Nat) (hB : 1 ≤ B) (hf : ∀ d, (f d).1.jb.length ≤ B) (d : Dc) : (kSeq k f d).1.jb.length ≤ 3 * B + 500 := by
  have hq := d.next_lt 4 (by omega)
  have hl := kItems_len f (d.next 4).1.toNat (d.next 4).2
  have ha := kItems_all f (fun x => x.jb.length ≤ B) hf (d.next 4).1.toNat (d.next 4).2
  unfold kSeq
  simp only
  generalize kItems f (d.next 4).1.toNat (d.next 4).2 = is at hl ha ⊢
  have hg : ∃ g : List Nd × Dc, (if (is.2.next 20).1 = 1 then kFill 20 is.1 (is.2.next 20).2 else (is.1, (is.2.next 20).2)) = g ∧ g.1.length ≤ 17 ∧ jsum g.1 ≤ 3 * B + 3 + 85 := by
    have hb := jsum_le (B := B) (l := is.1) ha
    have hb3 : is.1.length * (B + 1) ≤ 3 * (B + 1) := Nat.mul_le_mul_right _ (by omega)
    refine ⟨_, rfl, ?_⟩
    split
    · obtain ⟨m, h1, h2⟩ := kFill_shape 20 is.1 (is.2.next 20).2 (by omega)
      rw [h1]
      refine ⟨by simp; omega, ?_⟩
      rw [jsum_app, jsum_zeros]; omega
    · exact ⟨by simp only; omega, by simp only; omega⟩
  obtain ⟨g, e1, e2, e3⟩ := hg
  rw [e1]
  rcases hk with rfl | rfl
  · rw [show (Nd.mk 4 false 0 eS (if (4 : Int) = 5 then kNames g.1.length 0 g.2 else ([], g.2)).1 g.1).jb = 91 :: (Nd.jbs true g.1 ++ [93]) by simp [Nd.jb]]
    have := jbs_sum true g.1
    simp only [List.length_cons, List.length_append, List.length_nil]; omega
  · have h3 := jbm_sum (C := 3) true (kNames g.1.length 0 g.2).1 g.1 (kNames_size _ _ _)
    have h4 : g.1.length * (6 * 3 + 3) ≤ 17 * 21 := Nat.mul_le_mul_right _ e2
    rw [show (Nd.mk 5 false 0 eS (if (5 : Int) = 5 then kNames g.1.length 0 g.2 else ([], g.2)).1 g.1).jb = 123 :: (Nd.jbm true (kNames g.1.length 0 g.2).1 g.1 ++ [125]) by simp [Nd.jb]]
    simp only [List.length_cons, List.length_append, List.length_nil]; omega
theorem kTree_jb (rec : Option (Dc → Nd × Dc)) (B : Nat) (hB : 1 ≤ B) (hB2 : rec = none ∨ 1600 ≤ 3 * B + 500) (hf : ∀ f, rec = some f → ∀ d, (f d).1.jb.length ≤ B) (d : Dc) : (kTree rec d).1.jb.length ≤ max 1540 (3 * B + 500) := by
  unfold kTree
  simp only
  split
  · simp only [Nd.jb, show ((1 : Int) = 0) = False from by simp, if_false, if_true]
    split <;> simp [jTrue, jFalse] <;> omega
  · split
    · have h := kNums_in ((d.next 6).2.next 12).1.toNat
      have hn : ∀ n : Int, -9223372036854775808 ≤ n → n ≤ 9223372036854775807 → (Nd.mk 2 false n eS [] []).jb.length ≤ 21 := fun n h0 h1 => by
        rw [show (Nd.mk 2 false n eS [] []).jb = Lib.itoa n by simp [Nd.jb]]
        exact (itoa_len n h0 h1).2
      have := hn (if (((d.next 6).2.next 12).2.next 2).1 = 1 then -1 - kNums.getD ((d.next 6).2.next 12).1.toNat 0 else kNums.getD ((d.next 6).2.next 12).1.toNat 0) (by split <;> omega) (by split <;> omega)
      exact Nat.le_trans this (by omega)
    · split
      · have h := kText_size (d.next 6).2
        rw [show (Nd.mk 3 false 0 (kText (d.next 6).2).1 [] []).jb = jQ (kText (d.next 6).2).1 by simp [Nd.jb]]
        have := (jQ_len (kText (d.next 6).2).1).2
        omega
      · split
        · rename_i hk
          split
          · rcases hk with h | h <;> rw [h] <;> simp [Nd.jb, Nd.jbs, Nd.jbm] <;> omega
          · rename_i f
            have := kSeq_jb _ hk f B hB (hf f rfl) (d.next 6).2
            omega
        · rw [zero_jb]; omega
def kJ : Nat → Nat
  | 0 => 1540
  | 1 => 1540
  | n + 2 => 3 * kJ (n + 1) + 500
theorem kJ_ge : ∀ n, 1540 ≤ kJ n
  | 0 => by decide
  | 1 => by decide
  | n + 2 => by have := kJ_ge (n + 1); simp only [kJ]; omega
theorem kNode_jb : ∀ (n : Nat) (d : Dc), (kNode n d).1.jb.length ≤ kJ n
  | 0, d => by
    have := kTree_jb none 1 (by omega) (.inl rfl) (by simp) d
    exact Nat.le_trans this (by decide)
  | 1, d => by
    have := kTree_jb none 1 (by omega) (.inl rfl) (by simp) d
    exact Nat.le_trans this (by decide)
  | n + 2, d => by
    have h := kJ_ge (n + 1)
    have := kTree_jb (some (kNode (n + 1))) (kJ (n + 1)) (by omega) (.inr (by omega)) (by
      rintro f h
      cases h
      exact fun d => kNode_jb (n + 1) d) d
    exact Nat.le_trans this (by simp only [kJ]; omega)
end Go.AL
