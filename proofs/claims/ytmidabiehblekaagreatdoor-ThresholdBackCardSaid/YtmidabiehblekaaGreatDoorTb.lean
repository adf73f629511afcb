/- What functions of the program and of the document answer, and the plain laws behind it; each under the conditions that its own theorem names. -/
import Derived.Test.YtmidabiehblekaaGreatDoorTa
import Derived.Test.YtmidabiehblekaaGreatDoorAl3
import Derived.Test.YtmidabiehblekaaGreatDoorAl4
import Derived.Lib.ItoaNum
import Derived.Lib.ItoaMem
import Derived.Shelf.Strconv.Itoa1
import Derived.Shelf.Strconv.Itoa2
import Derived.Shelf.Strconv.Itoa3
import Derived.Lib.AppendIntMem
import Derived.Shelf.Strings.Search2
set_option linter.unusedVariables false
namespace Go.AL
open Go Go.Proofs Go.RowKit
def Nd.allText (l : List Nd) : Bool := l.all fun x => decide (x.kind = 3)
def Nd.readTexts (n : Nd) : List ByteArray × Bool := if n.kind = 4 ∧ Nd.allText n.items = true then (n.items.map Nd.text, true) else ([], false)
set_option maxHeartbeats 2000000 in
theorem wh (x : Nd) (h : x.items.length ≤ 1000000000) : Spec Tryz.prog 196 [.t x.toT] [] (.tup [.t (.sl 1 (x.readTexts.1.map .str)), .t (.bool x.readTexts.2)]) [] := by
  cases x with
  | mk k b n t ns is =>
  simp only [Nd.items] at h
  rw [Nd.toT_eq]
  have hr : (Nd.mk k b n t ns is).readTexts = if k = 4 ∧ Nd.allText is = true then (is.map Nd.text, true) else ([], false) := rfl
  generalize (Nd.mk k b n t ns is).readTexts = res at *
  refine zz (env0 := [(0, _)]) (st0 := []) Tryz.func196 rfl rfl rfl rfl ?_
  repeat' (first | refine wC ?_ | refine wK ?_ | refine ye rfl (fun hc => ?_) (fun hc => ?_))
  · have hr2 : res = if Nd.allText is = true then (is.map Nd.text, true) else ([], false) := by rw [hr]; simp [hc]
    clear hc hr
    refine zd (yw 4 (.loc 100) 9 1 rfl rfl rfl) ?_
    refine zd (za [2, 3, 4, 11, 12, 13] [.loc 100] rfl rfl) ?_
    refine zp (fun p env st => ∃ (j : Nat), j ≤ is.length ∧ p = is.length - j ∧ Nd.allText is = Nd.allText (is.drop j) ∧
        env = EnvL.get [(2, .t .nilsl), (3, .t (.bool false)), (4, .row (.loc 100)), (11, .t (.sl 6 (is.map Nd.toT))), (12, .t (.int .i64 is.length)), (13, .t (.int .i64 (j : Int)))] ∧ st = StO.get [(.loc 100, some (.slt 9 1 (((is.take j).map Nd.text).map .str)))])
      ?_ (n := is.length) ⟨0, by omega, rfl, rfl, rfl, rfl⟩
    rintro p env st ⟨j, hj, rfl, hi, rfl, rfl⟩
    by_cases hlt : j < is.length
    · have hd : is.drop j = is[j] :: is.drop (j + 1) := List.drop_eq_getElem_cons hlt
      have hg : is.getD (j : Int).toNat default = is[j] := by simp [List.getD_eq_getElem?_getD, hlt]
      have eX := (is.getD (j : Int).toNat default).toT_full
      have hi2 : Nd.allText is = (decide ((is.getD (j : Int).toNat default).kind = 3) && Nd.allText (is.drop (j + 1))) := by rw [hi, hd, hg]; rfl
      have ht : (is.take (j + 1)).map Nd.text = (is.take j).map Nd.text ++ [(is.getD (j : Int).toNat default).text] := by rw [List.take_add_one, List.getElem?_eq_getElem hlt, ← hg, Option.toList_some, List.map_append, List.map_singleton]
      repeat' (first | refine wC ?_ | refine z8 rfl rfl eX rfl rfl rfl rfl rfl rfl ?_ | refine wK ?_ | ((with_reducible refine ze ?_); refine zb rfl rfl rfl rfl rfl rfl ?_ ?_ ?_) | ((with_reducible refine yo ?_); refine zL rfl rfl rfl rfl rfl rfl rfl rfl rfl rfl ?_ ?_ ?_) | refine zh rfl (fun hc => ?_) (fun hc => ?_) | refine ye rfl (fun hc => ?_) (fun hc => ?_))
      all_goals try omega
      · simp only [List.length_map, List.length_cons, List.length_nil, List.length_take]; omega
      · simp only [List.length_map, List.length_cons, List.length_nil, List.length_take]; omega
      · refine zN (n' := is.length - (j + 1)) (by omega) ((za [2, 3, 4, 11, 12, 13] [.loc 24] rfl rfl).trans (zv (.loc 24) (.loc 100) rfl rfl rfl rfl)) ⟨j + 1, by omega, rfl, by rw [hi2, decide_eq_true hc, Bool.true_and], by rw [zx (by omega) (by omega)]; rfl, ?_⟩
        rw [ht, List.map_append, List.map_singleton]; rfl
      · have e2 : res = ([], false) := by rw [hr2, if_neg (by rw [hi2, decide_eq_false hc]; simp)]
        rw [e2]
        exact xL (zq (wO rfl rfl rfl wT wT) (by simp))
    · have hj2 : j = is.length := by omega
      subst hj2
      have e2 : res = (is.map Nd.text, true) := by rw [hr2, if_pos (by rw [hi, List.drop_length]; rfl)]
      rw [e2, List.take_length]
      repeat' (first | refine wC ?_ | refine wK ?_ | ((with_reducible refine ze ?_); refine zb rfl rfl rfl rfl rfl rfl ?_ ?_ ?_) | refine zh rfl (fun hc => ?_) (fun hc => ?_))
      all_goals try (exfalso; omega)
      refine y3 (za [2, 3] [.loc 100] rfl rfl) ?_
      refine y3 (zy (id := .loc 100) rfl rfl rfl) ?_
      exact xL (zq (wO rfl rfl rfl wT wT) (by simp))
  · have e2 : res = ([], false) := by rw [hr, if_neg (fun e => hc e.1)]
    rw [e2]
    exact xL (zq (wO rfl rfl rfl wT wT) (by simp))
end Go.AL
set_option linter.unusedVariables false
namespace Go.AL
open Go Go.Proofs Go.RowKit
def Dc.row (d : Dc) : Row := .var 74 [.t (.sl 1 (d.l.map (T.int .i64))), .t (.int .i64 d.k)]
set_option maxHeartbeats 1000000 in
theorem zcp (l : List Int) : Spec Tryz.prog 12 [.t (.sl 1 (l.map (T.int .i64)))] [] (.t (.bool (decide ((l.length : Int) ≤ 500)))) [] := by
  refine zc (env0 := [(0, _)]) (st0 := []) Tryz.func12 rfl rfl rfl rfl ?_
  repeat' (first | refine wC ?_ | refine wK ?_ | fail)
  exact zq (zi rfl rfl rfl) (by simp)
set_option maxHeartbeats 1000000 in
theorem zcL (l : List Int) : Spec Tryz.prog 14 [.t (.sl 1 (l.map (T.int .i64)))] [] (.ref (.res 0) 0 0 0) [(.res 0, (Dc.mk l 0).row)] := by
  unfold Dc.row
  refine zz (env0 := [(0, _)]) (st0 := []) Tryz.func14 rfl rfl rfl rfl ?_
  repeat' (first | refine wC ?_ | refine wK ?_ | fail)
  refine y3 ((za [2] [.loc 5] rfl rfl).trans (zv (.loc 5) (.res 0) rfl rfl rfl rfl)) ?_
  exact xL (zq (yr rfl (AVLE.refl _)) (zf ⟨rfl, trivial⟩))
theorem zcG (n m : Int) (h : 1 ≤ m) : (n.tmod m + m).tmod m = zef n m ∧ 0 ≤ n.tmod m + m ∧ n.tmod m + m ≤ 2 * m := by
  have h1 : -m < n.tmod m ∧ n.tmod m < m := by
    have a := Int.tmod_lt_of_pos n (b := m) (by omega)
    have b := Int.lt_tmod_of_pos n (b := m) (by omega)
    exact ⟨b, a⟩
  refine ⟨?_, by omega, by omega⟩
  unfold zef
  rw [if_neg (by omega), Int.tmod_eq_emod_of_nonneg (by omega), Int.tmod_def, show n - m * n.tdiv m + m = n + m * (1 - n.tdiv m) by rw [Int.mul_sub]; omega, Int.add_mul_emod_self_left]
set_option maxHeartbeats 1000000 in
theorem zdO (n m : Int) (h : m ≤ 4611686018427387903) : Spec Tryz.prog 32 [.t (.int .i64 n), .t (.int .i64 m)] [] (.t (.int .i64 (zef n m))) [] := by
  refine zc (env0 := [(0, _), (1, _)]) (st0 := []) Tryz.func32 rfl rfl rfl rfl ?_
  repeat' (first | refine wC ?_ | refine wK ?_ | ((with_reducible refine xu ?_); refine zdm rfl rfl rfl rfl rfl rfl ?_ ?_) | refine zh rfl (fun hc => ?_) (fun hc => ?_))
  all_goals try omega
  · exact zq (zi rfl rfl (by unfold zef; rw [if_pos hc])) (by simp)
  · have e := zcG n m (by omega)
    refine zq (zi rfl rfl ?_) (by simp)
    rw [zx (by omega) (by omega), e.1]
set_option maxHeartbeats 1000000 in
theorem yL (d : Dc) (n : Int) (h : n ≤ 4611686018427387903) (hd : d.l.length ≤ 1000) : Spec Tryz.prog 27 [.ref (.par 0) 0 0 0, .t (.int .i64 n)] [(.par 0, d.row)] (.t (.int .i64 (d.next n).1)) [(.par 0, (d.next n).2.row)] := by
  have hm := zdO (d.l.getD d.k 0) n h
  unfold Dc.row Dc.next
  generalize zef (d.l.getD d.k 0) n = v at *
  by_cases h0 : (d.l.length : Int) ≤ d.k
  · simp only [if_pos h0]
    refine zc (env0 := [(0, _), (1, _)]) (st0 := [(_, some _)]) Tryz.func27 rfl rfl rfl rfl ?_
    repeat' (first | refine wC ?_ | refine wK ?_ | ((with_reducible refine ze ?_); refine zb rfl rfl rfl rfl rfl rfl ?_ ?_ ?_) | ((with_reducible refine zo ?_); exact absurd h0 ‹_›) | refine zh rfl (fun hc => ?_) (fun hc => ?_))
    all_goals try (exfalso; omega)
    exact zq (zi rfl rfl rfl) (zf ⟨rfl, trivial⟩)
  · simp only [if_neg h0]
    have e : (IntKind.i64.wrap (IntKind.i64.wrap ((d.k : Int) + 1) - 1)).toNat = d.k := by
      rw [zx (n := (d.k : Int) + 1) (by omega) (by omega), zx (by omega) (by omega)]; omega
    have e2 : IntKind.i64.wrap (IntKind.i64.wrap ((d.k : Int) + 1) - 1) = d.k := by
      rw [zx (n := (d.k : Int) + 1) (by omega) (by omega), zx (by omega) (by omega)]; omega
    have e3 : IntKind.i64.wrap ((d.k : Int) + 1) = d.k + 1 := zx (by omega) (by omega)
    have e4 : ((d.k + 1 : Nat) : Int) = IntKind.i64.wrap ((d.k : Int) + 1) := by rw [e3]; omega
    rw [← e] at hm
    rw [e4]
    refine zc (env0 := [(0, _), (1, _)]) (st0 := [(_, some _)]) Tryz.func27 rfl rfl rfl rfl ?_
    repeat' (first | refine wC ?_ | refine wK ?_ | ((with_reducible refine ze ?_); refine zb rfl rfl rfl rfl rfl rfl ?_ ?_ ?_) | ((with_reducible refine zo ?_); refine zg rfl rfl hm rfl rfl (ArgsLE.refl _) rfl rfl rfl rfl rfl ?_) | refine zh rfl (fun hc => ?_) (fun hc => ?_))
    all_goals try (exfalso; omega)
    all_goals try omega
    exact zq (zi rfl rfl rfl) (zf ⟨rfl, trivial⟩)
end Go.AL
set_option linter.unusedVariables false
namespace Go.AL
open Go Go.RowKit
end Go.AL
set_option linter.unusedVariables false
namespace Go.AL
open Go Go.RowKit
end Go.AL
set_option linter.unusedVariables false
namespace Go.AL
open Go Go.RowKit
end Go.AL
set_option linter.unusedVariables false
namespace Go.AL
open Go Go.RowKit
end Go.AL
set_option linter.unusedVariables false
namespace Go.AL
open Go Go.RowKit
end Go.AL
set_option linter.unusedVariables false
namespace Go.AL
open Go Go.RowKit
def zgq (V : ByteArray → Bool) (x : Nd) : ByteArray × Int := if x.validB V 8 = true then (if 65536 < x.cb.length then (eS, 3) else (ofL x.cb, 0)) else (eS, 1)
def zea (s : ByteArray) : Nd × Rs := zff 8 ⟨s, false⟩
def zfP (V : ByteArray → Bool) (s : ByteArray) : Prop := (zea s).2.bad = false ∧ (zea s).2.s = eS ∧ (zea s).1.validB V 8 = true ∧ zgq V (zea s).1 = (s, 0)
instance (V : ByteArray → Bool) (s : ByteArray) : Decidable (zfP V s) := by unfold zfP; exact inferInstance
end Go.AL
set_option linter.unusedVariables false
namespace Go.AL
open Go Go.RowKit
theorem zeW : Nd.zero.Ok := .mk (by simp) (by simp) (by simp)
end Go.AL
set_option linter.unusedVariables false
namespace Go.AL
open Go Go.RowKit
end Go.AL
set_option linter.unusedVariables false
namespace Go.AL
open Go Go.RowKit
def VGood (s : ByteArray) (p : Nat) (r : Nd × Int) : Prop := r.1.Ok ∧ -1 ≤ r.2 ∧ (r.2 ≠ -1 → (p : Int) < r.2 ∧ r.2 ≤ s.size ∧ (r.1.cb.length : Int) + p ≤ r.2 ∧ r.1.In)
theorem VGood.fail (s : ByteArray) (p : Nat) : VGood s p (Nd.zero, -1) := ⟨zeW, by decide, fun h => absurd rfl h⟩
end Go.AL
set_option linter.unusedVariables false
namespace Go.AL
open Go Go.RowKit
def wx (a b : Int) : Int := IntKind.u32.wrap ((BitVec.ofInt 32 a ^^^ BitVec.ofInt 32 b).toNat : Int)
def wa (a b : Int) : Int := IntKind.u32.wrap ((BitVec.ofInt 32 a &&& BitVec.ofInt 32 b).toNat : Int)
def wo (a b : Int) : Int := IntKind.u32.wrap ((BitVec.ofInt 32 a ||| BitVec.ofInt 32 b).toNat : Int)
def wn (a : Int) : Int := IntKind.u32.wrap ((BitVec.ofInt 32 4294967295 ^^^ BitVec.ofInt 32 a).toNat : Int)
def wp (a b : Int) : Int := IntKind.u32.wrap (a + b)
def wr (a : Int) (n : Nat) : Int := a / 2 ^ n
def wl (a : Int) (n : Nat) : Int := IntKind.u32.wrap (a * 2 ^ n)
def rr (x : Int) (n : Nat) : Int := wo (wr x n) (wl x (32 - n))
structure H8 where
  a : Int
  b : Int
  c : Int
  d : Int
  e : Int
  f : Int
  g : Int
  h : Int
  deriving DecidableEq
def H8.l (v : H8) : List Int := [v.a, v.b, v.c, v.d, v.e, v.f, v.g, v.h]
def H8.t (v : H8) : List T := [.int .u32 v.a, .int .u32 v.b, .int .u32 v.c, .int .u32 v.d, .int .u32 v.e, .int .u32 v.f, .int .u32 v.g, .int .u32 v.h]
def rnd (k w : Int) (v : H8) : H8 :=
  let t1 := wp (wp (wp (wp v.h (wx (wx (rr v.e 6) (rr v.e 11)) (rr v.e 25))) (wx (wa v.e v.f) (wa (wn v.e) v.g))) k) w
  let t2 := wp (wx (wx (rr v.a 2) (rr v.a 13)) (rr v.a 22)) (wx (wx (wa v.a v.b) (wa v.a v.c)) (wa v.b v.c))
  ⟨wp t1 t2, v.a, v.b, v.c, wp v.d t1, v.e, v.f, v.g⟩
def zgm {α : Type} (f : Nat → α → α) : Nat → Nat → α → α
  | 0, _, a => a
  | c + 1, t, a => zgm f c (t + 1) (f t a)
def zgv : List Int := [
  0x428a2f98, 0x71374491, 0xb5c0fbcf, 0xe9b5dba5, 0x3956c25b, 0x59f111f1, 0x923f82a4, 0xab1c5ed5,
  0xd807aa98, 0x12835b01, 0x243185be, 0x550c7dc3, 0x72be5d74, 0x80deb1fe, 0x9bdc06a7, 0xc19bf174,
  0xe49b69c1, 0xefbe4786, 0x0fc19dc6, 0x240ca1cc, 0x2de92c6f, 0x4a7484aa, 0x5cb0a9dc, 0x76f988da,
  0x983e5152, 0xa831c66d, 0xb00327c8, 0xbf597fc7, 0xc6e00bf3, 0xd5a79147, 0x06ca6351, 0x14292967,
  0x27b70a85, 0x2e1b2138, 0x4d2c6dfc, 0x53380d13, 0x650a7354, 0x766a0abb, 0x81c2c92e, 0x92722c85,
  0xa2bfe8a1, 0xa81a664b, 0xc24b8b70, 0xc76c51a3, 0xd192e819, 0xd6990624, 0xf40e3585, 0x106aa070,
  0x19a4c116, 0x1e376c08, 0x2748774c, 0x34b0bcb5, 0x391c0cb3, 0x4ed8aa4a, 0x5b9cca4f, 0x682e6ff3,
  0x748f82ee, 0x78a5636f, 0x84c87814, 0x8cc70208, 0x90befffa, 0xa4506ceb, 0xbef9a3f7, 0xc67178f2]
def zgk (w : List Int) (v : H8) : H8 := zgm (fun t v => rnd (zgv.getD t 0) (w.getD t 0) v) 64 0 v
def w4 (x : Int) : List UInt8 := kW 4 x.toNat
def H8.out (v : H8) : List UInt8 := w4 v.a ++ w4 v.b ++ w4 v.c ++ w4 v.d ++ w4 v.e ++ w4 v.f ++ w4 v.g ++ w4 v.h
end Go.AL
set_option linter.unusedVariables false
namespace Go.AL
open Go Go.RowKit
def H8.In (v : H8) : Prop := (0 ≤ v.a ∧ v.a < 4294967296) ∧ (0 ≤ v.b ∧ v.b < 4294967296) ∧ (0 ≤ v.c ∧ v.c < 4294967296) ∧ (0 ≤ v.d ∧ v.d < 4294967296) ∧ (0 ≤ v.e ∧ v.e < 4294967296) ∧ (0 ≤ v.f ∧ v.f < 4294967296) ∧ (0 ≤ v.g ∧ v.g < 4294967296) ∧ (0 ≤ v.h ∧ v.h < 4294967296)
end Go.AL
set_option linter.unusedVariables false
namespace Go.AL
open Go
section
open Go.RowKit
theorem zed (l : List UInt8) : zdH (l.map u8T) = ofL l := by
  unfold zdH strOfNums ofL
  rw [List.map_map, List.map_map]
  have : (((fun n => UInt8.ofNat n.toNat) ∘ T.num) ∘ u8T) = id := by
    funext b
    show UInt8.ofNat ((b.toNat : Int).toNat) = b
    simp
  rw [this, List.map_id]
theorem zd8 (l : List UInt8) : zf4 (l.map u8T) := by
  intro e he
  obtain ⟨b, _, rfl⟩ := List.mem_map.1 he
  rfl
end
def zb5 (d : Nat) : UInt8 := if d < 10 then UInt8.ofNat (48 + d) else UInt8.ofNat (87 + d)
def yh : Nat → Nat → List UInt8
  | 0, _ => []
  | k + 1, n => zb5 (n / 16 ^ k % 16) :: yh k n
theorem xn {α : Type} (v : α) : ∀ (l : List α) (j : Nat), j < l.length → (l.set j v).drop j = v :: l.drop (j + 1)
  | [], j, h => by simp at h
  | x :: l, 0, h => by simp
  | x :: l, j + 1, h => by simpa using xn v l j (by simpa using h)
theorem v6 {n : Int} (h0 : 0 ≤ n) (h : n < 18446744073709551616) : IntKind.u64.wrap n = n := by
  show n.emod 18446744073709551616 = n
  exact Int.emod_eq_of_lt h0 h
abbrev zgo : ByteArray := ⟨#[48, 49, 50, 51, 52, 53, 54, 55, 56, 57, 97, 98, 99, 100, 101, 102, 103, 104, 105, 106, 107, 108, 109, 110, 111, 112, 113, 114, 115, 116, 117, 118, 119, 120, 121, 122]⟩
theorem zcO : ∀ d : Fin 16, ((zgo.data.toList.getD d.val 0).toNat : Int) = ((zb5 d.val).toNat : Int) := by decide +kernel
theorem zcM {d : Int} {n : Nat} (hd : d = (n : Int)) (h : n < 16) : bAt zgo d = ((zb5 n).toNat : Int) := by
  subst hd
  have := zcO ⟨n, h⟩
  simpa [bAt] using this
end Go.AL
namespace Go.AL
def zga (c : Nat) : Nat := c ||| 32
def hv (c : Nat) : Option Nat := if 48 ≤ c ∧ c ≤ 57 then some (c - 48) else if 97 ≤ zga c ∧ zga c ≤ 102 then some (zga c - 87) else none
end Go.AL
namespace Go.AL
theorem zfL {n : Int} (h0 : 0 ≤ n) (h : n < 256) : IntKind.u8.wrap n = n := by
  show n.emod 256 = n
  exact Int.emod_eq_of_lt h0 h
theorem yq {α : Type} [Inhabited α] : ∀ (L : List α) (j : Nat), j < L.length → L.drop j = L.getD j default :: L.drop (j + 1)
  | [], j, h => by simp at h
  | x :: L, 0, h => by simp
  | x :: L, j + 1, h => by simpa using yq L j (by simpa using h)
end Go.AL
namespace Go.AL
end Go.AL
namespace Go.AL
end Go.AL
set_option linter.unusedVariables false
namespace Go.AL
open Go Go.Proofs Go.RowKit
def deB : List Int := [0, 1, 56, 2, 57, 49, 28, 3, 61, 58, 42, 50, 38, 29, 17, 4, 62, 47, 59, 36, 45, 43, 51, 22, 53, 39, 33, 30, 24, 18, 12, 5, 63, 55, 48, 27, 60, 41, 37, 16, 46, 35, 44, 21, 52, 32, 23, 11, 54, 26, 40, 15, 34, 20, 31, 10, 25, 14, 19, 9, 13, 8, 7, 6]
set_option maxHeartbeats 1000000 in
theorem zdi {oD : Obj} (G : z6 .u8 deB oD) : Spec Tryz.prog 293 [.t (.int .u64 16)] [(.par 105, .dat (.fix 7 oD))] (.t (.int .i64 4)) [(.par 105, .dat (.fix 7 oD))] := by
  refine zc (env0 := [(0, _)]) (st0 := [(_, some _)]) Tryz.func293 rfl rfl rfl rfl ?_
  repeat' (first | refine wC ?_ | refine vm (.par 105) rfl rfl rfl rfl rfl rfl ?_ ?_ ?_ | refine zaG G rfl rfl rfl rfl rfl rfl rfl rfl ?_ | refine wK ?_ | fail)
  · decide +kernel
  · decide +kernel
  · exact zq (zi rfl rfl (congrArg (T.int .i64) (by decide +kernel))) (zf ⟨rfl, trivial⟩)
set_option maxHeartbeats 1000000 in
theorem zeK {oD : Obj} (G : z6 .u8 deB oD) : Spec Tryz.prog 268 [.t (.int .u64 16)] [(.par 105, .dat (.fix 7 oD))] (.t (.int .i64 4)) [(.par 105, .dat (.fix 7 oD))] := by
  have h := zdi G
  refine zc (env0 := [(0, _)]) (st0 := [(_, some _)]) Tryz.func268 rfl rfl rfl rfl ?_
  repeat' (first | refine wC ?_ | refine wK ?_ | ((with_reducible refine zo ?_); refine zr (r' := (.t (.int .i64 4))) [] rfl rfl h (ArgsLE.refl _) rfl ⟨rfl, trivial⟩ rfl rfl rfl rfl rfl rfl rfl rfl rfl rfl ?_))
  exact zq (zi rfl rfl rfl) (zf ⟨rfl, trivial⟩)
set_option maxHeartbeats 1000000 in
theorem zdp : Spec Tryz.prog 267 [.t (.int .i64 16)] [] (.t (.bool true)) [] := by
  refine zc (env0 := [(0, _)]) (st0 := []) Tryz.func267 rfl rfl rfl rfl ?_
  repeat' (first | refine wC ?_ | refine wK ?_ | fail)
  exact zq (zi rfl rfl (congrArg T.bool (by decide +kernel))) (by simp)
theorem zdX (l : List Int) : ∀ x ∈ l.map (T.int .u8), x.isAgg = false := fun x hx => by
  obtain ⟨n, _, rfl⟩ := List.mem_map.1 hx; rfl
theorem zf5 (n : Nat) (h : n < 18446744073709551616) : IntKind.u64.wrap ((BitVec.ofInt IntKind.u64.bits (n : Int) &&& BitVec.ofInt IntKind.u64.bits 15).toNat : Int) = ((n % 16 : Nat) : Int) := by
  rw [BitVec.toNat_and, BitVec.ofInt_natCast, show (15 : Int) = ((15 : Nat) : Int) from rfl, BitVec.ofInt_natCast, BitVec.toNat_ofNat, BitVec.toNat_ofNat]
  have : IntKind.u64.bits = 64 := rfl
  rw [this, Nat.mod_eq_of_lt (by omega), show 15 % 2 ^ 64 = 2 ^ 4 - 1 from rfl, Nat.and_two_pow_sub_one_eq_mod]
  exact v6 (by omega) (by omega)
set_option maxHeartbeats 4000000 in
theorem qg {oD : Obj} (G : z6 .u8 deB oD) (u k : Nat) (hu : u < 18446744073709551616) (h1 : u < 16 ^ (k + 1)) (h2 : k = 0 ∨ 16 ^ k ≤ u) :
    Spec Tryz.prog 203 [.t .nilsl, .t (.int .u64 (u : Int)), .t (.int .i64 16), .t (.bool false), .t (.bool false)] [(.par 105, .dat (.fix 7 oD))] (.tup [.t .nilsl, .t (.str (ofL (yh (k + 1) u)))]) [(.par 105, .dat (.fix 7 oD))] := by
  have hT := zeK G
  have hP := zdp
  refine zc (env0 := [(0, _), (1, _), (2, _), (3, _), (4, _)]) (st0 := [(_, some _)]) Tryz.func203 rfl rfl rfl rfl ?_
  repeat' (first | refine wC ?_ | refine wK ?_ | ((with_reducible refine zo ?_); first | refine zr (r' := (.t (.int .i64 4))) [] rfl rfl hT (ArgsLE.refl _) rfl ⟨rfl, trivial⟩ rfl rfl rfl rfl rfl rfl rfl rfl rfl rfl ?_ | refine zg rfl rfl hP rfl rfl (ArgsLE.refl _) rfl rfl rfl rfl rfl ?_))
  refine zd (zbX (id := .loc 12) rfl (RowLE.arr (es := (List.replicate 65 (0 : Int)).map (T.int .u8)) rfl (zdX _)) rfl) ?_
  refine zd (za [1, 3, 4, 10, 12, 13, 14, 15, 16] [.loc 12, .par 105] rfl rfl) ?_
  have hk15 : k ≤ 15 := by
    rcases h2 with rfl | h2
    · omega
    · rcases Nat.lt_or_ge k 16 with h | h
      · omega
      · have : 16 ^ 16 ≤ 16 ^ k := Nat.pow_le_pow_right (by omega) h
        omega
  refine zp (fun p env st => ∃ (j : Nat) (v : Nat) (l : List Int), j ≤ k ∧ p = k - j ∧ v = u / 16 ^ j ∧ l.length = 65 ∧ l.drop (65 - j) = (yh j u).map (fun b => (b.toNat : Int)) ∧
      env = EnvL.get [(1, .t (.int .u64 (v : Int))), (3, .t (.bool false)), (4, .t (.bool false)), (10, .t .nilsl), (12, .ref (.loc 12) 0 0 0), (13, .t (.int .i64 ((65 - j : Nat) : Int))), (14, .t (.int .u64 4)), (15, .t (.int .u64 16)), (16, .t (.int .u64 15))] ∧
      st = StO.get [(.loc 12, some (.arr 277 1 (l.map (T.int .u8)))), (.par 105, some (.dat (.fix 7 oD)))])
    ?_ (n := k) ⟨0, u, _, by omega, rfl, by simp, by simp, rfl, rfl, rfl⟩
  rintro p env st ⟨j, v, l, hj, rfl, hv, hl, hd, rfl, rfl⟩
  have hvu : v ≤ u := by rw [hv]; exact Nat.div_le_self _ _
  have hstep : v / 16 = u / 16 ^ (j + 1) := by rw [hv, Nat.pow_succ, Nat.div_div_eq_div_mul]
  have w1 : IntKind.i64.wrap (((65 - j : Nat) : Int) - 1) = ((64 - j : Nat) : Int) := by rw [zx (by omega) (by omega)]; omega
  have hlt0 : l.length = 65 := hl
  have hfin : ∀ x : UInt8, ((((l.set (64 - j) (x.toNat : Int)).map (T.int .u8)).take 65).drop (64 - j)) = (x :: yh j u).map u8T := fun x => by
    rw [List.take_of_length_le (by simp [hl]), ← List.map_drop, xn _ _ _ (by omega), show 64 - j + 1 = 65 - j by omega, hd, List.map_cons, List.map_cons, List.map_map]
    rfl
  have hsh : (v : Int) / 2 ^ min (Int.toNat 4) IntKind.u64.bits = ((v / 16 : Nat) : Int) := by
    rw [show min (Int.toNat 4) IntKind.u64.bits = 4 from by decide]; omega
  by_cases hlt : v < 16
  · have hjk : j = k := by
      rcases Nat.lt_or_ge j k with h | h
      · rcases h2 with rfl | h2
        · omega
        · have e1 : 16 ^ (j + 1) ≤ 16 ^ k := Nat.pow_le_pow_right (by omega) h
          have e2 : 0 < u / 16 ^ (j + 1) := Nat.div_pos (by omega) (Nat.pow_pos (by omega))
          omega
      · omega
    have hlast : zb5 v :: yh j u = yh (k + 1) u := by rw [yh, ← hjk, ← hv, Nat.mod_eq_of_lt hlt]
    repeat' (first | refine wC ?_ | (exfalso; omega) | refine wK ?_ | ((with_reducible refine ze ?_); refine xA rfl rfl rfl rfl rfl rfl ?_ ?_ ?_) | ((with_reducible refine kP ?_); refine y6 rfl rfl rfl rfl rfl rfl ?_ ?_ ?_) | ((with_reducible refine qi ?_); refine kS rfl rfl rfl rfl rfl ?_ ?_) | ((with_reducible refine xK ?_); refine wL rfl rfl rfl rfl rfl rfl rfl ?_ ?_) | ((with_reducible refine v7 ?_); refine kT rfl rfl rfl ⟨_, rfl⟩ rfl rfl rfl rfl rfl rfl ?_ ?_ ?_ ?_ ?_) | refine zh rfl (fun hc => ?_) (fun hc => ?_))
    all_goals try simp only [w1, Int.toNat_natCast, List.length_map, List.length_set]
    all_goals try omega
    · show (v : Int) < 36
      omega
    all_goals rw [show bAt _ (v : Int) = ((zb5 v).toNat : Int) from zcM rfl hlt, hfin]
    · exact zd8 _
    · exact zq (xU rfl (AVLE.refl _) (AVLE.of_eq (congrArg (fun x => AV.t (T.str x)) ((zed _).trans (congrArg ofL hlast))))) (zf ⟨rfl, trivial⟩)
  · have hjk : j < k := by
      rcases Nat.lt_or_ge j k with h | h
      · exact h
      · obtain rfl : j = k := by omega
        have : u / 16 ^ j < 16 := (Nat.div_lt_iff_lt_mul (Nat.pow_pos (by omega))).2 (by rw [Nat.pow_succ] at h1; omega)
        omega
    have ha := zf5 v (by omega)
    repeat' (first | refine wC ?_ | (exfalso; omega) | refine wK ?_ | ((with_reducible refine ze ?_); refine xA rfl rfl rfl rfl rfl rfl ?_ ?_ ?_) | ((with_reducible refine kP ?_); refine y6 rfl rfl rfl rfl rfl rfl ?_ ?_ ?_) | ((with_reducible refine xK ?_); refine wL rfl rfl rfl rfl rfl rfl rfl ?_ ?_) | refine zh rfl (fun hc => ?_) (fun hc => ?_))
    all_goals try simp only [w1, ha, Int.toNat_natCast, List.length_map, List.length_set]
    all_goals try omega
    · show ((v % 16 : Nat) : Int) < 36
      omega
    rw [show bAt _ ((v % 16 : Nat) : Int) = ((zb5 (v % 16)).toNat : Int) from zcM rfl (by omega)]
    refine zN (n' := k - (j + 1)) (by omega) (za [1, 3, 4, 10, 12, 13, 14, 15, 16] [.loc 12, .par 105] rfl rfl) ⟨j + 1, v / 16, l.set (64 - j) ((zb5 (v % 16)).toNat : Int), by omega, rfl, hstep, by rw [List.length_set]; exact hl, ?_, ?_, rfl⟩
    · rw [show 65 - (j + 1) = 64 - j by omega, xn _ _ _ (by omega), show 64 - j + 1 = 65 - j by omega, hd, yh, hv]; rfl
    · rw [show 65 - (j + 1) = 64 - j by omega, show (v : Int) / 2 ^ min (Int.toNat 4) IntKind.u64.bits = ((v / 16 : Nat) : Int) from hsh]; rfl
set_option maxHeartbeats 2000000 in
theorem ql {oD : Obj} (G : z6 .u8 deB oD) (u k : Nat) (hu : u < 9223372036854775808) (h1 : u < 16 ^ (k + 1)) (h2 : k = 0 ∨ 16 ^ k ≤ u) :
    Spec Tryz.prog 124 [.t (.int .i64 (u : Int)), .t (.int .i64 16)] [(.par 105, .dat (.fix 7 oD))] (.t (.str (ofL (yh (k + 1) u)))) [(.par 105, .dat (.fix 7 oD))] := by
  have hB := qg G u k (by omega) h1 h2
  generalize ofL (yh (k + 1) u) = r at *
  have hw : IntKind.u64.wrap (u : Int) = (u : Int) := v6 (by omega) (by omega)
  rw [← hw] at hB
  refine zc (env0 := [(0, _), (1, _)]) (st0 := [(_, some _)]) Tryz.func124 rfl rfl rfl rfl ?_
  repeat' (first | refine wC ?_ | refine wK ?_ | ((with_reducible refine zo ?_); refine zr (r' := (.tup [.t .nilsl, .t (.str r)])) [] rfl rfl hB (ArgsLE.refl _) rfl ⟨rfl, trivial⟩ rfl rfl rfl rfl rfl rfl rfl rfl rfl rfl ?_))
  exact zq (zi rfl rfl rfl) (zf ⟨rfl, trivial⟩)
set_option maxHeartbeats 1000000 in
theorem qN {oD : Obj} (G : z6 .u8 deB oD) (u k : Nat) (hu : u < 9223372036854775808) (h1 : u < 16 ^ (k + 1)) (h2 : k = 0 ∨ 16 ^ k ≤ u) :
    Spec Tryz.prog 68 [.t (.int .i64 (u : Int)), .t (.int .i64 16)] [(.par 105, .dat (.fix 7 oD))] (.t (.str (ofL (yh (k + 1) u)))) [(.par 105, .dat (.fix 7 oD))] := by
  have hB := ql G u k hu h1 h2
  generalize ofL (yh (k + 1) u) = r at *
  refine zc (env0 := [(0, _), (1, _)]) (st0 := [(_, some _)]) Tryz.func68 rfl rfl rfl rfl ?_
  repeat' (first | refine wC ?_ | refine wK ?_ | ((with_reducible refine zo ?_); refine zr (r' := (.t (.str r))) [] rfl rfl hB (ArgsLE.refl _) rfl ⟨rfl, trivial⟩ rfl rfl rfl rfl rfl rfl rfl rfl rfl rfl ?_))
  exact zq (zi rfl rfl rfl) (zf ⟨rfl, trivial⟩)
end Go.AL
set_option linter.unusedVariables false
namespace Go.AL
open Go Go.Proofs Go.RowKit
end Go.AL
set_option linter.unusedVariables false
namespace Go.AL
open Go Go.Proofs Go.RowKit
end Go.AL
set_option linter.unusedVariables false
namespace Go.AL
open Go Go.Proofs Go.RowKit
end Go.AL
set_option linter.unusedVariables false
namespace Go.AL
open Go Go.Proofs Go.RowKit
end Go.AL
set_option linter.unusedVariables false
namespace Go.AL
open Go Go.Proofs Go.RowKit
end Go.AL
set_option linter.unusedVariables false
namespace Go.AL
open Go Go.Proofs Go.RowKit
end Go.AL
set_option linter.unusedVariables false
namespace Go.AL
open Go Go.Proofs Go.RowKit
end Go.AL
set_option linter.unusedVariables false
namespace Go.AL
open Go Go.Proofs Go.RowKit
end Go.AL
set_option linter.unusedVariables false
namespace Go.AL
open Go Go.Proofs Go.RowKit
end Go.AL
set_option linter.unusedVariables false
namespace Go.AL
open Go Go.RowKit
def zew (n : Int) : Nat := (n % 18446744073709551616).toNat
def zgw (n : Int) : List UInt8 :=
  if -32 ≤ n ∧ n < 128 then [UInt8.ofNat (n % 256).toNat]
  else if 0 ≤ n then
    (if n < 256 then UInt8.ofNat 204 :: kW 1 (zew n) else if n < 65536 then UInt8.ofNat 205 :: kW 2 (zew n) else if n < 4294967296 then UInt8.ofNat 206 :: kW 4 (zew n) else UInt8.ofNat 207 :: kW 8 (zew n))
  else if -128 ≤ n then UInt8.ofNat 208 :: kW 1 (zew n) else if -32768 ≤ n then UInt8.ofNat 209 :: kW 2 (zew n) else if -2147483648 ≤ n then UInt8.ofNat 210 :: kW 4 (zew n) else UInt8.ofNat 211 :: kW 8 (zew n)
def pTh (n : Nat) : List UInt8 := if n < 32 then [UInt8.ofNat (160 + n)] else if n < 256 then UInt8.ofNat 217 :: kW 1 n else if n < 65536 then UInt8.ofNat 218 :: kW 2 n else UInt8.ofNat 219 :: kW 4 n
def pTx (s : ByteArray) : List UInt8 := pTh s.size ++ s.data.toList
def pCn (few many n : Nat) : List UInt8 := if n < 16 then [UInt8.ofNat (few + n)] else UInt8.ofNat many :: kW 2 n
mutual
def Nd.pb : Nd → List UInt8
  | .mk k b n t ns is =>
    if k = 0 then [UInt8.ofNat 192] else if k = 1 then [UInt8.ofNat (if b then 195 else 194)] else if k = 2 then zgw n
    else if k = 3 then pTx t else if k = 4 then pCn 144 220 is.length ++ Nd.pbs is else pCn 128 222 is.length ++ Nd.pbm ns is
def Nd.pbs : List Nd → List UInt8
  | [] => []
  | x :: xs => x.pb ++ Nd.pbs xs
def Nd.pbm : List ByteArray → List Nd → List UInt8
  | s :: ns, x :: xs => pTx s ++ x.pb ++ Nd.pbm ns xs
  | _, _ => []
end
def Rs.count (r : Rs) (k : Int) : Int × Rs := (r.uint k).2.fits (r.uint k).1
end Go.AL
set_option linter.unusedVariables false
namespace Go.AL
open Go Go.RowKit
end Go.AL
set_option linter.unusedVariables false
namespace Go.AL
open Go Go.RowKit
end Go.AL
set_option linter.unusedVariables false
namespace Go.AL
open Go Go.RowKit
structure Codec where
  E : Nd → List UInt8
  R : ByteArray → Nd × Rs
  back : ∀ {V : ByteArray → Bool} {x : Nd}, x.validB V 8 = true → x.In → R (ofL (E x)) = (x, ⟨eS, false⟩)
  good : ∀ {s : ByteArray}, (R s).2.bad = false → (R s).1.In
variable (C : Codec)
def zgy (V : ByteArray → Bool) (x : Nd) : ByteArray × Int := if x.validB V 8 = true then (if 65536 < (C.E x).length then (eS, 3) else (ofL (C.E x), 0)) else (eS, 1)
def zfT (V : ByteArray → Bool) (s : ByteArray) : Prop := (C.R s).2.bad = false ∧ (C.R s).2.s = eS ∧ (C.R s).1.validB V 8 = true ∧ zgy C V (C.R s).1 = (s, 0)
instance (V : ByteArray → Bool) (s : ByteArray) : Decidable (zfT C V s) := by unfold zfT; exact inferInstance
variable {C}
end Go.AL
set_option linter.unusedVariables false
namespace Go.AL
open Go Go.RowKit
def zgx : List (UInt8 × UInt8) := [(34, 34), (92, 92), (8, 98), (9, 116), (10, 110), (12, 102), (13, 114)]
def zgs (c : UInt8) : Option UInt8 := zgx.lookup c
def zgl (n : Nat) : UInt8 := if n < 10 then UInt8.ofNat (48 + n) else UInt8.ofNat (87 + n)
def zgp (c : UInt8) : List UInt8 :=
  match zgs c with
  | some l => [92, l]
  | none => if c.toNat < 32 then [92, 117, 48, 48, zgl (c.toNat / 16), zgl (c.toNat % 16)] else [c]
def zfw : List UInt8 → List UInt8
  | [] => []
  | c :: l => zgp c ++ zfw l
def jQ (s : ByteArray) : List UInt8 := 34 :: (zfw s.data.toList ++ [34])
def zf9 : List UInt8 := [110, 117, 108, 108]
def zgb : List UInt8 := [116, 114, 117, 101]
def zfH : List UInt8 := [102, 97, 108, 115, 101]
mutual
def Nd.jb : Nd → List UInt8
  | .mk k b n t ns is =>
    if k = 0 then zf9 else if k = 1 then (if b then zgb else zfH) else if k = 2 then Lib.itoa n
    else if k = 3 then jQ t else if k = 4 then 91 :: (Nd.jbs true is ++ [93]) else 123 :: (Nd.jbm true ns is ++ [125])
def Nd.jbs : Bool → List Nd → List UInt8
  | _, [] => []
  | f, x :: xs => (if f then [] else [44]) ++ (x.jb ++ Nd.jbs false xs)
def Nd.jbm : Bool → List ByteArray → List Nd → List UInt8
  | f, s :: ns, x :: xs => (if f then [] else [44]) ++ (jQ s ++ (58 :: (x.jb ++ Nd.jbm false ns xs)))
  | _, _, _ => []
end
end Go.AL
namespace Go.AL
open Go Go.RowKit
end Go.AL
set_option linter.unusedVariables false
namespace Go.AL
open Go Go.Proofs Go.RowKit
end Go.AL
set_option linter.unusedVariables false
namespace Go.AL
open Go Go.Proofs Go.RowKit Go.Shelf
end Go.AL
set_option linter.unusedVariables false
namespace Go.AL
open Go Go.Proofs Go.RowKit Go.Shelf
end Go.AL
set_option linter.unusedVariables false
namespace Go.AL
open Go Go.Proofs Go.RowKit Go.Shelf
end Go.AL
set_option linter.unusedVariables false
namespace Go.AL
open Go Go.Proofs Go.RowKit Go.Shelf
theorem yQ {P : Program} (t : TypeId) {d : TypeDesc} [tu : TyU P t d] (w : World) : (isAgg t).run P w = .ok (z7 d) w := xg tu
theorem yM {P : Program} (t : TypeId) {s b : Nat} {z : Value} [ti : TyI P t s b z] (w : World) : (Go.sizeOf t).run P w = .ok s w := zO ti
theorem yT {P : Program} (t : TypeId) {s b : Nat} {z : Value} [ti : TyI P t s b z] (w : World) : (zeroValue t).run P w = .ok z w := zR ti
def zel : Ren := ⟨fun | 129 => 265 | 171 => 171 | 243 => 249 | 246 => 124 | 283 => 200 | 284 => 201 | 285 => 202 | 286 => 203 | 317 => 264 | 318 => 266 | 319 => 267 | 320 => 268 | 337 => 292 | 338 => 293 | x => x, fun | 0 => 0 | 2 => 2 | 3 => 3 | 4 => 4 | 5 => 5 | 9 => 9 | 20 => 20 | 37 => 82 | 46 => 148 | 51 => 168 | 53 => 201 | 171 => 227 | 173 => 230 | 212 => 276 | 213 => 277 | 232 => 175 | 233 => 311 | x => x, fun | 17 => 2 | 18 => 6 | 19 => 7 | x => x⟩
set_option maxRecDepth 100000 in
theorem zcY : LaysM.n171 Tryz.prog zel where
  mixed := by kernel_rfl
  f129 := by kernel_rfl
  f171 := by kernel_rfl
  f243 := by kernel_rfl
  f246 := by kernel_rfl
  f283 := by kernel_rfl
  f284 := by kernel_rfl
  f285 := by kernel_rfl
  f286 := by kernel_rfl
  f317 := by kernel_rfl
  f318 := by kernel_rfl
  f319 := by kernel_rfl
  f320 := by kernel_rfl
  f337 := by kernel_rfl
  f338 := by kernel_rfl
  t0 := Tryz.underlying0
  a0 := fun w => yQ (P := Tryz.prog) (d := (TypeDesc.tuple #[])) 0 w
  z0 := fun w => yM (P := Tryz.prog) 0 w
  v0 := fun w => yT (P := Tryz.prog) 0 w
  t2 := Tryz.underlying2
  a2 := fun w => yQ (P := Tryz.prog) (d := (TypeDesc.int IntKind.i64)) 2 w
  z2 := fun w => yM (P := Tryz.prog) 2 w
  v2 := fun w => yT (P := Tryz.prog) 2 w
  t3 := Tryz.underlying3
  a3 := fun w => yQ (P := Tryz.prog) (d := (TypeDesc.int IntKind.i64)) 3 w
  z3 := fun w => yM (P := Tryz.prog) 3 w
  v3 := fun w => yT (P := Tryz.prog) 3 w
  t4 := Tryz.underlying4
  a4 := fun w => yQ (P := Tryz.prog) (d := TypeDesc.bool) 4 w
  z4 := fun w => yM (P := Tryz.prog) 4 w
  v4 := fun w => yT (P := Tryz.prog) 4 w
  t5 := Tryz.underlying5
  a5 := fun w => yQ (P := Tryz.prog) (d := (TypeDesc.int IntKind.u8)) 5 w
  z5 := fun w => yM (P := Tryz.prog) 5 w
  v5 := fun w => yT (P := Tryz.prog) 5 w
  t9 := Tryz.underlying9
  a9 := fun w => yQ (P := Tryz.prog) (d := TypeDesc.string) 9 w
  z9 := fun w => yM (P := Tryz.prog) 9 w
  v9 := fun w => yT (P := Tryz.prog) 9 w
  t20 := Tryz.underlying20
  a20 := fun w => yQ (P := Tryz.prog) (d := (TypeDesc.interface #[])) 20 w
  z20 := fun w => yM (P := Tryz.prog) 20 w
  v20 := fun w => yT (P := Tryz.prog) 20 w
  t37 := Tryz.underlying82
  a37 := fun w => yQ (P := Tryz.prog) (d := (TypeDesc.slice 5)) 82 w
  z37 := fun w => yM (P := Tryz.prog) 82 w
  v37 := fun w => yT (P := Tryz.prog) 82 w
  t46 := Tryz.underlying148
  a46 := fun w => yQ (P := Tryz.prog) (d := (TypeDesc.int IntKind.u64)) 148 w
  z46 := fun w => yM (P := Tryz.prog) 148 w
  v46 := fun w => yT (P := Tryz.prog) 148 w
  t51 := Tryz.underlying168
  a51 := fun w => yQ (P := Tryz.prog) (d := (TypeDesc.int IntKind.u32)) 168 w
  z51 := fun w => yM (P := Tryz.prog) 168 w
  v51 := fun w => yT (P := Tryz.prog) 168 w
  t53 := Tryz.underlying201
  a53 := fun w => yQ (P := Tryz.prog) (d := (TypeDesc.int IntKind.u64)) 201 w
  z53 := fun w => yM (P := Tryz.prog) 201 w
  v53 := fun w => yT (P := Tryz.prog) 201 w
  t171 := Tryz.underlying227
  a171 := fun w => yQ (P := Tryz.prog) (d := (TypeDesc.array 24 5)) 227 w
  z171 := fun w => yM (P := Tryz.prog) 227 w
  v171 := fun w => yT (P := Tryz.prog) 227 w
  t173 := Tryz.underlying230
  a173 := fun w => yQ (P := Tryz.prog) (d := (TypeDesc.tuple #[82, 9])) 230 w
  z173 := fun w => yM (P := Tryz.prog) 230 w
  v173 := fun w => yT (P := Tryz.prog) 230 w
  t212 := Tryz.underlying276
  a212 := fun w => yQ (P := Tryz.prog) (d := (TypeDesc.array 20 201)) 276 w
  z212 := fun w => yM (P := Tryz.prog) 276 w
  v212 := fun w => yT (P := Tryz.prog) 276 w
  t213 := Tryz.underlying277
  a213 := fun w => yQ (P := Tryz.prog) (d := (TypeDesc.array 65 5)) 277 w
  z213 := fun w => yM (P := Tryz.prog) 277 w
  t232 := Tryz.underlying175
  a232 := fun w => yQ (P := Tryz.prog) (d := (TypeDesc.array 32 5)) 175 w
  z232 := fun w => yM (P := Tryz.prog) 175 w
  v232 := fun w => yT (P := Tryz.prog) 175 w
  t233 := Tryz.underlying311
  a233 := fun w => yQ (P := Tryz.prog) (d := (TypeDesc.array 64 5)) 311 w
  z233 := fun w => yM (P := Tryz.prog) 311 w
  v233 := fun w => yT (P := Tryz.prog) 311 w
  g17 := by kernel_rfl
  g18 := by kernel_rfl
  g19 := by kernel_rfl
  i0 := by kernel_rfl
  i2 := by kernel_rfl
  i3 := by kernel_rfl
  i4 := by kernel_rfl
  i5 := by kernel_rfl
  i9 := by kernel_rfl
  i20 := by kernel_rfl
  i37 := by kernel_rfl
  i46 := by kernel_rfl
  i51 := by kernel_rfl
  i53 := by kernel_rfl
  i171 := by kernel_rfl
  i173 := by kernel_rfl
  i212 := by kernel_rfl
  i232 := by kernel_rfl
  i233 := by kernel_rfl
  m17 := by kernel_rfl
  m18 := by kernel_rfl
  m19 := by kernel_rfl
end Go.AL
set_option linter.unusedVariables false
namespace Go.AL
open Go Go.Proofs Go.RowKit Go.Sort
theorem zdb {h : Heap} {m : zu} {vs : Array Value} {x : T} (hv : vs.size = 1) (hr : RepAs h m (fun j => vs[j]?) 0 [.t x]) {u : Value} (hx : ∀ v, RepT h v x → v = u) : vs = #[u] := by
  simp only [RepAs, RepA, and_true] at hr
  obtain ⟨v, h0, h1⟩ := hr
  have := hx v h1
  subst this
  apply Array.ext
  · simpa using hv
  · intro i h1' h2'
    obtain rfl : i = 0 := by omega
    rw [Array.getElem?_eq_getElem h1'] at h0; simpa using h0
theorem zfQ {oP : Obj} (hP : z6 .u64 Lib.pow10Tab oP) {w : World} (h : w.heap[2]? = some oP) : Lib.TabIs Tryz.prog w "internal/strconv.uint64pow10" .u64 Lib.pow10Tab := by
  unfold Lib.TabIs World.var?
  rw [show Tryz.prog.globalNamed "internal/strconv.uint64pow10" = some 2 by kernel_rfl, Option.bind_some, h]
  cases oP with
  | cells cs e fr =>
    have : cs.toList = Lib.pow10Tab.map (Value.int .u64) := hP
    show some cs = _
    congr 1
    apply Array.ext'
    rw [this]
  | _ => exact hP.elim
theorem zc2 {oP : Obj} {h : Heap} {m : zu} {w : World} {S : StL} {b : Nat} {id : Id} (hs : Sim h m (StL.get S) w) (hS : StL.get S id = some (.dat (.fix b oP))) : w.heap[b]? = some oP := by
  obtain ⟨b', o, e1, e2, e3⟩ := hs.rows id _ hS
  obtain ⟨e4, e5⟩ := e3
  subst e5
  rw [e4] at e1
  cases e1
  exact e2
theorem ju {oP : Obj} (hP : z6 .u64 Lib.pow10Tab oP) (n : Int) (h0 : -9223372036854775808 ≤ n) (h1 : n ≤ 9223372036854775807) : Spec Tryz.prog 171 [.t (.int .i64 n)] [(.par 102, .dat (.fix 2 oP))] (.t (.str (ofL (Lib.itoa n)))) [(.par 102, .dat (.fix 2 oP))] where
  run h m vs w hs hv hr := by
    obtain rfl := zdb hv hr (u := .int .i64 n) fun v hv => by simpa [RepT] using hv
    refine (Any.strconv_Itoa zcY n h0 h1 w (zfQ hP (zc2 hs (zC _ _)))).mono fun e w' ⟨he, k, os, hw⟩ => ?_
    have hb : Below w.heap.size w w' := by rw [hw]; exact Lib.below_grow w.heap.size w (Nat.le_refl _) k os
    have := j7 hs hb
    exact ⟨_, h, m, he, by simp [RepA, RepT, ofL], this.1, this.2⟩
end Go.AL
set_option linter.unusedVariables false
namespace Go.AL
open Go
structure Fr where
  n : Int
  d : Int
  deriving Inhabited, DecidableEq
def Fr.toT (f : Fr) : T := .agg [.int .i64 f.n, .int .i64 f.d]
def x8 (a b : Int) : Int := (Nat.gcd a.toNat b.toNat : Int)
def Fr.wt (f : Fr) : Bool := decide (1 ≤ f.d ∧ f.d ≤ 100 ∧ 0 ≤ f.n ∧ f.n ≤ f.d) && decide (x8 f.n f.d = 1)
def zdG (a b : Fr) : Fr := ⟨(a.n * b.d + b.n * a.d) / x8 (a.n * b.d + b.n * a.d) (a.d * b.d), (a.d * b.d) / x8 (a.n * b.d + b.n * a.d) (a.d * b.d)⟩
def kV (l : List Fr) : Fr := l.foldl zdG ⟨0, 1⟩
def yp (l : List Fr) : Bool := decide ((kV l).d ≤ (kV l).n)
theorem vc {a b : Int} (ha : 0 ≤ a) (hb : 1 ≤ b) : 1 ≤ x8 a b ∧ x8 a b ≤ b ∧ x8 a b ∣ a ∧ x8 a b ∣ b := by
  obtain ⟨x, rfl⟩ : ∃ x : Nat, a = (x : Int) := ⟨a.toNat, by omega⟩
  obtain ⟨y, rfl⟩ : ∃ y : Nat, b = (y : Int) := ⟨b.toNat, by omega⟩
  unfold x8
  simp only [Int.toNat_natCast]
  have h1 : 0 < Nat.gcd x y := Nat.gcd_pos_of_pos_right x (by omega)
  have h2 : Nat.gcd x y ≤ y := Nat.le_of_dvd (by omega) (Nat.gcd_dvd_right x y)
  exact ⟨by omega, by omega, Int.natCast_dvd_natCast.2 (Nat.gcd_dvd_left x y), Int.natCast_dvd_natCast.2 (Nat.gcd_dvd_right x y)⟩
def Fr.Bd (s : Fr) (k : Nat) : Prop := 1 ≤ s.d ∧ s.d ≤ ((100 ^ k : Nat) : Int) ∧ 0 ≤ s.n ∧ s.n ≤ (k : Int) * s.d
theorem wN {f : Fr} (h : f.wt = true) : 1 ≤ f.d ∧ f.d ≤ 100 ∧ 0 ≤ f.n ∧ f.n ≤ f.d ∧ x8 f.n f.d = 1 := by
  unfold Fr.wt at h
  simp only [Bool.and_eq_true, decide_eq_true_eq] at h
  exact ⟨h.1.1, h.1.2.1, h.1.2.2.1, h.1.2.2.2, h.2⟩
theorem zdl {s f : Fr} {k : Nat} (hs : s.Bd k) (hf : f.wt = true) : 0 ≤ s.n * f.d + f.n * s.d ∧ s.n * f.d + f.n * s.d ≤ ((k : Int) + 1) * (s.d * f.d) ∧ 1 ≤ s.d * f.d ∧ s.d * f.d ≤ ((100 ^ (k + 1) : Nat) : Int) ∧ 0 ≤ s.n * f.d ∧ 0 ≤ f.n * s.d ∧ s.n * f.d ≤ (k : Int) * (s.d * f.d) ∧ f.n * s.d ≤ s.d * f.d := by
  obtain ⟨h1, h2, h3, h4⟩ := hs
  obtain ⟨f1, f2, f3, f4, _⟩ := wN hf
  have a1 : 0 ≤ s.n * f.d := Int.mul_nonneg h3 (by omega)
  have a2 : 0 ≤ f.n * s.d := Int.mul_nonneg f3 (by omega)
  have a3 : s.n * f.d ≤ ((k : Int) * s.d) * f.d := Int.mul_le_mul_of_nonneg_right h4 (by omega)
  have a4 : f.n * s.d ≤ f.d * s.d := Int.mul_le_mul_of_nonneg_right f4 (by omega)
  have a5 : 1 * 1 ≤ s.d * f.d := Int.mul_le_mul h1 f1 (by omega) (by omega)
  have a6 : s.d * f.d ≤ ((100 ^ k : Nat) : Int) * 100 := Int.mul_le_mul h2 f2 (by omega) (by omega)
  have e1 : ((100 ^ (k + 1) : Nat) : Int) = ((100 ^ k : Nat) : Int) * 100 := by rw [Nat.pow_succ]; omega
  have e2 : ((k : Int) + 1) * (s.d * f.d) = (k : Int) * (s.d * f.d) + s.d * f.d := by rw [Int.add_mul]; omega
  have e3 : ((k : Int) * s.d) * f.d = (k : Int) * (s.d * f.d) := Int.mul_assoc ..
  have e4 : f.d * s.d = s.d * f.d := Int.mul_comm ..
  rw [e1, e2]
  rw [e3] at a3
  rw [e4] at a4
  exact ⟨by omega, by omega, by omega, a6, a1, a2, a3, a4⟩
theorem zfJ {s f : Fr} {k : Nat} (hs : s.Bd k) (hf : f.wt = true) : (zdG s f).Bd (k + 1) := by
  obtain ⟨m1, m2, m3, m4, _⟩ := zdl hs hf
  unfold zdG Fr.Bd
  simp only
  generalize s.n * f.d + f.n * s.d = n at *
  generalize s.d * f.d = e at *
  obtain ⟨g1, g2, ⟨n', hn⟩, ⟨e', he⟩⟩ := vc m1 m3
  generalize x8 n e = g at *
  subst hn; subst he
  rw [Int.mul_ediv_cancel_left _ (by omega), Int.mul_ediv_cancel_left _ (by omega)]
  have e1 : 1 ≤ e' := by
    rcases Int.lt_or_le e' 1 with h | h
    · have : g * e' ≤ g * 0 := Int.mul_le_mul_of_nonneg_left (by omega) (by omega)
      rw [Int.mul_zero] at this; omega
    · exact h
  have n1 : 0 ≤ n' := by
    rcases Int.lt_or_le n' 0 with h | h
    · have : g * n' ≤ g * (-1) := Int.mul_le_mul_of_nonneg_left (by omega) (by omega)
      omega
    · exact h
  have e2 : e' ≤ g * e' := by
    have : 1 * e' ≤ g * e' := Int.mul_le_mul_of_nonneg_right g1 (by omega)
    omega
  have e3 : n' ≤ ((k : Int) + 1) * e' := by
    rw [← Int.mul_assoc, Int.mul_comm _ g, Int.mul_assoc] at m2
    exact Int.le_of_mul_le_mul_left m2 (by omega)
  exact ⟨e1, by omega, n1, by simpa using e3⟩
theorem zbs (l : List Fr) (k : Nat) (h : k < l.length) : kV (l.take (k + 1)) = zdG (kV (l.take k)) (l.getD k default) := by
  unfold kV
  rw [List.take_add_one, List.foldl_append, List.getD_eq_getElem?_getD, List.getElem?_eq_getElem h]
  rfl
theorem zeu (l : List Fr) (hl : ∀ f ∈ l, f.wt = true) : ∀ k, k ≤ l.length → (kV (l.take k)).Bd k
  | 0, _ => ⟨by show (1 : Int) ≤ 1; omega, by show (1 : Int) ≤ 1; omega, by show (0 : Int) ≤ 0; omega, by show (0 : Int) ≤ _; simp⟩
  | k + 1, h => by
    rw [zbs l k (by omega)]
    refine zfJ (zeu l hl k (by omega)) (hl _ ?_)
    rw [List.getD_eq_getElem?_getD, List.getElem?_eq_getElem (by omega)]
    exact List.getElem_mem _
end Go.AL
namespace Go.AL
open Go
def zaa {α : Type} (p : α → Bool) : List α → Nat → Int
  | [], _ => -1
  | x :: l, k => if p x then (k : Int) else zaa p l (k + 1)
theorem zaL {α : Type} (p : α → Bool) : ∀ (l : List α) (k : Nat), decide (0 ≤ zaa p l k) = l.any p
  | [], k => by simp [zaa]
  | x :: l, k => by
    rw [zaa, List.any_cons]
    cases hp : p x with
    | true => simp
    | false => simp [zaL p l (k + 1)]
end Go.AL
set_option linter.unusedVariables false
namespace Go.AL
open Go Go.Proofs Go.RowKit
set_option maxHeartbeats 2000000 in
theorem zbu (a b : Nat) (ha : a < 9223372036854775808) (hb : b < 9223372036854775808) : Spec Tryz.prog 199 [.t (.int .i64 (a : Int)), .t (.int .i64 (b : Int))] [] (.t (.int .i64 (Nat.gcd a b : Int))) [] := by
  obtain ⟨R, hR⟩ : ∃ R, R = Nat.gcd a b := ⟨_, rfl⟩
  rw [← hR]
  refine zc (env0 := [(0, _), (1, _)]) (st0 := []) Tryz.func199 rfl rfl rfl rfl ?_
  repeat' (first | refine wC ?_ | refine wK ?_ | fail)
  refine zd (za [0, 1] [] rfl rfl) ?_
  refine zp (fun q env st => ∃ (x y : Nat), q = y ∧ x < 9223372036854775808 ∧ y < 9223372036854775808 ∧ Nat.gcd x y = R ∧ env = EnvL.get [(0, .t (.int .i64 (x : Int))), (1, .t (.int .i64 (y : Int)))] ∧ st = StO.get [])
    ?_ (n := b) ⟨a, b, rfl, ha, hb, hR.symm, rfl, rfl⟩
  rintro q env st ⟨x, y, rfl, hx, hy, hG, rfl, rfl⟩
  by_cases h0 : q = 0
  · subst h0
    rw [Nat.gcd_zero_right] at hG
    subst hG
    repeat' (first | refine wC ?_ | refine wK ?_ | fail)
    exact zq (zi rfl rfl rfl) (by simp)
  · have hm : (x : Int).tmod (q : Int) = ((x % q : Nat) : Int) := by rw [Int.tmod_eq_emod_of_nonneg (by omega)]; exact (Int.natCast_emod x q).symm
    have hlt := Nat.mod_lt x (show 0 < q by omega)
    have hwm : IntKind.i64.wrap ((x : Int).tmod (q : Int)) = ((x % q : Nat) : Int) := by rw [hm, zx (by omega) (by omega)]
    repeat' (first | refine wC ?_ | (exfalso; omega) | refine wK ?_ | ((with_reducible refine xu ?_); refine zdm rfl rfl rfl rfl rfl rfl ?_ ?_) | refine ye rfl (fun hc => ?_) (fun hc => ?_))
    all_goals try omega
    exact zN (n' := x % q) hlt (za [0, 1] [] rfl rfl) ⟨q, x % q, rfl, hy, by omega, by rw [← hG, Nat.gcd_comm q, ← Nat.gcd_rec, Nat.gcd_comm], by first | rw [hwm]; rfl | rw [hm]; rfl, rfl⟩
set_option maxHeartbeats 2000000 in
theorem zaJ (f : Fr) : Spec Tryz.prog 121 [.t f.toT] [] (.t (.bool f.wt)) [] := by
  unfold Fr.toT
  by_cases h : 1 ≤ f.d ∧ f.d ≤ 100 ∧ 0 ≤ f.n ∧ f.n ≤ f.d
  · have hg := zbu f.n.toNat f.d.toNat (by omega) (by omega)
    rw [Int.toNat_of_nonneg (by omega), Int.toNat_of_nonneg (by omega)] at hg
    rw [show f.wt = decide (x8 f.n f.d = 1) from by unfold Fr.wt; rw [decide_eq_true h, Bool.true_and]]
    unfold x8
    generalize (Nat.gcd f.n.toNat f.d.toNat : Int) = g at *
    obtain ⟨a, b⟩ := f
    simp only at *
    refine zc (env0 := [(0, _)]) (st0 := []) Tryz.func121 rfl rfl rfl rfl ?_
    repeat' (first | refine wC ?_ | (exfalso; omega) | refine wK ?_ | ((with_reducible refine zo ?_); refine zg rfl rfl hg rfl rfl (ArgsLE.refl _) rfl rfl rfl rfl rfl ?_) | refine zG rfl (fun hc => ?_) (fun hc => ?_))
    all_goals exact zq (zi rfl rfl rfl) (by simp)
  · rw [show f.wt = false from by unfold Fr.wt; rw [decide_eq_false h, Bool.false_and]]
    obtain ⟨a, b⟩ := f
    simp only at *
    refine zc (env0 := [(0, _)]) (st0 := []) Tryz.func121 rfl rfl rfl rfl ?_
    repeat' (first | refine wC ?_ | (exfalso; omega) | refine wK ?_ | refine zG rfl (fun hc => ?_) (fun hc => ?_))
    all_goals exact zq (zi rfl rfl rfl) (by simp)
theorem p8 : ∀ k : Nat, k ≤ 8 → 100 ^ k ≤ 10000000000000000 := fun k h => Nat.le_trans (Nat.pow_le_pow_right (by omega) h) (by decide)
set_option maxHeartbeats 4000000 in
theorem zdI (s f : Fr) (k : Nat) (hk : k ≤ 7) (hs : s.Bd k) (hf : f.wt = true) : Spec Tryz.prog 253 [.t s.toT, .t f.toT] [] (.t (zdG s f).toT) [] := by
  obtain ⟨m1, m2, m3, m4, m5, m6, m7, m8⟩ := zdl hs hf
  have hp := p8 (k + 1) (by omega)
  have hkk : ((k : Int) + 1) * (s.d * f.d) ≤ 8 * (s.d * f.d) := Int.mul_le_mul_of_nonneg_right (by omega) (by omega)
  obtain ⟨g1, g2, g3, g4⟩ := vc m1 m3
  unfold zdG Fr.toT
  have hg := zbu (s.n * f.d + f.n * s.d).toNat (s.d * f.d).toNat (by omega) (by omega)
  rw [Int.toNat_of_nonneg m1, Int.toNat_of_nonneg (by omega)] at hg
  change Spec _ _ _ _ (.t (.int .i64 (x8 (s.n * f.d + f.n * s.d) (s.d * f.d)))) _ at hg
  have w1 : IntKind.i64.wrap (s.n * f.d) = s.n * f.d := zx (by omega) (by omega)
  have w2 : IntKind.i64.wrap (f.n * s.d) = f.n * s.d := zx (by omega) (by omega)
  have w3 : IntKind.i64.wrap (s.n * f.d + f.n * s.d) = s.n * f.d + f.n * s.d := zx (by omega) (by omega)
  have w4 : IntKind.i64.wrap (s.d * f.d) = s.d * f.d := zx (by omega) (by omega)
  have w13 : IntKind.i64.wrap (IntKind.i64.wrap (s.n * f.d) + IntKind.i64.wrap (f.n * s.d)) = s.n * f.d + f.n * s.d := by rw [w1, w2, w3]
  have e1 : ((s.n * f.d + f.n * s.d).tdiv (x8 (s.n * f.d + f.n * s.d) (s.d * f.d))) = (s.n * f.d + f.n * s.d) / (x8 (s.n * f.d + f.n * s.d) (s.d * f.d)) := Int.tdiv_eq_ediv_of_nonneg m1
  have e2 : ((s.d * f.d).tdiv (x8 (s.n * f.d + f.n * s.d) (s.d * f.d))) = (s.d * f.d) / (x8 (s.n * f.d + f.n * s.d) (s.d * f.d)) := Int.tdiv_eq_ediv_of_nonneg (by omega)
  have q1 : IntKind.i64.wrap ((s.n * f.d + f.n * s.d) / (x8 (s.n * f.d + f.n * s.d) (s.d * f.d))) = (s.n * f.d + f.n * s.d) / (x8 (s.n * f.d + f.n * s.d) (s.d * f.d)) := by
    have h0 := Int.ediv_nonneg m1 (show 0 ≤ x8 (s.n * f.d + f.n * s.d) (s.d * f.d) by omega)
    have h1 := Int.ediv_le_self (x8 (s.n * f.d + f.n * s.d) (s.d * f.d)) m1
    exact zx (by omega) (by omega)
  have q2 : IntKind.i64.wrap ((s.d * f.d) / (x8 (s.n * f.d + f.n * s.d) (s.d * f.d))) = (s.d * f.d) / (x8 (s.n * f.d + f.n * s.d) (s.d * f.d)) := by
    have h0 := Int.ediv_nonneg (show 0 ≤ s.d * f.d by omega) (show 0 ≤ x8 (s.n * f.d + f.n * s.d) (s.d * f.d) by omega)
    have h1 := Int.ediv_le_self (x8 (s.n * f.d + f.n * s.d) (s.d * f.d)) (show 0 ≤ s.d * f.d by omega)
    exact zx (by omega) (by omega)
  rw [← w13, ← w4] at hg
  have hne : ¬ x8 (s.n * f.d + f.n * s.d) (s.d * f.d) = 0 := by omega
  rw [w13, w4] at hg
  obtain ⟨a, b⟩ := s
  obtain ⟨c, e⟩ := f
  simp only at *
  generalize hG : x8 (a * e + c * b) (b * e) = G at *
  rw [← w13, ← w4] at hg
  refine zc (env0 := [(0, _), (1, _)]) (st0 := []) Tryz.func253 rfl rfl rfl rfl ?_
  repeat' (first | refine wC ?_ | (exfalso; omega) | refine wK ?_ | ((with_reducible refine xu ?_); refine zer rfl rfl rfl rfl rfl rfl ?_ ?_) | ((with_reducible refine zo ?_); refine zg rfl rfl hg rfl rfl (ArgsLE.refl _) rfl rfl rfl rfl rfl ?_) | refine zh rfl (fun hc => ?_) (fun hc => ?_))
  · exact hne
  · exact hne
  rw [w13, w4, e1, e2, q1, q2]
  refine zq ?_ (zf trivial); refine zF rfl rfl rfl inferInstance rfl inferInstance rfl ?_; exact TLe.av wT
end Go.AL
set_option linter.unusedVariables false
namespace Go.AL
open Go
def frs (l : List Fr) : T := .sl 2 (l.map Fr.toT)
structure Th where
  n : Int
  w : List (List Fr)
  deriving Inhabited
def Th.toT (t : Th) : T := .agg [.int .i64 t.n, .sl 1 (t.w.map frs)]
def yF : List (List Fr) → Nat → Int
  | [], n => n
  | l :: r, n => if l.length = 0 ∨ 8 < n + l.length ∨ l.any (fun f => !f.wt) = true then -1 else yF r (n + l.length)
def xk (t : Th) (k : Int) : Bool := if t.n ≠ 0 then decide (0 < t.n ∧ t.n ≤ k ∧ k ≤ 8) && decide (t.w.length = 0) else if t.w.length = 0 then decide (k = 0) else decide (0 < k) && decide (yF t.w 0 = k) && !(t.w.any fun l => !(yp l))
def zQ : List (List Fr) → Nat
  | [] => 0
  | l :: r => l.length + zQ r
theorem qu : ∀ (w : List (List Fr)) (n : Nat), n ≤ 8 → (0 ≤ yF w n ↔ (∀ l ∈ w, l.length ≠ 0 ∧ ∀ f ∈ l, f.wt = true) ∧ n + zQ w ≤ 8) ∧ (0 ≤ yF w n → yF w n = ((n + zQ w : Nat) : Int)) := by
  intro w
  induction w with
  | nil => intro n hn; simp [yF, zQ]; omega
  | cons l r ih =>
    intro n hn
    rw [yF]
    by_cases hb : l.length = 0 ∨ 8 < n + l.length ∨ l.any (fun f => !f.wt) = true
    · rw [if_pos hb]
      refine ⟨⟨fun h => by omega, fun ⟨h1, h2⟩ => ?_⟩, fun h => by omega⟩
      exfalso
      have hl := h1 l (by simp)
      rcases hb with hb | hb | hb
      · exact hl.1 hb
      · simp only [zQ] at h2; omega
      · obtain ⟨x, hx, h3⟩ := List.any_eq_true.1 hb
        rw [hl.2 x hx] at h3; cases h3
    · rw [if_neg hb]
      have hb1 : l.length ≠ 0 := fun h => hb (.inl h)
      have hb2 : n + l.length ≤ 8 := by
        rcases Nat.lt_or_ge 8 (n + l.length) with h | h
        · exact absurd (.inr (.inl h)) hb
        · exact h
      have hb3 : ∀ f ∈ l, f.wt = true := fun f hf => by
        cases h : f.wt with
        | true => rfl
        | false => exact absurd (.inr (.inr (List.any_eq_true.2 ⟨f, hf, by rw [h]; rfl⟩))) hb
      obtain ⟨i1, i2⟩ := ih (n + l.length) hb2
      refine ⟨⟨fun h => ?_, fun ⟨h1, h2⟩ => ?_⟩, fun h => ?_⟩
      · obtain ⟨j1, j2⟩ := i1.1 h
        refine ⟨fun x hx => ?_, by simp only [zQ]; omega⟩
        rcases List.mem_cons.1 hx with rfl | hx
        · exact ⟨hb1, hb3⟩
        · exact j1 x hx
      · exact i1.2 ⟨fun x hx => h1 x (List.mem_cons_of_mem _ hx), by simp only [zQ] at h2; omega⟩
      · rw [i2 h]; simp only [zQ]; congr 1; omega
theorem zen {l : List Fr} : ∀ {w : List (List Fr)}, l ∈ w → l.length ≤ zQ w
  | x :: r, h => by
    simp only [zQ]
    rcases List.mem_cons.1 h with rfl | h
    · omega
    · have := zen h; omega
theorem jO : ∀ (w : List (List Fr)) (j : Nat), j < w.length → zQ (w.take (j + 1)) = zQ (w.take j) + (w.getD j default).length
  | [], j, h => by simp at h
  | x :: r, 0, h => by simp [zQ]
  | x :: r, j + 1, h => by
    have := jO r j (by simpa using h)
    rw [List.take_succ_cons, List.take_succ_cons, zQ, zQ, this, List.getD_cons_succ]; omega
end Go.AL
set_option linter.unusedVariables false
namespace Go.AL
open Go Go.Proofs Go.RowKit
set_option maxHeartbeats 2000000 in
theorem j0 (p : Fr → Bool) (g : FuncId) [FnB Tryz.prog g] (l : List (Fr)) (hf : ∀ x ∈ l, Spec Tryz.prog g [.t (Fr.toT x)] [] (.t (.bool (p x))) []) (hl : l.length ≤ 1000000000) : Spec Tryz.prog 198 [.t (.sl 2 (l.map Fr.toT)), .t (.fn g)] [] (.t (.int .i64 (zaa p l 0))) [] := by
  obtain ⟨R, hR⟩ : ∃ R, R = zaa p l 0 := ⟨_, rfl⟩
  rw [← hR]
  refine zc (env0 := [(0, _), (1, _)]) (st0 := []) Tryz.func198 rfl rfl rfl rfl ?_
  repeat' (first | refine wC ?_ | refine wK ?_ | fail)
  refine zd (za [0, 1, 7, 8] [] rfl rfl) ?_
  refine zp (fun q env st => ∃ (j : Nat), j ≤ l.length ∧ q = l.length - j ∧ zaa p (l.drop j) j = R ∧ env = EnvL.get [(0, .t (.sl 2 (l.map Fr.toT))), (1, .t (.fn g)), (7, .t (.int .i64 (l.length : Int))), (8, .t (.int .i64 (j : Int)))] ∧ st = StO.get [])
    ?_ (n := l.length) ⟨0, by omega, rfl, hR.symm, rfl, rfl⟩
  rintro q env st ⟨j, hj, rfl, hG, rfl, rfl⟩
  have wj : IntKind.i64.wrap ((j : Int) + 1) = ((j + 1 : Nat) : Int) := by rw [zx (by omega) (by omega)]; omega
  by_cases hlt : j < l.length
  · have hcl := hf (l.getD (j : Int).toNat default) (by rw [Int.toNat_natCast, List.getD_eq_getElem?_getD, List.getElem?_eq_getElem hlt]; exact List.getElem_mem _)
    rw [yq l j hlt, zaa, show l.getD j default = l.getD (j : Int).toNat default from rfl] at hG
    cases hp : p (l.getD (j : Int).toNat default) with
    | true =>
      rw [hp] at hcl hG
      rw [if_pos rfl] at hG
      repeat' (first | refine wC ?_ | (exfalso; omega) | refine wK ?_ | ((with_reducible refine ze ?_); refine zb rfl rfl rfl rfl rfl rfl ?_ ?_ ?_) | ((with_reducible refine zo ?_); refine zg rfl rfl hcl rfl rfl (ArgsLE.refl _) rfl rfl rfl rfl rfl ?_) | refine zh rfl (fun hc => ?_) (fun hc => ?_))
      all_goals try (simp only [List.length_map]; omega)
      all_goals try omega
      all_goals first | rfl | exact zq (zi rfl rfl (congrArg (T.int .i64) hG)) (by simp)
    | false =>
      rw [hp] at hcl hG
      rw [if_neg (by decide)] at hG
      repeat' (first | refine wC ?_ | (exfalso; omega) | refine wK ?_ | ((with_reducible refine ze ?_); refine zb rfl rfl rfl rfl rfl rfl ?_ ?_ ?_) | ((with_reducible refine zo ?_); refine zg rfl rfl hcl rfl rfl (ArgsLE.refl _) rfl rfl rfl rfl rfl ?_) | refine zh rfl (fun hc => ?_) (fun hc => ?_))
      all_goals try (simp only [List.length_map]; omega)
      all_goals try omega
      all_goals first | rfl | exact zN (n' := l.length - (j + 1)) (by omega) (za [0, 1, 7, 8] [] rfl rfl) ⟨j + 1, by omega, rfl, hG, by rw [wj]; rfl, rfl⟩
  · obtain rfl : j = l.length := by omega
    rw [List.drop_length, zaa] at hG
    repeat' (first | refine wC ?_ | (exfalso; omega) | refine wK ?_ | refine zh rfl (fun hc => ?_) (fun hc => ?_))
    exact zq (zi rfl rfl (congrArg (T.int .i64) hG)) (by simp)
set_option maxHeartbeats 2000000 in
theorem qp (p : Fr → Bool) (g : FuncId) [FnB Tryz.prog g] (l : List (Fr)) (hf : ∀ x ∈ l, Spec Tryz.prog g [.t (Fr.toT x)] [] (.t (.bool (p x))) []) (hl : l.length ≤ 1000000000) : Spec Tryz.prog 119 [.t (.sl 2 (l.map Fr.toT)), .t (.fn g)] [] (.t (.bool (l.any p))) [] := by
  have hI := j0 p g l hf hl
  rw [← zaL p l 0]
  generalize zaa p l 0 = R at *
  refine zc (env0 := [(0, _), (1, _)]) (st0 := []) Tryz.func119 rfl rfl rfl rfl ?_
  repeat' (first | refine wC ?_ | refine wK ?_ | ((with_reducible refine zo ?_); refine zg rfl rfl hI rfl rfl (ArgsLE.refl _) rfl rfl rfl rfl rfl ?_))
  exact zq (zi rfl rfl rfl) (by simp)
set_option maxHeartbeats 2000000 in
theorem kB (p : List Fr → Bool) (g : FuncId) [FnB Tryz.prog g] (l : List (List Fr)) (hf : ∀ x ∈ l, Spec Tryz.prog g [.t (frs x)] [] (.t (.bool (p x))) []) (hl : l.length ≤ 1000000000) : Spec Tryz.prog 189 [.t (.sl 1 (l.map frs)), .t (.fn g)] [] (.t (.int .i64 (zaa p l 0))) [] := by
  obtain ⟨R, hR⟩ : ∃ R, R = zaa p l 0 := ⟨_, rfl⟩
  rw [← hR]
  refine zc (env0 := [(0, _), (1, _)]) (st0 := []) Tryz.func189 rfl rfl rfl rfl ?_
  repeat' (first | refine wC ?_ | refine wK ?_ | fail)
  refine zd (za [0, 1, 7, 8] [] rfl rfl) ?_
  refine zp (fun q env st => ∃ (j : Nat), j ≤ l.length ∧ q = l.length - j ∧ zaa p (l.drop j) j = R ∧ env = EnvL.get [(0, .t (.sl 1 (l.map frs))), (1, .t (.fn g)), (7, .t (.int .i64 (l.length : Int))), (8, .t (.int .i64 (j : Int)))] ∧ st = StO.get [])
    ?_ (n := l.length) ⟨0, by omega, rfl, hR.symm, rfl, rfl⟩
  rintro q env st ⟨j, hj, rfl, hG, rfl, rfl⟩
  have wj : IntKind.i64.wrap ((j : Int) + 1) = ((j + 1 : Nat) : Int) := by rw [zx (by omega) (by omega)]; omega
  by_cases hlt : j < l.length
  · have hcl := hf (l.getD (j : Int).toNat default) (by rw [Int.toNat_natCast, List.getD_eq_getElem?_getD, List.getElem?_eq_getElem hlt]; exact List.getElem_mem _)
    rw [yq l j hlt, zaa, show l.getD j default = l.getD (j : Int).toNat default from rfl] at hG
    cases hp : p (l.getD (j : Int).toNat default) with
    | true =>
      rw [hp] at hcl hG
      rw [if_pos rfl] at hG
      repeat' (first | refine wC ?_ | (exfalso; omega) | refine wK ?_ | ((with_reducible refine ze ?_); refine zb rfl rfl rfl rfl rfl rfl ?_ ?_ ?_) | ((with_reducible refine zo ?_); refine zg rfl rfl hcl rfl rfl (ArgsLE.refl _) rfl rfl rfl rfl rfl ?_) | refine zh rfl (fun hc => ?_) (fun hc => ?_))
      all_goals try (simp only [List.length_map]; omega)
      all_goals try omega
      all_goals first | rfl | exact zq (zi rfl rfl (congrArg (T.int .i64) hG)) (by simp)
    | false =>
      rw [hp] at hcl hG
      rw [if_neg (by decide)] at hG
      repeat' (first | refine wC ?_ | (exfalso; omega) | refine wK ?_ | ((with_reducible refine ze ?_); refine zb rfl rfl rfl rfl rfl rfl ?_ ?_ ?_) | ((with_reducible refine zo ?_); refine zg rfl rfl hcl rfl rfl (ArgsLE.refl _) rfl rfl rfl rfl rfl ?_) | refine zh rfl (fun hc => ?_) (fun hc => ?_))
      all_goals try (simp only [List.length_map]; omega)
      all_goals try omega
      all_goals first | rfl | exact zN (n' := l.length - (j + 1)) (by omega) (za [0, 1, 7, 8] [] rfl rfl) ⟨j + 1, by omega, rfl, hG, by rw [wj]; rfl, rfl⟩
  · obtain rfl : j = l.length := by omega
    rw [List.drop_length, zaa] at hG
    repeat' (first | refine wC ?_ | (exfalso; omega) | refine wK ?_ | refine zh rfl (fun hc => ?_) (fun hc => ?_))
    exact zq (zi rfl rfl (congrArg (T.int .i64) hG)) (by simp)
set_option maxHeartbeats 2000000 in
theorem vL (p : List Fr → Bool) (g : FuncId) [FnB Tryz.prog g] (l : List (List Fr)) (hf : ∀ x ∈ l, Spec Tryz.prog g [.t (frs x)] [] (.t (.bool (p x))) []) (hl : l.length ≤ 1000000000) : Spec Tryz.prog 113 [.t (.sl 1 (l.map frs)), .t (.fn g)] [] (.t (.bool (l.any p))) [] := by
  have hI := kB p g l hf hl
  rw [← zaL p l 0]
  generalize zaa p l 0 = R at *
  refine zc (env0 := [(0, _), (1, _)]) (st0 := []) Tryz.func113 rfl rfl rfl rfl ?_
  repeat' (first | refine wC ?_ | refine wK ?_ | ((with_reducible refine zo ?_); refine zg rfl rfl hI rfl rfl (ArgsLE.refl _) rfl rfl rfl rfl rfl ?_))
  exact zq (zi rfl rfl rfl) (by simp)
set_option maxHeartbeats 2000000 in
theorem jz (f : Fr) : Spec Tryz.prog 120 [.t f.toT] [] (.t (.bool !f.wt)) [] := by
  have h := zaJ f
  generalize f.wt = w at *
  unfold Fr.toT at *
  refine zc (env0 := [(0, _)]) (st0 := []) Tryz.func120 rfl rfl rfl rfl ?_
  repeat' (first | refine wC ?_ | refine wK ?_ | ((with_reducible refine zo ?_); refine zg rfl rfl h rfl rfl (ArgsLE.refl _) rfl rfl rfl rfl rfl ?_))
  exact zq (zi rfl rfl rfl) (by simp)
set_option maxHeartbeats 4000000 in
theorem zbR (l : List Fr) (hl : ∀ f ∈ l, f.wt = true) (h8 : l.length ≤ 8) : Spec Tryz.prog 190 [.t (frs l)] [] (.t (kV l).toT) [] := by
  unfold frs
  refine zc (env0 := [(0, _)]) (st0 := []) Tryz.func190 rfl rfl rfl rfl ?_
  repeat' (first | refine wC ?_ | refine wK ?_ | fail)
  refine zd (za [2, 3, 7, 8, 9] [.loc 2, .loc 3] rfl rfl) ?_
  refine zp (fun q env st => ∃ (j : Nat), j ≤ l.length ∧ q = l.length - j ∧ env = EnvL.get [(2, .ref (.loc 2) 0 0 0), (3, .ref (.loc 3) 0 0 0), (7, .t (.sl 2 (l.map Fr.toT))), (8, .t (.int .i64 (l.length : Int))), (9, .t (.int .i64 (j : Int)))] ∧
      st = StO.get [(.loc 2, some (.var 90 [.t (.int .i64 0), .t (.int .i64 0)])), (.loc 3, some (.var 90 [.t (.int .i64 (kV (l.take j)).n), .t (.int .i64 (kV (l.take j)).d)]))])
    ?_ (n := l.length) ⟨0, by omega, rfl, rfl, rfl⟩
  rintro q env st ⟨j, hj, rfl, rfl, rfl⟩
  have wj : IntKind.i64.wrap ((j : Int) + 1) = ((j + 1 : Nat) : Int) := by rw [zx (by omega) (by omega)]; omega
  by_cases hlt : j < l.length
  · have hm : l.getD (j : Int).toNat default ∈ l := by rw [Int.toNat_natCast, List.getD_eq_getElem?_getD, List.getElem?_eq_getElem hlt]; exact List.getElem_mem _
    have hcl := zdI (kV (l.take j)) (l.getD (j : Int).toNat default) j (by omega) (zeu l hl j hj) (hl _ hm)
    have ht := zbs l j hlt
    rw [show l.getD j default = l.getD (j : Int).toNat default from rfl] at ht
    rw [← ht] at hcl
    generalize hS1 : kV (l.take (j + 1)) = S1 at *
    generalize kV (l.take j) = S0 at *
    unfold Fr.toT at hcl
    repeat' (first | refine wC ?_ | (exfalso; omega) | refine wK ?_ | ((with_reducible refine ze ?_); refine zb rfl rfl rfl rfl rfl rfl ?_ ?_ ?_) | ((with_reducible refine zo ?_); refine zg rfl rfl hcl rfl rfl (ArgsLE.refl _) rfl rfl rfl rfl rfl ?_) | refine zh rfl (fun hc => ?_) (fun hc => ?_))
    all_goals try (simp only [List.length_map]; omega)
    all_goals try omega
    all_goals try rfl
    exact zN (n' := l.length - (j + 1)) (by omega) (za [2, 3, 7, 8, 9] [.loc 2, .loc 3] rfl rfl) ⟨j + 1, by omega, rfl, by rw [wj]; rfl, by rw [hS1]; rfl⟩
  · obtain rfl : j = l.length := by omega
    rw [List.take_length]
    repeat' (first | refine wC ?_ | (exfalso; omega) | refine wK ?_ | refine zh rfl (fun hc => ?_) (fun hc => ?_))
    unfold Fr.toT
    refine zq ?_ (zf trivial); refine zF rfl rfl rfl inferInstance rfl inferInstance rfl ?_; exact TLe.av wT
set_option maxHeartbeats 2000000 in
theorem vj (l : List Fr) (hl : ∀ f ∈ l, f.wt = true) (h8 : l.length ≤ 8) : Spec Tryz.prog 115 [.t (frs l)] [] (.t (.bool (yp l))) [] := by
  have h := zbR l hl h8
  unfold yp
  generalize kV l = S at *
  unfold Fr.toT at h
  refine zc (env0 := [(0, _)]) (st0 := []) Tryz.func115 rfl rfl rfl rfl ?_
  repeat' (first | refine wC ?_ | refine wK ?_ | ((with_reducible refine zo ?_); refine zg rfl rfl h rfl rfl (ArgsLE.refl _) rfl rfl rfl rfl rfl ?_))
  exact zq (zi rfl rfl rfl) (by simp)
end Go.AL
set_option linter.unusedVariables false
namespace Go.AL
open Go Go.Proofs Go.RowKit
end Go.AL
set_option linter.unusedVariables false
namespace Go.AL
open Go Go.Proofs Go.RowKit
def Th.Sm (t : Th) : Prop := t.w.length ≤ 1000 ∧ ∀ l ∈ t.w, l.length ≤ 1000
theorem wP {α : Type} [Inhabited α] {l : List α} {j : Nat} (h : j < l.length) : l.getD (j : Int).toNat default ∈ l := by
  rw [Int.toNat_natCast, List.getD_eq_getElem?_getD, List.getElem?_eq_getElem h]; exact List.getElem_mem _
set_option maxHeartbeats 4000000 in
theorem qy (t : Th) (ht : t.Sm) : Spec Tryz.prog 65 [.t t.toT] [] (.t (.int .i64 (yF t.w 0))) [] := by
  obtain ⟨R, hR⟩ : ∃ R, R = yF t.w 0 := ⟨_, rfl⟩
  rw [← hR]
  obtain ⟨tn, w⟩ := t
  unfold Th.toT
  obtain ⟨h1, h2⟩ := ht
  simp only at *
  refine zc (env0 := [(0, _)]) (st0 := []) Tryz.func65 rfl rfl rfl rfl ?_
  repeat' (first | refine wC ?_ | refine wK ?_ | fail)
  refine zd (za [3, 7, 8, 9] [] rfl rfl) ?_
  refine zp (fun q env st => ∃ (j n : Nat), j ≤ w.length ∧ q = w.length - j ∧ n ≤ 1000 * j ∧ yF (w.drop j) n = R ∧ env = EnvL.get [(3, .t (.int .i64 (n : Int))), (7, .t (.sl 1 (w.map frs))), (8, .t (.int .i64 (w.length : Int))), (9, .t (.int .i64 (j : Int)))] ∧ st = StO.get [])
    ?_ (n := w.length) ⟨0, 0, by omega, rfl, by omega, hR.symm, rfl, rfl⟩
  rintro q env st ⟨j, n, hj, rfl, hn, hG, rfl, rfl⟩
  have wj : IntKind.i64.wrap ((j : Int) + 1) = ((j + 1 : Nat) : Int) := by rw [zx (by omega) (by omega)]; omega
  by_cases hlt : j < w.length
  · have hm := wP hlt
    have hx := h2 _ hm
    rw [yq w j hlt, yF, show w.getD j default = w.getD (j : Int).toNat default from rfl] at hG
    have hC := qp (fun f => !f.wt) 120 (w.getD (j : Int).toNat default) (fun x _ => jz x) (by omega)
    have wn : IntKind.i64.wrap ((n : Int) + ((w.getD (j : Int).toNat default).length : Int)) = ((n + (w.getD (j : Int).toNat default).length : Nat) : Int) := by rw [zx (by omega) (by omega)]; omega
    generalize hA : ((w.getD (j : Int).toNat default).any fun f => !f.wt) = A at *
    by_cases hb : (w.getD (j : Int).toNat default).length = 0 ∨ 8 < n + (w.getD (j : Int).toNat default).length ∨ A = true
    · rw [if_pos hb] at hG
      cases A with
      | true =>
        repeat' (first | refine wC ?_ | (exfalso; omega) | refine wK ?_ | ((with_reducible refine ze ?_); refine zb rfl rfl rfl rfl rfl rfl ?_ ?_ ?_) | ((with_reducible refine zo ?_); refine zg rfl rfl hC rfl rfl (ArgsLE.refl _) rfl rfl rfl rfl rfl ?_) | refine zh rfl (fun hc => ?_) (fun hc => ?_) | refine zG rfl (fun hc => ?_) (fun hc => ?_))
        all_goals try (simp only [List.length_map]; omega)
        all_goals try omega
        all_goals try rfl
        all_goals exact zq (zi rfl rfl (congrArg (T.int .i64) hG)) (by simp)
      | false =>
        have hb2 : (w.getD (j : Int).toNat default).length = 0 ∨ 8 < n + (w.getD (j : Int).toNat default).length := by rcases hb with h | h | h <;> simp_all
        repeat' (first | refine wC ?_ | (exfalso; omega) | refine wK ?_ | ((with_reducible refine ze ?_); refine zb rfl rfl rfl rfl rfl rfl ?_ ?_ ?_) | refine zh rfl (fun hc => ?_) (fun hc => ?_) | refine zG rfl (fun hc => ?_) (fun hc => ?_))
        all_goals try (simp only [List.length_map]; omega)
        all_goals try omega
        all_goals try rfl
        all_goals exact zq (zi rfl rfl (congrArg (T.int .i64) hG)) (by simp)
    · rw [if_neg hb] at hG
      have hb1 : ¬ (w.getD (j : Int).toNat default).length = 0 := fun h => hb (.inl h)
      have hb2 : ¬ 8 < n + (w.getD (j : Int).toNat default).length := fun h => hb (.inr (.inl h))
      have hb3 : A = false := by cases A with | true => exact absurd (.inr (.inr rfl)) hb | false => rfl
      subst hb3
      repeat' (first | refine wC ?_ | (exfalso; omega) | refine wK ?_ | ((with_reducible refine ze ?_); refine zb rfl rfl rfl rfl rfl rfl ?_ ?_ ?_) | ((with_reducible refine zo ?_); refine zg rfl rfl hC rfl rfl (ArgsLE.refl _) rfl rfl rfl rfl rfl ?_) | refine zh rfl (fun hc => ?_) (fun hc => ?_) | refine zG rfl (fun hc => ?_) (fun hc => ?_))
      all_goals try (simp only [List.length_map]; omega)
      all_goals try omega
      all_goals try rfl
      exact zN (n' := w.length - (j + 1)) (by omega) (za [3, 7, 8, 9] [] rfl rfl) ⟨j + 1, n + (w.getD (j : Int).toNat default).length, by omega, rfl, by omega, hG, by rw [wj, wn]; rfl, rfl⟩
  · obtain rfl : j = w.length := by omega
    rw [List.drop_length, yF] at hG
    repeat' (first | refine wC ?_ | (exfalso; omega) | refine wK ?_ | refine zh rfl (fun hc => ?_) (fun hc => ?_))
    exact zq (zi rfl rfl (congrArg (T.int .i64) hG)) (by simp)
set_option maxHeartbeats 2000000 in
theorem k5 (l : List Fr) (hl : ∀ f ∈ l, f.wt = true) (h8 : l.length ≤ 8) : Spec Tryz.prog 114 [.t (frs l)] [] (.t (.bool !(yp l))) [] := by
  have h := vj l hl h8
  generalize yp l = w at *
  unfold frs at *
  refine zc (env0 := [(0, _)]) (st0 := []) Tryz.func114 rfl rfl rfl rfl ?_
  repeat' (first | refine wC ?_ | refine wK ?_ | ((with_reducible refine zo ?_); refine zg rfl rfl h rfl rfl (ArgsLE.refl _) rfl rfl rfl rfl rfl ?_))
  exact zq (zi rfl rfl rfl) (by simp)
set_option maxHeartbeats 4000000 in
theorem wB (t : Th) (k : Int) (ht : t.Sm) : Spec Tryz.prog 60 [.t t.toT, .t (.int .i64 k)] [] (.t (.bool (xk t k))) [] := by
  have hK := qy t ht
  by_cases hg : t.n = 0 ∧ t.w.length ≠ 0 ∧ 0 < k ∧ yF t.w 0 = k
  · obtain ⟨g1, g2, g3, g4⟩ := hg
    obtain ⟨i1, i2⟩ := qu t.w 0 (by omega)
    obtain ⟨j1, j2⟩ := i1.1 (by omega)
    have hC := vL (fun l => !(yp l)) 114 t.w (fun l hl => k5 l (j1 l hl).2 (by have := zen hl; omega)) (by have := ht.1; omega)
    have hv : xk t k = !(t.w.any fun l => !(yp l)) := by
      unfold xk
      rw [if_neg (by simp [g1]), if_neg g2, decide_eq_true g3, decide_eq_true g4]; simp
    rw [hv]
    rw [g4] at hK
    generalize (t.w.any fun l => !(yp l)) = A at *
    clear i1 i2 j1 j2 hv g4
    obtain ⟨tn, w⟩ := t
    unfold Th.toT at *
    simp only at *
    subst g1
    refine zc (env0 := [(0, _), (1, _)]) (st0 := []) Tryz.func60 rfl rfl rfl rfl ?_
    repeat' (first | refine wC ?_ | (exfalso; omega) | refine wK ?_ | ((with_reducible refine zo ?_); first | refine zg rfl rfl hK rfl rfl (ArgsLE.refl _) rfl rfl rfl rfl rfl ?_ | refine zg rfl rfl hC rfl rfl (ArgsLE.refl _) rfl rfl rfl rfl rfl ?_) | refine zh rfl (fun hc => ?_) (fun hc => ?_) | refine zG rfl (fun hc => ?_) (fun hc => ?_))
    all_goals exact zq (zi rfl rfl rfl) (by simp)
  · obtain ⟨V, hV⟩ : ∃ V, V = xk t k := ⟨_, rfl⟩
    rw [← hV]
    unfold xk at hV
    have hV2 : V = if t.n ≠ 0 then decide (0 < t.n ∧ t.n ≤ k ∧ k ≤ 8) && decide (t.w.length = 0) else if t.w.length = 0 then decide (k = 0) else false := by
      rw [hV]
      split
      · rfl
      · rename_i h0
        split
        · rfl
        · rename_i h1
          by_cases h2 : 0 < k
          · rw [decide_eq_false (show ¬ yF t.w 0 = k from fun h3 => hg ⟨by omega, h1, h2, h3⟩)]; simp
          · rw [decide_eq_false h2]; simp
    clear hV
    generalize yF t.w 0 = K at *
    obtain ⟨tn, w⟩ := t
    unfold Th.toT at *
    simp only at *
    refine zc (env0 := [(0, _), (1, _)]) (st0 := []) Tryz.func60 rfl rfl rfl rfl ?_
    repeat' (first | refine wC ?_ | (exfalso; omega) | refine wK ?_ | ((with_reducible refine zo ?_); refine zg rfl rfl hK rfl rfl (ArgsLE.refl _) rfl rfl rfl rfl rfl ?_) | refine zh rfl (fun hc => ?_) (fun hc => ?_) | refine ye rfl (fun hc => ?_) (fun hc => ?_) | refine zG rfl (fun hc => ?_) (fun hc => ?_))
    all_goals refine zq (zi rfl rfl (congrArg T.bool ?_)) (by simp)
    all_goals rw [hV2]
    all_goals clear hV2
    all_goals (repeat' split)
    all_goals first | rfl | (exfalso; omega) | (rw [Bool.eq_iff_iff]; simp only [Bool.and_eq_true, decide_eq_true_eq, Bool.false_eq_true, false_iff, iff_false]; omega)
end Go.AL
set_option linter.unusedVariables false
namespace Go.AL
open Go
def zfr (acc : List Int) (k : Int) : List Int := if (0 ≤ k ∧ k < 8) ∧ k ∉ acc then acc ++ [k] else acc
def ksF (s : List Int) : List Int := s.foldl zfr []
def x7 (p : Nat → Bool) : List Fr → Nat → List Fr
  | [], _ => []
  | f :: l, k => if p k then f :: x7 p l (k + 1) else x7 p l (k + 1)
def ws (p : Nat → Bool) : List (List Fr) → Nat → Bool
  | [], _ => true
  | l :: r, k => yp (x7 p l k) && ws p r (k + l.length)
def inK (ks : List Int) (k : Nat) : Bool := decide ((k : Int) ∈ ks)
def qk (t : Th) (s : List Int) : Bool := if t.n ≠ 0 then decide (t.n ≤ ((ksF s).length : Int)) else ws (inK (ksF s)) t.w 0
theorem zcE (s : List Int) (j : Nat) (h : j < s.length) : ksF (s.take (j + 1)) = zfr (ksF (s.take j)) (s.getD j default) := by
  unfold ksF
  rw [List.take_add_one, List.foldl_append, List.getD_eq_getElem?_getD, List.getElem?_eq_getElem h]
  rfl
theorem zdM (s : List Int) : ∀ k ∈ ksF s, 0 ≤ k ∧ k < 8 := by
  have key : ∀ (l acc : List Int), (∀ k ∈ acc, 0 ≤ k ∧ k < 8) → ∀ k ∈ l.foldl zfr acc, 0 ≤ k ∧ k < 8 := by
    intro l
    induction l with
    | nil => intro acc h; exact h
    | cons x l ih =>
      intro acc h
      refine ih _ fun k hk => ?_
      unfold zfr at hk
      split at hk
      · rename_i hx
        rcases List.mem_append.1 hk with h1 | h1
        · exact h k h1
        · simp at h1; subst h1; exact hx.1
      · exact h k hk
  exact key s [] (by simp)
theorem jW (p : Nat → Bool) : ∀ (l : List Fr) (k j : Nat), j < l.length → x7 p (l.take (j + 1)) k = x7 p (l.take j) k ++ (if p (k + j) then [l.getD j default] else [])
  | [], k, j, h => by simp at h
  | x :: l, k, 0, h => by simp [x7]
  | x :: l, k, j + 1, h => by
    have := jW p l (k + 1) j (by simpa using h)
    rw [List.take_succ_cons, List.take_succ_cons, x7, x7, this, List.getD_cons_succ, show k + 1 + j = k + (j + 1) by omega]
    split <;> rfl
theorem ko (p : Nat → Bool) : ∀ (l : List Fr) (k : Nat), (x7 p l k).length ≤ l.length ∧ ∀ f ∈ x7 p l k, f ∈ l
  | [], k => by simp [x7]
  | x :: l, k => by
    obtain ⟨h1, h2⟩ := ko p l (k + 1)
    rw [x7]
    split
    · refine ⟨by simp only [List.length_cons]; omega, fun f hf => ?_⟩
      rcases List.mem_cons.1 hf with rfl | hf
      · simp
      · exact List.mem_cons_of_mem _ (h2 f hf)
    · exact ⟨by simp only [List.length_cons]; omega, fun f hf => List.mem_cons_of_mem _ (h2 f hf)⟩
structure Th.Fit (t : Th) : Prop where
  few : zQ t.w ≤ 8
  lists : t.w.length ≤ 8
  wt : ∀ l ∈ t.w, ∀ f ∈ l, f.wt = true
  one : t.n = 0 ∨ t.w.length = 0
theorem zeY (ks : List Int) (k : Int) : (jd (ks.map fun x => (T.int .i64 x, T.bool true)) (.int .i64 k)).getD (.bool false) = .bool (decide (k ∈ ks)) := by
  induction ks with
  | nil => simp [jd]
  | cons x ks ih =>
    by_cases h : k = x
    · subst h; simp [jd, qQ]
    · by_cases h2 : x = k
      · exact absurd h2.symm h
      · simpa [jd, qQ, h, h2] using ih
theorem ze7 (ks : List Int) (k : Int) : j9 (ks.map fun x => (T.int .i64 x, T.bool true)) (.int .i64 k) (.bool true) = (if k ∈ ks then ks else ks ++ [k]).map fun x => (T.int .i64 x, T.bool true) := by
  induction ks with
  | nil => simp [j9]
  | cons x ks ih =>
    by_cases h : k = x
    · subst h; simp [j9, qQ]
    · by_cases h2 : x = k
      · exact absurd h2.symm h
      · simp only [List.map_cons, j9, qQ, h, h2, decide_false, Bool.false_eq_true, if_false, List.mem_cons, false_or, ih]
        split <;> simp
theorem jy (ks : List Int) : xB (.int .i64) (ks.map fun x => (T.int .i64 x, T.bool true)) = true := by
  induction ks with
  | nil => rfl
  | cons x ks ih => simp [xB, y8, ih]
end Go.AL
set_option linter.unusedVariables false
namespace Go.AL
open Go Go.Proofs Go.RowKit
def ksT (ks : List Int) : List (T × T) := ks.map fun x => (T.int .i64 x, T.bool true)
theorem zeL (ks : List Int) (k : Nat) : (jd (ksT ks) (.int .i64 (k : Int))).getD (.bool false) = .bool (inK ks k) := zeY ks k
theorem zfl (s : List Int) (j : Nat) (h : j < s.length) (x : Int) (hx : x = s.getD j default) (h0 : 0 ≤ x) (h8 : x < 8) : j9 (ksT (ksF (s.take j))) (.int .i64 x) (.bool true) = ksT (ksF (s.take (j + 1))) := by
  rw [zcE s j h, ← hx]
  refine (ze7 _ _).trans ?_
  unfold zfr ksT
  split
  · rw [if_neg (fun h => h.2 (by assumption))]
  · rw [if_pos ⟨⟨h0, h8⟩, by assumption⟩]
theorem zfm (s : List Int) (j : Nat) (h : j < s.length) (hx : ¬ (0 ≤ s.getD j default ∧ s.getD j default < 8)) : ksF (s.take (j + 1)) = ksF (s.take j) := by
  rw [zcE s j h]; unfold zfr
  rw [if_neg (fun h => hx h.1)]
theorem zav {p : Nat → Bool} {w : List (List Fr)} {i : Nat} (h : i < w.length) (k : Nat) : ws p (w.drop i) k = (yp (x7 p (w.getD i default) k) && ws p (w.drop (i + 1)) (k + (w.getD i default).length)) := by
  rw [yq w i h, ws]
theorem zeX (w : List (List Fr)) : ∀ i, zQ (w.take i) ≤ zQ w := by
  induction w with
  | nil => intro i; simp [zQ]
  | cons x r ih =>
    intro i
    cases i with
    | zero => simp [zQ]
    | succ i => have := ih i; simp only [List.take_succ_cons, zQ]; omega
set_option maxHeartbeats 8000000 in
theorem qe (t : Th) (s : List Int) (ht : t.Fit) (hs : s.length ≤ 1000000) : Spec Tryz.prog 62 [.t t.toT, .t (.sl 1 (s.map (T.int .i64)))] [] (.t (.bool (qk t s))) [] := by
  obtain ⟨V, hV⟩ : ∃ V, V = qk t s := ⟨_, rfl⟩
  rw [← hV]
  obtain ⟨hf1, hf2, hf3, hf4⟩ := ht
  obtain ⟨tn, w⟩ := t
  unfold qk at hV
  unfold Th.toT
  simp only at *
  refine zc (env0 := [(0, _), (1, _)]) (st0 := []) Tryz.func62 rfl rfl rfl rfl ?_
  repeat' (first | refine wC ?_ | refine wK ?_ | fail)
  refine zd (za [2, 4, 5, 15, 16, 17] [.loc 2, .loc 14] rfl rfl) ?_
  refine zp (fun q env st => ∃ (j : Nat), j ≤ s.length ∧ q = s.length - j ∧ env = EnvL.get [(2, .ref (.loc 2) 0 0 0), (4, .t (.bool false)), (5, .row (.loc 14)), (15, .t (.sl 1 (s.map (T.int .i64)))), (16, .t (.int .i64 (s.length : Int))), (17, .t (.int .i64 (j : Int)))] ∧
      st = StO.get [(.loc 2, some (.var 44 [.t (.int .i64 tn), .t (.sl 1 (w.map frs))])), (.loc 14, some (.dat (.map (ksT (ksF (s.take j))))))])
    ?_ (n := s.length) ⟨0, by omega, rfl, rfl, rfl⟩
  rintro q env st ⟨j, hj, rfl, rfl, rfl⟩
  have wj : IntKind.i64.wrap ((j : Int) + 1) = ((j + 1 : Nat) : Int) := by rw [zx (by omega) (by omega)]; omega
  by_cases hlt : j < s.length
  · have hok : xB (.int .i64) (ksT (ksF (s.take j))) = true := jy (ksF (s.take j))
    by_cases hb : 0 ≤ s.getD (j : Int).toNat default ∧ s.getD (j : Int).toNat default < 8
    · have hb1 := hb.1
      have hb2 := hb.2
      have hset := zfl s j hlt (s.getD (j : Int).toNat default) rfl hb1 hb2
      repeat' (first | refine wC ?_ | (exfalso; omega) | refine wK ?_ | ((with_reducible refine ze ?_); refine zb rfl rfl rfl rfl rfl rfl ?_ ?_ ?_) | ((with_reducible refine za9 ?_); refine k9 rfl rfl rfl rfl rfl rfl rfl rfl ?_ ?_) | refine zh rfl (fun hc => ?_) (fun hc => ?_) | refine zG rfl (fun hc => ?_) (fun hc => ?_))
      all_goals try omega
      all_goals try exact hok
      exact zN (n' := s.length - (j + 1)) (by omega) (za [2, 4, 5, 15, 16, 17] [.loc 2, .loc 14] rfl rfl) ⟨j + 1, by omega, rfl, by rw [wj]; rfl, by rw [hset]; rfl⟩
    · have hskip := zfm s j hlt hb
      repeat' (first | refine wC ?_ | (exfalso; omega) | refine wK ?_ | ((with_reducible refine ze ?_); refine zb rfl rfl rfl rfl rfl rfl ?_ ?_ ?_) | refine zh rfl (fun hc => ?_) (fun hc => ?_) | refine zG rfl (fun hc => ?_) (fun hc => ?_))
      all_goals try omega
      all_goals exact zN (n' := s.length - (j + 1)) (by omega) (za [2, 4, 5, 15, 16, 17] [.loc 2, .loc 14] rfl rfl) ⟨j + 1, by omega, rfl, by rw [wj]; rfl, by rw [hskip]; rfl⟩
  · obtain rfl : j = s.length := by omega
    rw [List.take_length]
    have hr := zdM s
    have hok : xB (.int .i64) (ksT (ksF s)) = true := jy (ksF s)
    have hlen : ((ksT (ksF s)).length : Int) = ((ksF s).length : Int) := by unfold ksT; rw [List.length_map]
    generalize ksF s = KS at *
    by_cases hn : tn = 0
    · rw [if_neg (by simp [hn])] at hV
      repeat' (first | refine wC ?_ | (exfalso; omega) | refine wK ?_ | refine zh rfl (fun hc => ?_) (fun hc => ?_) | refine ye rfl (fun hc => ?_) (fun hc => ?_))
      refine zd (za [4, 5, 8, 39, 40, 41] [.loc 14] rfl rfl) ?_
      refine zp (fun q env st => ∃ (j : Nat), j ≤ w.length ∧ q = w.length - j ∧ V = ws (inK KS) (w.drop j) (zQ (w.take j)) ∧ env = EnvL.get [(4, .t (.bool false)), (5, .row (.loc 14)), (8, .t (.int .i64 (zQ (w.take j) : Int))), (39, .t (.sl 1 (w.map frs))), (40, .t (.int .i64 (w.length : Int))), (41, .t (.int .i64 (j : Int)))] ∧
          st = StO.get [(.loc 14, some (.dat (.map (ksT KS))))])
        ?_ (n := w.length) ⟨0, by omega, rfl, hV, rfl, rfl⟩
      rintro q env st ⟨j, hj, rfl, hE, rfl, rfl⟩
      have wj : IntKind.i64.wrap ((j : Int) + 1) = ((j + 1 : Nat) : Int) := by rw [zx (by omega) (by omega)]; omega
      by_cases hlt : j < w.length
      · have hm := wP hlt
        rw [zav hlt] at hE
        have hL := jO w j hlt
        have hL2 := zeX w (j + 1)
        have hwt := hf3 _ hm
        have hjj : w.getD (j : Int).toNat default = w.getD j default := rfl
        rw [← hL] at hE
        generalize hl : w.getD (j : Int).toNat default = l at *
        rw [← hjj] at hE hL
        generalize hk0 : zQ (w.take j) = k0 at *
        generalize hk2 : zQ (w.take (j + 1)) = k2 at *
        repeat' (first | refine wC ?_ | (exfalso; omega) | refine wK ?_ | ((with_reducible refine ze ?_); refine zb rfl rfl rfl rfl rfl rfl ?_ ?_ ?_) | refine zh rfl (fun hc => ?_) (fun hc => ?_))
        · omega
        · omega
        refine zd (yw 11 (.loc 900) 90 2 rfl rfl rfl) ?_
        refine zd (za [4, 5, 8, 11, 39, 40, 41, 45, 46, 47] [.loc 14, .loc 900] rfl rfl) ?_
        refine zp (fun q env st => ∃ (u : Nat), u ≤ l.length ∧ q = l.length - u ∧ env = EnvL.get [(4, .t (.bool false)), (5, .row (.loc 14)), (8, .t (.int .i64 ((k0 + u : Nat) : Int))), (11, .row (.loc 900)), (39, .t (.sl 1 (w.map frs))), (40, .t (.int .i64 (w.length : Int))), (41, .t (.int .i64 (j : Int))), (45, .t (.sl 2 (l.map Fr.toT))), (46, .t (.int .i64 (l.length : Int))), (47, .t (.int .i64 (u : Int)))] ∧
            st = StO.get [(.loc 14, some (.dat (.map (ksT KS)))), (.loc 900, some (.slt 90 2 ((x7 (inK KS) (l.take u) k0).map Fr.toT)))])
          ?_ (n := l.length) ⟨0, by omega, rfl, by rw [hl]; rfl, rfl⟩
        rintro q env st ⟨u, hu, rfl, rfl, rfl⟩
        have wu : IntKind.i64.wrap ((u : Int) + 1) = ((u + 1 : Nat) : Int) := by rw [zx (by omega) (by omega)]; omega
        have wk : IntKind.i64.wrap (((k0 + u : Nat) : Int) + 1) = ((k0 + (u + 1) : Nat) : Int) := by rw [zx (by omega) (by omega)]; omega
        by_cases hlu : u < l.length
        · have hG := zeL KS (k0 + u)
          have hH := jW (inK KS) l k0 u hlu
          have hLn := (ko (inK KS) (l.take u) k0).1
          rw [List.length_take] at hLn
          cases hin : inK KS (k0 + u) with
          | true =>
            rw [hin] at hG hH
            simp only [if_true] at hH
            repeat' (first | refine wC ?_ | (exfalso; omega) | refine vC rfl rfl rfl rfl hG (fun _ => rfl) rfl rfl rfl rfl ?_ ?_ | refine wK ?_ | ((with_reducible refine ze ?_); refine zb rfl rfl rfl rfl rfl rfl ?_ ?_ ?_) | ((with_reducible refine yo ?_); refine zL rfl rfl rfl rfl rfl rfl rfl rfl rfl rfl ?_ ?_ ?_) | refine zh rfl (fun hc => ?_) (fun hc => ?_))
            all_goals try (simp only [List.length_map, List.length_singleton]; omega)
            all_goals try omega
            all_goals try exact hok
            exact zN (n' := l.length - (u + 1)) (by omega) ((za [4, 5, 8, 11, 39, 40, 41, 45, 46, 47] [.loc 14, .loc 57] rfl rfl).trans (zv (.loc 57) (.loc 900) rfl rfl rfl rfl)) ⟨u + 1, by omega, rfl, by rw [wu, wk]; rfl, by rw [hH]; simp only [List.map_append]; rfl⟩
          | false =>
            rw [hin] at hG hH
            simp only [Bool.false_eq_true, if_false, List.append_nil] at hH
            repeat' (first | refine wC ?_ | (exfalso; omega) | refine vC rfl rfl rfl rfl hG (fun _ => rfl) rfl rfl rfl rfl ?_ ?_ | refine wK ?_ | ((with_reducible refine ze ?_); refine zb rfl rfl rfl rfl rfl rfl ?_ ?_ ?_) | refine zh rfl (fun hc => ?_) (fun hc => ?_))
            all_goals try (simp only [List.length_map, List.length_singleton]; omega)
            all_goals try omega
            all_goals try exact hok
            exact zN (n' := l.length - (u + 1)) (by omega) (za [4, 5, 8, 11, 39, 40, 41, 45, 46, 47] [.loc 14, .loc 900] rfl rfl) ⟨u + 1, by omega, rfl, by rw [wu, wk]; rfl, by rw [hH]; rfl⟩
        · obtain rfl : u = l.length := by omega
          rw [List.take_length]
          have hsub := ko (inK KS) l k0
          have hW := vj (x7 (inK KS) l k0) (fun f hf => hwt f (hsub.2 f hf)) (by omega)
          generalize x7 (inK KS) l k0 = H at *
          refine zd (zy (id := .loc 900) rfl rfl rfl) ?_
          generalize yp H = W at *
          cases W with
          | true =>
            rw [Bool.true_and] at hE
            repeat' (first | refine wC ?_ | (exfalso; omega) | refine wK ?_ | ((with_reducible refine zo ?_); refine zg rfl rfl hW rfl rfl (ArgsLE.refl _) rfl rfl rfl rfl rfl ?_) | refine zh rfl (fun hc => ?_) (fun hc => ?_))
            exact zN (n' := w.length - (j + 1)) (by omega) (za [4, 5, 8, 39, 40, 41] [.loc 14] rfl rfl) ⟨j + 1, by omega, rfl, by rw [hk2]; exact hE, by rw [wj, hk2, hL]; rfl, rfl⟩
          | false =>
            rw [Bool.false_and] at hE
            repeat' (first | refine wC ?_ | (exfalso; omega) | refine wK ?_ | ((with_reducible refine zo ?_); refine zg rfl rfl hW rfl rfl (ArgsLE.refl _) rfl rfl rfl rfl rfl ?_) | refine zh rfl (fun hc => ?_) (fun hc => ?_))
            exact zq (zi rfl rfl (congrArg T.bool hE.symm)) (by simp)
      · obtain rfl : j = w.length := by omega
        rw [List.drop_length, ws] at hE
        repeat' (first | refine wC ?_ | (exfalso; omega) | refine wK ?_ | refine zh rfl (fun hc => ?_) (fun hc => ?_))
        exact zq (zi rfl rfl (congrArg T.bool hE.symm)) (by simp)
    · rw [if_pos hn, ← hlen] at hV
      repeat' (first | refine wC ?_ | (exfalso; omega) | refine ku rfl rfl rfl rfl rfl rfl ?_ | refine wK ?_ | refine zh rfl (fun hc => ?_) (fun hc => ?_) | refine ye rfl (fun hc => ?_) (fun hc => ?_))
      exact zq (zi rfl rfl (congrArg T.bool hV.symm)) (by simp)
end Go.AL
set_option linter.unusedVariables false
namespace Go.AL
open Go Go.Proofs Go.RowKit
end Go.AL
set_option linter.unusedVariables false
namespace Go.AL
open Go
def zfv (a b : Fr) : Int := b.n * a.d - a.n * b.d
def swp (l : List Fr) (j : Nat) : List Fr := (l.set j (l.getD (j - 1) default)).set (j - 1) (l.getD j default)
def bub : Nat → List Fr → List Fr
  | 0, l => l
  | j + 1, l => if zfv (l.getD (j + 1) default) (l.getD j default) < 0 then bub j (swp l (j + 1)) else l
def srt : Nat → List Fr → List Fr
  | 0, l => l
  | k + 1, l => srt k (bub (l.length - (k + 1)) l)
def wE (l : List Fr) : List Fr := srt (l.length - 1) l
theorem zbD (l : List Fr) (j : Nat) (h : j < l.length) : (swp l j).Perm l := by
  unfold swp
  rw [List.getD_eq_getElem?_getD, List.getD_eq_getElem?_getD, List.getElem?_eq_getElem h, List.getElem?_eq_getElem (show j - 1 < l.length by omega)]
  exact List.set_set_perm h (by omega)
theorem zbm : ∀ (j : Nat) (l : List Fr), j < l.length → (bub j l).Perm l
  | 0, l, _ => .refl _
  | j + 1, l, h => by
    rw [bub]
    split
    · have hp := zbD l (j + 1) h
      exact (zbm j _ (by rw [hp.length_eq]; omega)).trans hp
    · exact .refl _
theorem zbf : ∀ (k : Nat) (l : List Fr), k ≤ l.length → (srt k l).Perm l
  | 0, l, _ => .refl _
  | k + 1, l, h => by
    rw [srt]
    have hp := zbm (l.length - (k + 1)) l (by omega)
    exact (zbf k _ (by rw [hp.length_eq]; omega)).trans hp
theorem zc4 (l : List Fr) : (wE l).Perm l := zbf _ _ (by omega)
theorem zfz {a b : Fr} (ha : a.wt = true) (hb : b.wt = true) : 0 ≤ b.n * a.d ∧ b.n * a.d ≤ 10000 ∧ 0 ≤ a.n * b.d ∧ a.n * b.d ≤ 10000 := by
  obtain ⟨a1, a2, a3, a4, _⟩ := wN ha
  obtain ⟨b1, b2, b3, b4, _⟩ := wN hb
  have h1 : 0 ≤ b.n * a.d := Int.mul_nonneg b3 (by omega)
  have h2 : b.n * a.d ≤ 100 * 100 := Int.mul_le_mul (by omega) a2 (by omega) (by omega)
  have h3 : 0 ≤ a.n * b.d := Int.mul_nonneg a3 (by omega)
  have h4 : a.n * b.d ≤ 100 * 100 := Int.mul_le_mul (by omega) b2 (by omega) (by omega)
  omega
end Go.AL
set_option linter.unusedVariables false
namespace Go.AL
open Go Go.Proofs Go.RowKit
set_option maxHeartbeats 2000000 in
theorem zec (a b : Fr) (ha : a.wt = true) (hb : b.wt = true) : Spec Tryz.prog 193 [.t a.toT, .t b.toT] [] (.t (.int .i64 (zfv a b))) [] := by
  obtain ⟨h1, h2, h3, h4⟩ := zfz ha hb
  have e1 : IntKind.i64.wrap (b.n * a.d) = b.n * a.d := zx (by omega) (by omega)
  have e2 : IntKind.i64.wrap (a.n * b.d) = a.n * b.d := zx (by omega) (by omega)
  have e3 : IntKind.i64.wrap (IntKind.i64.wrap (b.n * a.d) - IntKind.i64.wrap (a.n * b.d)) = zfv a b := by rw [e1, e2]; unfold zfv; exact zx (by omega) (by omega)
  generalize zfv a b = c at *
  unfold Fr.toT
  refine zc (env0 := [(0, _), (1, _)]) (st0 := []) Tryz.func193 rfl rfl rfl rfl ?_
  repeat' (first | refine wC ?_ | refine wK ?_ | fail)
  exact zq (zi rfl rfl (congrArg (T.int .i64) e3)) (by simp)
set_option maxHeartbeats 8000000 in
theorem zai (l : List Fr) (hw : ∀ f ∈ l, f.wt = true) (h12 : l.length ≤ 12) : Spec Tryz.prog 296 [.row (.par 0), .t (.int .i64 0), .t (.int .i64 (l.length : Int)), .t (.fn 193)] [(.par 0, .slt 90 2 (l.map Fr.toT))] (.tup []) [(.par 0, .slt 90 2 ((wE l).map Fr.toT))] := by
  obtain ⟨R, hR⟩ : ∃ R, R = wE l := ⟨_, rfl⟩
  rw [← hR]
  unfold wE at hR
  obtain ⟨n, hn⟩ : ∃ n, n = l.length := ⟨_, rfl⟩
  rw [← hn] at hR ⊢
  refine zc (env0 := [(0, _), (1, _), (2, _), (3, _)]) (st0 := [(_, some _)]) Tryz.func296 rfl rfl rfl rfl ?_
  repeat' (first | refine wC ?_ | refine wK ?_ | fail)
  refine zd (za [0, 1, 2, 3, 8] [.par 0] rfl rfl) ?_
  refine zp (fun q env st => ∃ (i : Nat) (y : List Fr), 1 ≤ i ∧ i ≤ n + 1 ∧ q = n + 1 - i ∧ y.length = n ∧ (∀ f ∈ y, f.wt = true) ∧ R = srt (n - i) y ∧ env = EnvL.get [(0, .row (.par 0)), (1, .t (.int .i64 0)), (2, .t (.int .i64 (n : Int))), (3, .t (.fn 193)), (8, .t (.int .i64 (i : Int)))] ∧
      st = StO.get [(.par 0, some (.slt 90 2 (y.map Fr.toT)))])
    ?_ (n := n) ⟨1, l, by omega, by omega, by omega, hn.symm, hw, hR, rfl, rfl⟩
  rintro q env st ⟨i, y, hi1, hi, rfl, hy, hyw, hG, rfl, rfl⟩
  have wi : IntKind.i64.wrap ((i : Int) + 1) = ((i + 1 : Nat) : Int) := by rw [zx (by omega) (by omega)]; omega
  by_cases hlt : i < n
  · rw [show n - i = (n - (i + 1)) + 1 by omega, srt, hy, show n - (n - (i + 1) + 1) = i by omega] at hG
    repeat' (first | refine wC ?_ | (exfalso; omega) | refine wK ?_ | refine zh rfl (fun hc => ?_) (fun hc => ?_))
    refine zd (za [0, 1, 2, 3, 8, 9] [.par 0] rfl rfl) ?_
    refine zp (fun q env st => ∃ (j : Nat) (z : List Fr), j ≤ i ∧ q = j ∧ z.length = n ∧ (∀ f ∈ z, f.wt = true) ∧ R = srt (n - (i + 1)) (bub j z) ∧ env = EnvL.get [(0, .row (.par 0)), (1, .t (.int .i64 0)), (2, .t (.int .i64 (n : Int))), (3, .t (.fn 193)), (8, .t (.int .i64 (i : Int))), (9, .t (.int .i64 (j : Int)))] ∧
        st = StO.get [(.par 0, some (.slt 90 2 (z.map Fr.toT)))])
      ?_ (n := i) ⟨i, y, by omega, rfl, hy, hyw, hG, rfl, rfl⟩
    rintro q env st ⟨j, z, hj, rfl, hz, hzw, hG, rfl, rfl⟩
    cases q with
    | zero =>
      rw [bub] at hG
      repeat' (first | refine wC ?_ | refine wK ?_ | fail)
      exact zN (n' := n + 1 - (i + 1)) (by omega) (za [0, 1, 2, 3, 8] [.par 0] rfl rfl) ⟨i + 1, z, by omega, by omega, rfl, hz, hzw, hG, by rw [wi]; rfl, rfl⟩
    | succ j =>
      have w1 : IntKind.i64.wrap (((j + 1 : Nat) : Int) - 1) = (j : Int) := by rw [zx (by omega) (by omega)]; omega
      have mA : z.getD (j + 1) default ∈ z := wP (j := j + 1) (by omega)
      have mB : z.getD j default ∈ z := wP (j := j) (by omega)
      have hC := zec (z.getD (j + 1) default) (z.getD j default) (hzw _ mA) (hzw _ mB)
      rw [bub] at hG
      obtain ⟨J, hJ⟩ : ∃ J : Int, J = ((j + 1 : Nat) : Int) := ⟨_, rfl⟩
      rw [← hJ] at w1 ⊢
      have eA : z.getD J.toNat default = z.getD (j + 1) default := by rw [hJ]; rfl
      have eB : z.getD (IntKind.i64.wrap (J - 1)).toNat default = z.getD j default := by rw [w1]; rfl
      have hS : swp z (j + 1) = (z.set J.toNat (z.getD (IntKind.i64.wrap (J - 1)).toNat default)).set (IntKind.i64.wrap (J - 1)).toNat (z.getD J.toNat default) := by
        rw [eA, eB, w1, hJ]; rfl
      rw [← eA, ← eB] at hC hG
      have hp := zbD z (j + 1) (by omega)
      generalize hc0 : zfv (z.getD J.toNat default) (z.getD (IntKind.i64.wrap (J - 1)).toNat default) = c at *
      unfold Fr.toT at hC ⊢
      have bJ : 0 ≤ IntKind.i64.wrap (J - 1) ∧ IntKind.i64.wrap (J - 1) < n := by rw [w1]; omega
      by_cases hcn : c < 0
      · rw [if_pos hcn] at hG
        repeat' (first | refine wC ?_ | (exfalso; omega) | refine wK ?_ | ((with_reducible refine jU ?_); refine xo rfl rfl rfl rfl rfl rfl rfl ?_ ?_ ?_) | ((with_reducible refine xK ?_); refine yP rfl rfl rfl rfl rfl rfl ?_ ?_ ?_) | ((with_reducible refine ze ?_); refine zE rfl rfl rfl rfl rfl rfl rfl ?_ ?_ ?_) | ((with_reducible refine zo ?_); refine zg rfl rfl hC rfl rfl (ArgsLE.refl _) rfl rfl rfl rfl rfl ?_) | refine zh rfl (fun hc => ?_) (fun hc => ?_) | refine zG rfl (fun hc => ?_) (fun hc => ?_))
        all_goals try (simp only [List.length_map, List.length_set]; omega)
        all_goals try omega
        all_goals try rfl
        exact zN (n' := j) (by omega) (za [0, 1, 2, 3, 8, 9] [.par 0] rfl rfl) ⟨j, swp z (j + 1), by omega, rfl, by rw [hp.length_eq]; exact hz, fun f hf => hzw f (hp.mem_iff.1 hf), hG, by rw [w1]; rfl, by rw [hS]; simp only [List.map_set]; rfl⟩
      · rw [if_neg hcn] at hG
        repeat' (first | refine wC ?_ | (exfalso; omega) | refine wK ?_ | ((with_reducible refine jU ?_); refine xo rfl rfl rfl rfl rfl rfl rfl ?_ ?_ ?_) | ((with_reducible refine ze ?_); refine zE rfl rfl rfl rfl rfl rfl rfl ?_ ?_ ?_) | ((with_reducible refine zo ?_); refine zg rfl rfl hC rfl rfl (ArgsLE.refl _) rfl rfl rfl rfl rfl ?_) | refine zh rfl (fun hc => ?_) (fun hc => ?_) | refine zG rfl (fun hc => ?_) (fun hc => ?_))
        all_goals try (simp only [List.length_map, List.length_set]; omega)
        all_goals try omega
        all_goals try rfl
        exact zN (n' := n + 1 - (i + 1)) (by omega) (za [0, 1, 2, 3, 8] [.par 0] rfl rfl) ⟨i + 1, z, by omega, by omega, rfl, hz, hzw, hG, by rw [wi]; rfl, rfl⟩
  · rw [show n - i = 0 by omega, srt] at hG
    subst hG
    repeat' (first | refine wC ?_ | (exfalso; omega) | refine wK ?_ | refine zh rfl (fun hc => ?_) (fun hc => ?_))
    exact zfa (w6 rfl) (zf ⟨rfl, trivial⟩)
end Go.AL
set_option linter.unusedVariables false
namespace Go.AL
open Go Go.Proofs Go.RowKit
set_option maxHeartbeats 2000000 in
theorem zaM (l : List Fr) : Spec Tryz.prog 192 [.t (frs l)] [] (.fn 256 [.ref (.res 0) 0 0 0]) [(.res 0, .var 88 [.t (frs l)])] := by
  unfold frs
  refine zz (env0 := [(0, _)]) (st0 := []) Tryz.func192 rfl rfl rfl rfl ?_
  repeat' (first | refine wC ?_ | refine wK ?_ | fail)
  refine y3 ((za [2] [.loc 1] rfl rfl).trans (zv (.loc 1) (.res 0) rfl rfl rfl rfl)) ?_
  exact xL (zq (yr rfl (AVLE.of_eq rfl)) (zf ⟨rfl, trivial⟩))
set_option maxHeartbeats 4000000 in
theorem zcJ (l : List Fr) (hl : l.length ≤ 1000) (kk : LoopK) (tb : Nat)
    (H : ∀ (ds : List Fr) (x : Fr), ds.length ≤ 1000 → RoundT Tryz.prog kk [(tb, .ref (.par 10) 0 0 0)] [.t x.toT] [(.par 10, .var 88 [.row (.par 11)]), (.par 11, .slt 90 2 (ds.map Fr.toT))] [(.par 10, .var 88 [.row (.res 0)]), (.res 0, .slt 90 2 ((ds ++ [x]).map Fr.toT))]) :
    Spec Tryz.prog 256 [.row (.par 50), .ref (.par 20) 0 0 0] [(.par 50, .loop kk [(tb, .ref (.par 10) 0 0 0)]), (.par 20, .var 88 [.t (frs l)]), (.par 10, .var 88 [.row (.par 11)]), (.par 11, .slt 90 2 [])]
      (.tup []) [(.par 50, .loop kk [(tb, .ref (.par 10) 0 0 0)]), (.par 20, .var 88 [.t (frs l)]), (.par 10, .var 88 [.row (.res 0)]), (.res 0, .slt 90 2 (l.map Fr.toT))] := by
  unfold frs
  refine zz (env0 := [(0, _), (1, _)]) (st0 := [(_, some _), (_, some _), (_, some _), (_, some _)]) Tryz.func256 rfl rfl rfl rfl ?_
  repeat' (first | refine wC ?_ | refine wK ?_ | fail)
  refine zd ((za [0, 1, 5, 6, 7] [.par 50, .par 20, .par 10, .par 11] rfl rfl).trans (zaK (.par 11) (.loc 900) rfl rfl rfl rfl)) ?_
  refine zp (fun p env st => ∃ (j : Nat), j ≤ l.length ∧ p = l.length - j ∧
      env = EnvL.get [(0, .row (.par 50)), (1, .ref (.par 20) 0 0 0), (5, .t (.sl 2 (l.map Fr.toT))), (6, .t (.int .i64 (l.length : Int))), (7, .t (.int .i64 (j : Int)))] ∧
      st = StO.get [(.par 50, some (.loop kk [(tb, .ref (.par 10) 0 0 0)])), (.par 20, some (.var 88 [.t (.sl 2 (l.map Fr.toT))])), (.par 10, some (.var 88 [.row (.loc 900)])), (.loc 900, some (.slt 90 2 ((l.take j).map Fr.toT)))])
    ?_ (n := l.length) ⟨0, by omega, rfl, rfl, rfl⟩
  rintro p env st ⟨j, hj, rfl, rfl, rfl⟩
  have wj : IntKind.i64.wrap ((j : Int) + 1) = ((j + 1 : Nat) : Int) := by rw [zx (by omega) (by omega)]; omega
  by_cases hlt : j < l.length
  · have hR := H (l.take j) (l.getD (j : Int).toNat default) (by rw [List.length_take]; omega)
    have hT : l.take j ++ [l.getD (j : Int).toNat default] = l.take (j + 1) := by
      rw [List.take_add_one, Int.toNat_natCast, List.getD_eq_getElem?_getD, List.getElem?_eq_getElem hlt]; rfl
    rw [hT] at hR
    unfold Fr.toT at hR ⊢
    repeat' (first | refine wC ?_ | (exfalso; omega) | refine wK ?_ | ((with_reducible refine ze ?_); refine zb rfl rfl rfl rfl rfl rfl ?_ ?_ ?_) | ((with_reducible refine zo ?_); refine zd9 [(.par 11, .loc 900), (.res 0, .loc 901)] rfl rfl hR rfl (ArgsLE.refl _) rfl rfl ⟨rfl, rfl, trivial⟩ rfl rfl rfl rfl rfl rfl rfl rfl rfl rfl ?_) | refine zh rfl (fun hc => ?_) (fun hc => ?_))
    all_goals try (simp only [List.length_map]; omega)
    all_goals try omega
    all_goals try rfl
    refine zN (n' := l.length - (j + 1)) (by omega) ((za [0, 1, 5, 6, 7] [.par 50, .par 20, .par 10, .loc 901] rfl rfl).trans (zv (.loc 901) (.loc 900) rfl rfl rfl rfl)) ⟨j + 1, by omega, rfl, by rw [wj]; rfl, rfl⟩
  · obtain rfl : j = l.length := by omega
    rw [List.take_length]
    repeat' (first | refine wC ?_ | (exfalso; omega) | refine wK ?_ | refine zh rfl (fun hc => ?_) (fun hc => ?_))
    refine y3 ((za [] [.par 50, .par 20, .par 10, .loc 900] rfl rfl).trans (zv (.loc 900) (.res 0) rfl rfl rfl rfl)) ?_
    exact xL (zfa (w6 rfl) (zf ⟨rfl, rfl, rfl, rfl, trivial⟩))
set_option maxHeartbeats 8000000 in
theorem qV (l : List Fr) (hl : l.length ≤ 1000) : Spec Tryz.prog 283 [.t .nilsl, .fn 256 [.ref (.par 20) 0 0 0]] [(.par 20, .var 88 [.t (frs l)])] (.row (.res 0)) [(.par 20, .var 88 [.t (frs l)]), (.res 0, .slt 90 2 (l.map Fr.toT))] := by
  have hF := zcJ l hl
  refine zz (env0 := [(0, _), (1, _)]) (st0 := [(_, some _)]) Tryz.func283 rfl rfl rfl rfl ?_
  repeat' (first | refine wC ?_ | refine wK ?_ | fail)
  refine zd (xa (r := .loc 2) 0 (.loc 900) 90 2 rfl rfl rfl rfl rfl) ?_
  refine zd (za [2, 4, 6] [.par 20, .loc 2, .loc 900] rfl rfl) ?_
  refine vM (.par 50) (.loc 905) [(.par 50, .loc 905), (.par 10, .loc 2), (.par 11, .loc 900), (.par 20, .par 20), (.res 0, .loc 906)] rfl (fun fn B => hF ⟨13, fn, #[7], _, _, B⟩ 2 ?_) (fun _ _ => rfl) rfl rfl rfl (.cons (.refl _) .nil) ⟨.refl _, trivial⟩ rfl rfl ⟨rfl, rfl, rfl, trivial⟩ rfl rfl rfl rfl rfl rfl ?_
  · intro ds x hd
    refine jP rfl rfl rfl rfl rfl ?_
    rw [show (ds ++ [x]).map Fr.toT = ds.map Fr.toT ++ [Fr.toT x] from List.map_append ..]
    unfold Fr.toT
    repeat' (first | refine wC ?_ | refine wK ?_ | ((with_reducible refine yo ?_); refine zL rfl rfl rfl rfl rfl rfl rfl rfl rfl rfl ?_ ?_ ?_))
    all_goals try (simp only [List.length_map, List.length_singleton]; omega)
    refine y3 ((za [] [.par 10, .loc 11] rfl rfl).trans (zv (.loc 11) (.res 0) rfl rfl rfl rfl)) ?_
    exact zfg ⟨rfl, rfl, trivial⟩
  · repeat' (first | refine wC ?_ | refine wK ?_ | fail)
    refine y3 ((za [4] [.par 20, .loc 906] rfl rfl).trans (zv (.loc 906) (.res 0) rfl rfl rfl rfl)) ?_
    exact xL (zq (yr rfl (AVLE.of_eq rfl)) (zf ⟨rfl, rfl, trivial⟩))
set_option maxHeartbeats 2000000 in
theorem jr (l : List Fr) (hl : l.length ≤ 1000) : Spec Tryz.prog 254 [.fn 256 [.ref (.par 20) 0 0 0]] [(.par 20, .var 88 [.t (frs l)])] (.row (.res 0)) [(.par 20, .var 88 [.t (frs l)]), (.res 0, .slt 90 2 (l.map Fr.toT))] := by
  have hA := qV l hl
  unfold frs at *
  refine zz (env0 := [(0, _)]) (st0 := [(_, some _)]) Tryz.func254 rfl rfl rfl rfl ?_
  repeat' (first | refine wC ?_ | refine wK ?_ | ((with_reducible refine zo ?_); refine zr (r' := .row (.loc 906)) [(.res 0, .loc 906)] rfl rfl hA (ArgsLE.refl _) rfl ⟨rfl, trivial⟩ rfl rfl rfl rfl rfl rfl rfl rfl rfl rfl ?_))
  refine y3 ((za [2] [.par 20, .loc 906] rfl rfl).trans (zv (.loc 906) (.res 0) rfl rfl rfl rfl)) ?_
  exact xL (zq (yr rfl (AVLE.of_eq rfl)) (zf ⟨rfl, rfl, trivial⟩))
set_option maxHeartbeats 2000000 in
theorem zeb (l : List Fr) (hw : ∀ f ∈ l, f.wt = true) (h12 : l.length ≤ 12) (v : Int) : Spec Tryz.prog 284 [.row (.par 0), .t (.int .i64 0), .t (.int .i64 (l.length : Int)), .t (.int .i64 v), .t (.fn 193)] [(.par 0, .slt 90 2 (l.map Fr.toT))] (.tup []) [(.par 0, .slt 90 2 ((wE l).map Fr.toT))] := by
  have hI := zai l hw h12
  have w0 : IntKind.i64.wrap ((l.length : Int) - 0) = (l.length : Int) := by rw [zx (by omega) (by omega)]; omega
  refine zc (env0 := [(0, _), (1, _), (2, _), (3, _), (4, _)]) (st0 := [(_, some _)]) Tryz.func284 rfl rfl rfl rfl ?_
  repeat' (first | refine wC ?_ | refine wK ?_ | fail)
  refine zp (fun q env st => env = EnvL.get [(11, .t (.bool true)), (10, .t (.bool true)), (0, .row (.par 0)), (1, .t (.int .i64 0)), (2, .t (.int .i64 (l.length : Int))), (3, .t (.int .i64 v)), (4, .t (.fn 193))] ∧ st = StO.get [(.par 0, some (.slt 90 2 (l.map Fr.toT)))]) ?_ (n := 0) ⟨rfl, rfl⟩
  · rintro q env st ⟨rfl, rfl⟩
    repeat' (first | refine wC ?_ | (exfalso; omega) | refine wK ?_ | ((with_reducible refine zo ?_); refine zr (r' := .tup []) [] rfl rfl hI (ArgsLE.refl _) rfl ⟨rfl, trivial⟩ rfl rfl rfl rfl rfl rfl rfl rfl rfl rfl ?_) | refine zh rfl (fun hc => ?_) (fun hc => ?_))
    exact zq (w6 rfl) (zf ⟨rfl, trivial⟩)
set_option maxHeartbeats 2000000 in
theorem zce (n : Int) (h0 : 0 ≤ n) (h : n ≤ 12) : ∃ v, Spec Tryz.prog 265 [.t (.int .u64 n)] [] (.t (.int .i64 v)) [] := by
  have w8 : IntKind.u8.wrap n = n := by
    have : IntKind.u8.wrap n = n % 256 := rfl
    omega
  apply Exists.intro
  refine zc (env0 := [(0, _)]) (st0 := []) Tryz.func265 rfl rfl rfl rfl ?_
  repeat' (first | refine wC ?_ | (exfalso; omega) | refine wK ?_ | ((with_reducible refine kP ?_); refine y6 rfl rfl rfl rfl rfl rfl ?_ ?_ ?_) | refine zh rfl (fun hc => ?_) (fun hc => ?_))
  · omega
  · exact Int.lt_of_lt_of_le (b := 13) (by omega) (by decide +kernel)
  · exact zq (zi rfl rfl rfl) (by simp)
set_option maxHeartbeats 2000000 in
theorem zei (n : Int) (h0 : 0 ≤ n) (h : n ≤ 12) : ∃ v, Spec Tryz.prog 285 [.t (.int .u64 n)] [] (.t (.int .i64 v)) [] := by
  obtain ⟨v, hv⟩ := zce n h0 h
  refine ⟨v, ?_⟩
  refine zc (env0 := [(0, _)]) (st0 := []) Tryz.func285 rfl rfl rfl rfl ?_
  repeat' (first | refine wC ?_ | refine wK ?_ | ((with_reducible refine zo ?_); refine zg rfl rfl hv rfl rfl (ArgsLE.refl _) rfl rfl rfl rfl rfl ?_))
  exact zq (zi rfl rfl rfl) (by simp)
set_option maxHeartbeats 2000000 in
theorem kn (l : List Fr) (hw : ∀ f ∈ l, f.wt = true) (h12 : l.length ≤ 12) : Spec Tryz.prog 255 [.row (.par 0), .t (.fn 193)] [(.par 0, .slt 90 2 (l.map Fr.toT))] (.tup []) [(.par 0, .slt 90 2 ((wE l).map Fr.toT))] := by
  have wl : IntKind.u64.wrap (l.length : Int) = (l.length : Int) := by
    have : IntKind.u64.wrap (l.length : Int) = (l.length : Int) % 18446744073709551616 := rfl
    omega
  obtain ⟨v, hv⟩ := zei (IntKind.u64.wrap (l.length : Int)) (by omega) (by omega)
  have hI := zeb l hw h12 v
  refine zc (env0 := [(0, _), (1, _)]) (st0 := [(_, some _)]) Tryz.func255 rfl rfl rfl rfl ?_
  repeat' (first | refine wC ?_ | refine wK ?_ | ((with_reducible refine zo ?_); first | refine zg rfl rfl hv rfl rfl (ArgsLE.refl _) rfl rfl rfl rfl rfl ?_ | refine zr (r' := .tup []) [] rfl rfl hI (ArgsLE.refl _) rfl ⟨rfl, trivial⟩ rfl rfl rfl rfl rfl rfl rfl rfl rfl rfl ?_))
  exact zfa (w6 rfl) (zf ⟨rfl, trivial⟩)
set_option maxHeartbeats 2000000 in
theorem qA (l : List Fr) (hw : ∀ f ∈ l, f.wt = true) (h12 : l.length ≤ 12) : Spec Tryz.prog 191 [.fn 256 [.ref (.par 20) 0 0 0], .t (.fn 193)] [(.par 20, .var 88 [.t (frs l)])] (.row (.res 0)) [(.par 20, .var 88 [.t (frs l)]), (.res 0, .slt 90 2 ((wE l).map Fr.toT))] := by
  have hC := jr l (by omega)
  have hS := kn l hw h12
  unfold frs at *
  refine zz (env0 := [(0, _), (1, _)]) (st0 := [(_, some _)]) Tryz.func191 rfl rfl rfl rfl ?_
  repeat' (first | refine wC ?_ | refine wK ?_ | ((with_reducible refine zo ?_); first | refine zr (r' := .row (.loc 906)) [(.res 0, .loc 906)] rfl rfl hC (ArgsLE.refl _) rfl ⟨rfl, trivial⟩ rfl rfl rfl rfl rfl rfl rfl rfl rfl rfl ?_ | refine zr (r' := .tup []) [(.par 0, .loc 906)] rfl rfl hS (ArgsLE.refl _) rfl ⟨rfl, trivial⟩ rfl rfl rfl rfl rfl rfl rfl rfl rfl rfl ?_))
  refine y3 ((za [4] [.par 20, .loc 906] rfl rfl).trans (zv (.loc 906) (.res 0) rfl rfl rfl rfl)) ?_
  exact xL (zq (yr rfl (AVLE.of_eq rfl)) (zf ⟨rfl, rfl, trivial⟩))
set_option maxHeartbeats 4000000 in
theorem zcd (l : List Fr) (hw : ∀ f ∈ l, f.wt = true) (h8 : l.length ≤ 8) (k : Nat) (hk : k ≤ l.length) (h1 : yp ((wE l).take k) = true) (h0 : ∀ m, m < k → yp ((wE l).take m) = false) : Spec Tryz.prog 116 [.t (frs l)] [] (.t (.int .i64 (k : Int))) [] := by
  have hV := zaM l
  have hS := qA l hw (by omega)
  have hp := zc4 l
  have hy : ∀ f ∈ wE l, f.wt = true := fun f hf => hw f (hp.mem_iff.1 hf)
  have hyl : (wE l).length = l.length := hp.length_eq
  generalize wE l = y at *
  unfold frs at *
  refine zz (env0 := [(0, _)]) (st0 := []) Tryz.func116 rfl rfl rfl rfl ?_
  repeat' (first | refine wC ?_ | refine wK ?_ | ((with_reducible refine zo ?_); first | refine zr (r' := .fn 256 [.ref (.loc 904) 0 0 0]) [(.res 0, .loc 904)] rfl rfl hV (ArgsLE.refl _) rfl trivial rfl rfl rfl rfl rfl rfl rfl rfl rfl rfl ?_ | refine zr (r' := .row (.loc 906)) [(.par 20, .loc 904), (.res 0, .loc 906)] rfl rfl hS (ArgsLE.refl _) rfl ⟨rfl, trivial⟩ rfl rfl rfl rfl rfl rfl rfl rfl rfl rfl ?_))
  refine zd (zy (id := .loc 906) rfl rfl rfl) ?_
  refine zd (za [0, 2, 3] [] rfl rfl) ?_
  refine zp (fun q env st => ∃ (j : Nat), j ≤ k ∧ q = k - j ∧ env = EnvL.get [(0, .t (.sl 2 (y.map Fr.toT))), (2, .t (.int .i64 0)), (3, .t (.int .i64 (j : Int)))] ∧ st = StO.get [])
    ?_ (n := k) ⟨0, by omega, rfl, rfl, rfl⟩
  rintro q env st ⟨j, hj, rfl, rfl, rfl⟩
  have wj : IntKind.i64.wrap ((j : Int) + 1) = ((j + 1 : Nat) : Int) := by rw [zx (by omega) (by omega)]; omega
  have hW := vj (y.take j) (fun f hf => hy f (List.mem_of_mem_take hf)) (by rw [List.length_take]; omega)
  unfold frs at hW
  have he : AV.t (T.sl 2 (List.drop (Int.toNat 0) (List.take (j : Int).toNat (y.map Fr.toT)))) = AV.t (T.sl 2 ((y.take j).map Fr.toT)) := by
    rw [List.map_take]; rfl
  by_cases hlt : j < k
  · have hz := h0 j hlt
    rw [hz] at hW
    repeat' (first | refine wC ?_ | refine wK ?_ | ((with_reducible refine v7 ?_); refine wq rfl rfl rfl ⟨_, rfl⟩ rfl rfl rfl ?_ ?_ ?_ ?_) | ((with_reducible refine zo ?_); refine zg rfl rfl hW rfl rfl (ArgsLE.cons (AVLE.of_eq he) (ArgsLE.refl _)) rfl rfl rfl rfl rfl ?_))
    all_goals try (simp only [List.length_map]; omega)
    all_goals try omega
    exact zN (n' := k - (j + 1)) (by omega) (za [0, 2, 3] [] rfl rfl) ⟨j + 1, by omega, rfl, by rw [wj]; rfl, rfl⟩
  · obtain rfl : j = k := by omega
    rw [h1] at hW
    repeat' (first | refine wC ?_ | refine wK ?_ | ((with_reducible refine v7 ?_); refine wq rfl rfl rfl ⟨_, rfl⟩ rfl rfl rfl ?_ ?_ ?_ ?_) | ((with_reducible refine zo ?_); refine zg rfl rfl hW rfl rfl (ArgsLE.cons (AVLE.of_eq he) (ArgsLE.refl _)) rfl rfl rfl rfl rfl ?_))
    all_goals try (simp only [List.length_map]; omega)
    all_goals try omega
    exact xL (zq (zi rfl rfl rfl) (zf trivial))
end Go.AL
set_option linter.unusedVariables false
namespace Go.AL
open Go
def vn : List Fr := [⟨1, 2⟩, ⟨1, 3⟩, ⟨2, 3⟩, ⟨1, 1⟩, ⟨0, 1⟩, ⟨99, 100⟩]
def qZ : Nat → Dc → List Fr → List Fr × Dc
  | 0, d, l => (l, d)
  | k + 1, d, l => qZ k (d.next 6).2 (l ++ [vn.getD (d.next 6).1.toNat default])
def wR : Fr := ⟨1, 1⟩
def zbV (l : List Fr) (d : Dc) (n : Nat) : List (List Fr) × Dc :=
  let q := d.next n
  let l1 := l.set q.1.toNat wR
  if 1 < n then
    let r := q.2.next 3
    if r.1 = 0 then
      let l2 := (l1.set 0 wR).set (n - 1) wR
      let u := r.2.next ((n : Int) - 1)
      ([l2.take (1 + u.1).toNat, l2.drop (1 + u.1).toNat], u.2)
    else ([l1], r.2)
  else ([l1], q.2)
def yS (d : Dc) (n : Nat) : Th × Dc :=
  if n = 0 then (⟨0, []⟩, d) else
    let q := d.next 3
    if 0 < q.1 then
      let r := q.2.next n
      (⟨1 + r.1, []⟩, r.2)
    else
      let g := qZ n q.2 []
      let w := zbV g.1 g.2 n
      (⟨0, w.1⟩, w.2)
theorem yY : ∀ (k : Nat) (d : Dc) (l : List Fr), (∀ f ∈ l, f.wt = true) → (qZ k d l).1.length = l.length + k ∧ (∀ f ∈ (qZ k d l).1, f.wt = true) ∧ (qZ k d l).2.l = d.l
  | 0, d, l, h => ⟨rfl, h, rfl⟩
  | k + 1, d, l, h => by
    have hlt := d.next_lt 6 (by omega)
    have hm : vn.getD (d.next 6).1.toNat default ∈ vn := by
      have h6 : vn.length = 6 := rfl
      rw [List.getD_eq_getElem?_getD, List.getElem?_eq_getElem (by omega)]; exact List.getElem_mem _
    have hs : ∀ f ∈ vn, f.wt = true := by decide
    have := yY k (d.next 6).2 (l ++ [vn.getD (d.next 6).1.toNat default]) (fun f hf => by
      rcases List.mem_append.1 hf with h1 | h1
      · exact h f h1
      · rw [List.mem_singleton.1 h1]; exact hs _ hm)
    rw [qZ]
    refine ⟨by rw [this.1]; simp; omega, this.2.1, by rw [this.2.2, Dc.next_l]⟩
theorem zdn {l : List Fr} {i : Nat} (h : ∀ f ∈ l, f.wt = true) : ∀ f ∈ l.set i wR, f.wt = true := fun f hf => by
  rcases List.mem_or_eq_of_mem_set hf with h1 | h1
  · exact h f h1
  · rw [h1]; decide
end Go.AL
namespace Go.AL
open Go
theorem xR (l : List Fr) (d : Dc) (n : Nat) (h1 : 1 ≤ n) (hl : l.length = n) (hw : ∀ f ∈ l, f.wt = true) :
    (zbV l d n).1.length ≤ 2 ∧ (zbV l d n).1.length ≠ 0 ∧ zQ (zbV l d n).1 = n ∧ (∀ x ∈ (zbV l d n).1, ∀ f ∈ x, f.wt = true) ∧ (zbV l d n).2.l = d.l := by
  unfold zbV
  simp only
  have hset : ∀ (a : Nat), ∀ f ∈ l.set a wR, f.wt = true := fun a => zdn hw
  split
  · split
    · have hu := ((d.next (n : Int)).2.next 3).2.next_lt ((n : Int) - 1) (by omega)
      refine ⟨by simp, by simp, ?_, ?_, by simp only [Dc.next_l]⟩
      · simp only [zQ, List.length_take, List.length_drop, List.length_set]; omega
      · intro x hx f hf
        simp only [List.mem_cons, List.not_mem_nil, or_false] at hx
        have hall : ∀ f ∈ (((l.set (d.next (n : Int)).1.toNat wR).set 0 wR).set (n - 1) wR), f.wt = true := zdn (zdn (hset _))
        rcases hx with rfl | rfl
        · exact hall f (List.mem_of_mem_take hf)
        · exact hall f (List.mem_of_mem_drop hf)
    · refine ⟨by simp, by simp, by simp [zQ, hl], fun x hx f hf => ?_, by simp only [Dc.next_l]⟩
      rw [List.mem_singleton.1 hx] at hf; exact hset _ f hf
  · refine ⟨by simp, by simp, by simp [zQ, hl], fun x hx f hf => ?_, by simp only [Dc.next_l]⟩
    rw [List.mem_singleton.1 hx] at hf; exact hset _ f hf
theorem ze2 (d : Dc) (n : Nat) : (yS d n).2.l = d.l := by
  unfold yS
  simp only
  split
  · rfl
  · split
    · simp only [Dc.next_l]
    · have h2 := yY n (d.next 3).2 [] (by simp)
      rw [(xR _ _ n (by omega) (by simpa using h2.1) h2.2.1).2.2.2.2, h2.2.2, Dc.next_l]
theorem zcP (d : Dc) (n : Nat) (h8 : n ≤ 8) : (yS d n).1.Fit := by
  unfold yS
  simp only
  split
  · exact ⟨by simp [zQ], by simp, by simp, .inl rfl⟩
  · split
    · exact ⟨by simp [zQ], by simp, by simp, .inr rfl⟩
    · have h2 := yY n (d.next 3).2 [] (by simp)
      have h3 := xR (qZ n (d.next 3).2 []).1 (qZ n (d.next 3).2 []).2 n (by omega) (by simpa using h2.1) h2.2.1
      exact ⟨by show zQ (zbV _ _ _).1 ≤ 8; omega, by show (zbV _ _ _).1.length ≤ 8; omega, h3.2.2.2.1, .inl rfl⟩
end Go.AL
set_option linter.unusedVariables false
namespace Go.AL
open Go
def zfZ : Nat → Nat
  | 0 => 1
  | n + 1 => (n + 1) * zfZ n
theorem zdD : ∀ n, 0 < zfZ n
  | 0 => by decide
  | n + 1 => Nat.mul_pos (by omega) (zdD n)
theorem zcV : ∀ (n d : Nat), 1 ≤ d → d ≤ n → d ∣ zfZ n
  | 0, d, h1, h2 => by omega
  | n + 1, d, h1, h2 => by
    rw [zfZ]
    rcases Nat.lt_or_ge n d with h | h
    · obtain rfl : d = n + 1 := by omega
      exact Nat.dvd_mul_right _ _
    · exact Nat.dvd_trans (zcV n d h1 h) (Nat.dvd_mul_left _ _)
theorem exM : ∃ M : Int, 0 < M ∧ ∀ d : Int, 1 ≤ d → d ≤ 100 → d ∣ M := by
  refine ⟨(zfZ 100 : Nat), by have := zdD 100; omega, fun d h1 h2 => ?_⟩
  obtain ⟨e, rfl⟩ : ∃ e : Nat, d = e := ⟨d.toNat, by omega⟩
  exact Int.natCast_dvd_natCast.2 (zcV 100 e (by omega) (by omega))
def vF (M : Int) (f : Fr) : Int := f.n * (M / f.d)
def sV (M : Int) : List Fr → Int
  | [] => 0
  | f :: l => vF M f + sV M l
theorem gcd_div {a b : Int} (ha : 0 ≤ a) (hb : 1 ≤ b) : x8 (a / x8 a b) (b / x8 a b) = 1 := by
  obtain ⟨x, rfl⟩ : ∃ x : Nat, a = (x : Int) := ⟨a.toNat, by omega⟩
  obtain ⟨y, rfl⟩ : ∃ y : Nat, b = (y : Int) := ⟨b.toNat, by omega⟩
  unfold x8
  simp only [Int.toNat_natCast]
  have h0 : 0 < Nat.gcd x y := Nat.gcd_pos_of_pos_right x (by omega)
  rw [show ((x : Int) / (Nat.gcd x y : Int)).toNat = x / Nat.gcd x y by rw [← Int.natCast_ediv]; rfl, show ((y : Int) / (Nat.gcd x y : Int)).toNat = y / Nat.gcd x y by rw [← Int.natCast_ediv]; rfl]
  rw [Nat.gcd_div (Nat.gcd_dvd_left x y) (Nat.gcd_dvd_right x y), Nat.div_self h0]; rfl
section
variable {M : Int} (hM : 0 < M) (hd : ∀ d : Int, 1 ≤ d → d ≤ 100 → d ∣ M)
include hM hd
theorem zc3 {f : Fr} (hf : f.wt = true) : vF M f * f.d = f.n * M ∧ 0 ≤ vF M f ∧ vF M f ≤ M := by
  obtain ⟨h1, h2, h3, h4, _⟩ := wN hf
  obtain ⟨k, hk⟩ := hd f.d h1 h2
  have e : M / f.d = k := by rw [hk]; exact Int.mul_ediv_cancel_left _ (by omega)
  have hk0 : 0 < k := by
    rcases Int.lt_or_le 0 k with h | h
    · exact h
    · have : f.d * k ≤ f.d * 0 := Int.mul_le_mul_of_nonneg_left h (by omega)
      rw [Int.mul_zero] at this; omega
  unfold vF
  rw [e]
  refine ⟨by rw [hk, Int.mul_assoc, Int.mul_comm k], Int.mul_nonneg h3 (by omega), ?_⟩
  rw [hk]; exact Int.mul_le_mul_of_nonneg_right h4 (by omega)
structure SumOK (M : Int) (s : Fr) (v : Int) : Prop where
  eq : s.n * M = s.d * v
  low : x8 s.n s.d = 1
  pos : 1 ≤ s.d
  nn : 0 ≤ s.n
theorem zfM {s f : Fr} {v : Int} (hs : SumOK M s v) (hf : f.wt = true) : SumOK M (zdG s f) (v + vF M f) := by
  obtain ⟨e, lo, p, nn⟩ := hs
  obtain ⟨h1, h2, h3, h4, _⟩ := wN hf
  obtain ⟨hv, _, _⟩ := zc3 hM hd hf
  have a1 : 0 ≤ s.n * f.d + f.n * s.d := Int.add_nonneg (Int.mul_nonneg nn (by omega)) (Int.mul_nonneg h3 (by omega))
  have a2 : 1 ≤ s.d * f.d := by
    have := Int.mul_le_mul p h1 (by omega) (by omega)
    omega
  have hg := vc a1 a2
  have hlow := gcd_div a1 a2
  have key : (s.n * f.d + f.n * s.d) * M = (s.d * f.d) * (v + vF M f) := by
    have e1 : s.n * f.d * M = s.d * f.d * v := by
      rw [Int.mul_right_comm, e]; simp only [Int.mul_assoc, Int.mul_comm f.d]
    have e2 : f.n * s.d * M = s.d * f.d * vF M f := by
      rw [Int.mul_right_comm, ← hv]; simp only [Int.mul_assoc, Int.mul_comm, Int.mul_left_comm]
    rw [Int.add_mul, e1, e2, Int.mul_add]
  unfold zdG
  generalize s.n * f.d + f.n * s.d = a at *
  generalize s.d * f.d = b at *
  generalize v + vF M f = w at *
  generalize x8 a b = g at *
  obtain ⟨g1, g2, ⟨a', rfl⟩, ⟨b', rfl⟩⟩ := hg
  have q1 : g * a' / g = a' := Int.mul_ediv_cancel_left _ (by omega)
  have q2 : g * b' / g = b' := Int.mul_ediv_cancel_left _ (by omega)
  rw [q1, q2] at hlow ⊢
  refine ⟨?_, hlow, ?_, ?_⟩
  · rw [Int.mul_assoc, Int.mul_assoc] at key
    exact Int.eq_of_mul_eq_mul_left (by omega) key
  · rcases Int.lt_or_le 0 b' with h | h
    · exact h
    · have : g * b' ≤ g * 0 := Int.mul_le_mul_of_nonneg_left h (by omega)
      rw [Int.mul_zero] at this; omega
  · rcases Int.lt_or_le a' 0 with h | h
    · have : g * a' < g * 0 := Int.mul_lt_mul_of_pos_left h (by omega)
      rw [Int.mul_zero] at this; omega
    · exact h
theorem zem : ∀ (l : List Fr) (s : Fr) (v : Int), SumOK M s v → (∀ f ∈ l, f.wt = true) → SumOK M (l.foldl zdG s) (v + sV M l)
  | [], s, v, hs, _ => by simpa [sV] using hs
  | f :: l, s, v, hs, hw => by
    have := zem l (zdG s f) (v + vF M f) (zfM hM hd hs (hw f (by simp))) fun x hx => hw x (List.mem_cons_of_mem _ hx)
    rw [List.foldl_cons, sV, ← Int.add_assoc]; exact this
theorem ze1 (l : List Fr) (hw : ∀ f ∈ l, f.wt = true) : SumOK M (kV l) (sV M l) := by
  have := zem hM hd l ⟨0, 1⟩ 0 ⟨by simp, by decide, by decide, by decide⟩ hw
  rwa [Int.zero_add] at this
theorem zcX (l : List Fr) (hw : ∀ f ∈ l, f.wt = true) : yp l = decide (M ≤ sV M l) := by
  obtain ⟨e, lo, p, nn⟩ := ze1 hM hd l hw
  unfold yp
  refine decide_eq_decide.2 ⟨fun h => ?_, fun h => ?_⟩
  · have : (kV l).d * M ≤ (kV l).d * sV M l := by rw [← e]; exact Int.mul_le_mul_of_nonneg_right h (by omega)
    exact Int.le_of_mul_le_mul_left this (by omega)
  · have : (kV l).d * M ≤ (kV l).n * M := by rw [e]; exact Int.mul_le_mul_of_nonneg_left h (by omega)
    exact Int.le_of_mul_le_mul_right this hM
end
end Go.AL
set_option linter.unusedVariables false
namespace Go.AL
open Go
def zc8 (l : List Fr) (k : Nat) : Prop := k ≤ l.length ∧ yp ((wE l).take k) = true ∧ ∀ m, m < k → yp ((wE l).take m) = false
theorem zfA {M : Int} (hM : 0 < M) (hd : ∀ d : Int, 1 ≤ d → d ≤ 100 → d ∣ M) : ∀ (l : List Fr), (∀ f ∈ l, f.wt = true) → 0 ≤ sV M l
  | [], _ => by simp [sV]
  | f :: l, h => by
    have h1 := (zc3 hM hd (h f (by simp))).2.1
    have h2 := zfA hM hd l fun x hx => h x (List.mem_cons_of_mem _ hx)
    rw [sV]; omega
theorem zet {M : Int} (hM : 0 < M) (hd : ∀ d : Int, 1 ≤ d → d ≤ 100 → d ∣ M) {x : Fr} : ∀ {l : List Fr}, (∀ f ∈ l, f.wt = true) → x ∈ l → vF M x ≤ sV M l
  | f :: l, h, hx => by
    have h1 := (zc3 hM hd (h f (by simp))).2.1
    have h2 := zfA hM hd l fun x hx => h x (List.mem_cons_of_mem _ hx)
    rw [sV]
    rcases List.mem_cons.1 hx with rfl | hx
    · omega
    · have := zet hM hd (fun x hx => h x (List.mem_cons_of_mem _ hx)) hx; omega
theorem zcN {l : List Fr} (hw : ∀ f ∈ l, f.wt = true) (h : wR ∈ l) : yp l = true := by
  obtain ⟨M, hM, hd⟩ := exM
  rw [zcX hM hd l hw]
  have h1 := zet hM hd hw h
  have h2 : vF M wR = M := by unfold vF wR; simp
  exact decide_eq_true (by omega)
theorem zcq (w : List (List Fr)) (h : ∀ l ∈ w, l.length ≠ 0 ∧ ∀ f ∈ l, f.wt = true) (h8 : zQ w ≤ 8) : yF w 0 = (zQ w : Int) := by
  obtain ⟨h1, h2⟩ := qu w 0 (by omega)
  have h0 := h1.2 ⟨h, by omega⟩
  rw [h2 h0]; simp
theorem zac (w : List (List Fr)) (hw : w.length ≠ 0) (h : ∀ l ∈ w, l.length ≠ 0 ∧ (∀ f ∈ l, f.wt = true) ∧ yp l = true) (h8 : zQ w ≤ 8) (h1 : 1 ≤ zQ w) : xk ⟨0, w⟩ (zQ w : Int) = true := by
  unfold xk
  simp only [ne_eq, not_true_eq_false, if_false, hw]
  rw [zcq w (fun l hl => ⟨(h l hl).1, (h l hl).2.1⟩) h8, decide_eq_true (show (0 : Int) < (zQ w : Int) by omega), decide_eq_true rfl, Bool.true_and, Bool.true_and]
  have : (w.any fun l => !(yp l)) = false := by
    rw [List.any_eq_false]
    intro l hl
    rw [(h l hl).2.2]; decide
  rw [this]; rfl
end Go.AL
set_option linter.unusedVariables false
namespace Go.AL
open Go
end Go.AL
set_option linter.unusedVariables false
namespace Go.AL
open Go
section
variable {M : Int} (hM : 0 < M) (hd : ∀ d : Int, 1 ≤ d → d ≤ 100 → d ∣ M)
include hM hd
end
end Go.AL
namespace Go.AL
open Go
def yf (g : List Fr → Nat) : List (List Fr) → Nat
  | [] => 0
  | l :: r => g l + yf g r
end Go.AL
set_option linter.unusedVariables false
namespace Go.AL
open Go Go.Proofs Go.RowKit
theorem wF (g : List Fr → Nat) : ∀ (w : List (List Fr)) (j : Nat), j < w.length → yf g (w.take (j + 1)) = yf g (w.take j) + g (w.getD j default)
  | [], j, h => by simp at h
  | x :: r, 0, h => by simp [yf]
  | x :: r, j + 1, h => by
    have := wF g r j (by simpa using h)
    rw [List.take_succ_cons, List.take_succ_cons, yf, yf, this, List.getD_cons_succ]; omega
theorem v8 (g : List Fr → Nat) (hg : ∀ l, g l ≤ l.length) : ∀ (w : List (List Fr)), yf g w ≤ zQ w
  | [] => by simp [yf, zQ]
  | x :: r => by
    have := v8 g hg r
    have := hg x
    simp only [yf, zQ]; omega
theorem zd1 (w : List (List Fr)) (h : ∀ l ∈ w, l.length ≤ 8) : zQ w ≤ 8 * w.length := by
  induction w with
  | nil => simp [zQ]
  | cons x r ih =>
    have := ih fun l hl => h l (List.mem_cons_of_mem _ hl)
    have := h x (by simp)
    simp only [zQ, List.length_cons]; omega
set_option maxHeartbeats 4000000 in
theorem zcC (t : Th) (k : Int) (ht : t.Sm) (g : List Fr → Nat) (hv : xk t k = true) (hn : 0 ≤ t.n ∧ t.n ≤ 8) (hw : ∀ l ∈ t.w, l.length ≤ 8 ∧ ∀ f ∈ l, f.wt = true) (hg : ∀ l, g l ≤ l.length) (hl : ∀ l ∈ t.w, zc8 l (g l)) : Spec Tryz.prog 63 [.t t.toT, .t (.int .i64 k)] [] (.t (.int .i64 (t.n + (yf g t.w : Nat)))) [] := by
  have hV := wB t k ht
  rw [hv] at hV
  obtain ⟨tn, w⟩ := t
  unfold Th.toT at *
  obtain ⟨ht1, ht2⟩ := ht
  simp only at *
  refine zc (env0 := [(0, _), (1, _)]) (st0 := []) Tryz.func63 rfl rfl rfl rfl ?_
  repeat' (first | refine wC ?_ | refine wK ?_ | ((with_reducible refine zo ?_); refine zg rfl rfl hV rfl rfl (ArgsLE.refl _) rfl rfl rfl rfl rfl ?_))
  refine zd (za [4, 5, 15, 16, 17] [] rfl rfl) ?_
  refine zp (fun q env st => ∃ (j : Nat), j ≤ w.length ∧ q = w.length - j ∧ env = EnvL.get [(4, .t (.int .i64 0)), (5, .t (.int .i64 (tn + (yf g (w.take j) : Nat)))), (15, .t (.sl 1 (w.map frs))), (16, .t (.int .i64 (w.length : Int))), (17, .t (.int .i64 (j : Int)))] ∧ st = StO.get [])
    ?_ (n := w.length) ⟨0, by omega, rfl, by show _ = EnvL.get [(4, _), (5, .t (.int .i64 (tn + 0))), _, _, _]; rw [Int.add_zero]; rfl, rfl⟩
  rintro q env st ⟨j, hj, rfl, rfl, rfl⟩
  have wj : IntKind.i64.wrap ((j : Int) + 1) = ((j + 1 : Nat) : Int) := by rw [zx (by omega) (by omega)]; omega
  by_cases hlt : j < w.length
  · have hm := wP hlt
    have hx := hw _ hm
    have hy := hl _ hm
    have hL := zcd _ hx.2 hx.1 _ hy.1 hy.2.1 hy.2.2
    have hT := wF g w j hlt
    have hle := v8 g hg (w.take (j + 1))
    have hle2 := zd1 (w.take (j + 1)) fun l hl => (hw l (List.mem_of_mem_take hl)).1
    have hle3 : (w.take (j + 1)).length ≤ 1000 := by rw [List.length_take]; omega
    have wn : IntKind.i64.wrap (tn + (yf g (w.take j) : Nat) + (g (w.getD (j : Int).toNat default) : Nat)) = tn + (yf g (w.take (j + 1)) : Nat) := by
      rw [show w.getD (j : Int).toNat default = w.getD j default from rfl, zx (by omega) (by omega)]; omega
    unfold frs at hL
    repeat' (first | refine wC ?_ | (exfalso; omega) | refine wK ?_ | ((with_reducible refine ze ?_); refine zb rfl rfl rfl rfl rfl rfl ?_ ?_ ?_) | ((with_reducible refine zo ?_); refine zg rfl rfl hL rfl rfl (ArgsLE.refl _) rfl rfl rfl rfl rfl ?_) | refine zh rfl (fun hc => ?_) (fun hc => ?_))
    all_goals try (simp only [List.length_map]; omega)
    all_goals try omega
    all_goals try rfl
    exact zN (n' := w.length - (j + 1)) (by omega) (za [4, 5, 15, 16, 17] [] rfl rfl) ⟨j + 1, by omega, rfl, by rw [wj, wn]; rfl, rfl⟩
  · obtain rfl : j = w.length := by omega
    rw [List.take_length]
    repeat' (first | refine wC ?_ | (exfalso; omega) | refine wK ?_ | refine zh rfl (fun hc => ?_) (fun hc => ?_))
    exact zq (zi rfl rfl rfl) (by simp)
def yJ : Th := ⟨0, [[⟨1, 2⟩, ⟨1, 2⟩, ⟨1, 2⟩]]⟩
set_option maxHeartbeats 2000000 in
theorem zaZ : Spec Tryz.prog 61 [] [] (.t yJ.toT) [] := by
  show Spec Tryz.prog _ [] [] (.t (.agg [.int .i64 0, .sl 1 [.sl 2 [.agg [.int .i64 1, .int .i64 2], .agg [.int .i64 1, .int .i64 2], .agg [.int .i64 1, .int .i64 2]]]])) []
  refine zc (env0 := []) (st0 := []) Tryz.func61 rfl rfl rfl rfl ?_
  repeat' (first | refine wC ?_ | refine zV rfl rfl rfl rfl rfl rfl ?_ | refine wK ?_ | fail)
  refine zq ?_ (zf trivial); refine zF rfl rfl rfl inferInstance rfl inferInstance rfl ?_; exact TLe.av wT
theorem jG : yJ.Sm := ⟨by decide, by decide⟩
theorem ke : yJ.Fit := ⟨by decide, by decide, by decide, .inl rfl⟩
theorem jw : zc8 [⟨1, 2⟩, ⟨1, 2⟩, ⟨1, 2⟩] 2 := ⟨by decide, by decide, by decide⟩
set_option maxHeartbeats 4000000 in
theorem zcz : Spec Tryz.prog 25 [] [] (.t (.bool true)) [] := by
  have hH := zaZ
  have hV := wB yJ 3 jG
  have hE1 := qe yJ [0, 2] ke (by decide)
  have hE2 := qe yJ [1] ke (by decide)
  have hL := zcC yJ 3 jG (fun l => if l.length = 3 then 2 else 0) (by decide) (by decide) (by decide) (fun l => by show (if _ then _ else _) ≤ _; split <;> omega) (fun l hl => by
    obtain rfl : l = _ := List.mem_singleton.1 hl
    exact jw)
  rw [show xk yJ 3 = true by decide] at hV
  rw [show qk yJ [0, 2] = true by decide] at hE1
  rw [show qk yJ [1] = false by decide] at hE2
  rw [show (yJ.n + (yf (fun l => if l.length = 3 then 2 else 0) yJ.w : Nat) : Int) = 2 by decide] at hL
  simp only [List.map_cons, List.map_nil] at hE1 hE2
  generalize yJ.toT = H at *
  refine zc (env0 := []) (st0 := []) Tryz.func25 rfl rfl rfl rfl ?_
  repeat' (first | refine wC ?_ | refine zV rfl rfl rfl rfl rfl rfl ?_ | refine wK ?_ | ((with_reducible refine zo ?_); first | refine zg rfl rfl hH rfl rfl (ArgsLE.refl _) rfl rfl rfl rfl rfl ?_ | refine zg rfl rfl hV rfl rfl (ArgsLE.refl _) rfl rfl rfl rfl rfl ?_ | refine zg rfl rfl hE1 rfl rfl (ArgsLE.refl _) rfl rfl rfl rfl rfl ?_ | refine zg rfl rfl hE2 rfl rfl (ArgsLE.refl _) rfl rfl rfl rfl rfl ?_ | refine zg rfl rfl hL rfl rfl (ArgsLE.refl _) rfl rfl rfl rfl rfl ?_))
  exact zq (zi rfl rfl rfl) (by simp)
end Go.AL
set_option linter.unusedVariables false
namespace Go.AL
open Go Go.Proofs Go.RowKit
set_option maxHeartbeats 8000000 in
theorem q6 (d0 : Dc) (n : Nat) (hn : n ≤ 100) (hd0 : d0.l.length ≤ 1000) : Spec Tryz.prog 26 [.ref (.par 0) 0 0 0, .t (.int .i64 (n : Int))] [(.par 0, d0.row)] (.t (yS d0 n).1.toT) [(.par 0, (yS d0 n).2.row)] := by
  obtain ⟨R, hR⟩ : ∃ R, R = yS d0 n := ⟨_, rfl⟩
  rw [← hR]
  unfold yS at hR
  by_cases h0 : n = 0
  · rw [if_pos h0] at hR
    subst hR
    simp only
    unfold Dc.row Th.toT
    refine zc (env0 := [(0, _), (1, _)]) (st0 := [(_, some _)]) Tryz.func26 rfl rfl rfl rfl ?_
    repeat' (first | refine wC ?_ | (exfalso; omega) | refine wK ?_ | refine zh rfl (fun hc => ?_) (fun hc => ?_))
    refine zq ?_ (zf ⟨rfl, trivial⟩); refine zF rfl rfl rfl inferInstance rfl inferInstance rfl ?_; exact TLe.av wT
  rw [if_neg h0] at hR
  have hN := yL d0 3 (by omega) hd0
  have hlt := d0.next_lt 3 (by omega)
  have hl1 : (d0.next 3).2.l.length ≤ 1000 := by rw [Dc.next_l]; exact hd0
  generalize d0.next 3 = q at hR hN hlt hl1
  obtain ⟨v, d1⟩ := q
  simp only at hR hN hlt hl1
  have hN2 := yL d1 (n : Int) (by omega) hl1
  by_cases hv : 0 < v
  · rw [if_pos hv] at hR
    have hlt2 := d1.next_lt (n : Int) (by omega)
    generalize d1.next (n : Int) = q2 at hR hN2 hlt2
    obtain ⟨v2, d2⟩ := q2
    simp only at hR hN2 hlt2
    have w2 : IntKind.i64.wrap (1 + v2) = 1 + v2 := zx (by omega) (by omega)
    subst hR
    simp only
    rw [← w2]
    unfold Dc.row at hN hN2 ⊢
    unfold Th.toT
    refine zc (env0 := [(0, _), (1, _)]) (st0 := [(_, some _)]) Tryz.func26 rfl rfl rfl rfl ?_
    repeat' (first | refine wC ?_ | (exfalso; omega) | refine wK ?_ | ((with_reducible refine zo ?_); first | refine zr (r' := .t (.int .i64 v)) [] rfl rfl hN (ArgsLE.refl _) rfl ⟨rfl, trivial⟩ rfl rfl rfl rfl rfl rfl rfl rfl rfl rfl ?_ | refine zr (r' := .t (.int .i64 v2)) [] rfl rfl hN2 (ArgsLE.refl _) rfl ⟨rfl, trivial⟩ rfl rfl rfl rfl rfl rfl rfl rfl rfl rfl ?_) | refine zh rfl (fun hc => ?_) (fun hc => ?_))
    refine zq ?_ (zf ⟨rfl, trivial⟩); refine zF rfl rfl rfl inferInstance rfl inferInstance rfl ?_; exact TLe.av wT
  rw [if_neg hv] at hR
  clear hN2
  have hG := yY n d1 [] (by simp)
  obtain ⟨Q, hQ⟩ : ∃ Q, qZ n d1 [] = Q := ⟨_, rfl⟩
  rw [hQ] at hG hR
  obtain ⟨L, D⟩ := Q
  simp only at hG hR
  obtain ⟨hL, hLw, hD⟩ := hG
  unfold Dc.row at hN ⊢
  refine zc (env0 := [(0, _), (1, _)]) (st0 := [(_, some _)]) Tryz.func26 rfl rfl rfl rfl ?_
  repeat' (first | refine wC ?_ | (exfalso; omega) | refine wK ?_ | ((with_reducible refine zo ?_); refine zr (r' := .t (.int .i64 v)) [] rfl rfl hN (ArgsLE.refl _) rfl ⟨rfl, trivial⟩ rfl rfl rfl rfl rfl rfl rfl rfl rfl rfl ?_) | refine zh rfl (fun hc => ?_) (fun hc => ?_))
  refine zd (yw 5 (.loc 900) 90 2 rfl rfl rfl) ?_
  refine zd (za [0, 1, 4, 5, 18, 19] [.par 0, .loc 4, .loc 900] rfl rfl) ?_
  refine zp (fun p env st => ∃ (j : Nat) (d : Dc) (l : List Fr), j ≤ n ∧ p = n - j ∧ l.length = j ∧ d.l.length ≤ 1000 ∧ qZ (n - j) d l = (L, D) ∧
      env = EnvL.get [(0, .ref (.par 0) 0 0 0), (1, .t (.int .i64 (n : Int))), (4, .ref (.loc 4) 0 0 0), (5, .row (.loc 900)), (18, .t (.int .i64 (n : Int))), (19, .t (.int .i64 (j : Int)))] ∧
      st = StO.get [(.par 0, some (.var 74 [.t (.sl 1 (d.l.map (T.int .i64))), .t (.int .i64 d.k)])), (.loc 4, some (.var 44 [.t (.int .i64 0), .t .nilsl])), (.loc 900, some (.slt 90 2 (l.map Fr.toT)))])
    ?_ (n := n) ⟨0, d1, [], by omega, rfl, rfl, hl1, hQ, rfl, rfl⟩
  rintro p env st ⟨j, d, l, hj, rfl, hlj, hdl, hr, rfl, rfl⟩
  have wj : IntKind.i64.wrap ((j : Int) + 1) = ((j + 1 : Nat) : Int) := by rw [zx (by omega) (by omega)]; omega
  by_cases hlt : j < n
  · rw [show n - j = (n - (j + 1)) + 1 by omega, qZ] at hr
    have hN6 := yL d 6 (by omega) hdl
    have hl6 := d.next_lt 6 (by omega)
    have hd6 : (d.next 6).2.l.length ≤ 1000 := by rw [Dc.next_l]; exact hdl
    generalize d.next 6 = q at hr hN6 hl6 hd6
    obtain ⟨x, d2⟩ := q
    simp only at hr hN6 hl6 hd6
    have hs6 : vn.length = 6 := rfl
    unfold Dc.row at hN6
    repeat' (first | refine wC ?_ | (exfalso; omega) | refine zV (es := vn.map Fr.toT) rfl rfl rfl rfl rfl rfl ?_ | refine wK ?_ | ((with_reducible refine ze ?_); refine zb rfl rfl rfl rfl rfl rfl ?_ ?_ ?_) | ((with_reducible refine yo ?_); refine zL rfl rfl rfl rfl rfl rfl rfl rfl rfl rfl ?_ ?_ ?_) | ((with_reducible refine zo ?_); refine zr (r' := .t (.int .i64 x)) [] rfl rfl hN6 (ArgsLE.refl _) rfl ⟨rfl, trivial⟩ rfl rfl rfl rfl rfl rfl rfl rfl rfl rfl ?_) | refine zh rfl (fun hc => ?_) (fun hc => ?_))
    all_goals try (simp only [List.length_map, List.length_singleton]; omega)
    all_goals try omega
    refine zN (n' := n - (j + 1)) (by omega) ((za [0, 1, 4, 5, 18, 19] [.par 0, .loc 4, .loc 34] rfl rfl).trans (zv (.loc 34) (.loc 900) rfl rfl rfl rfl)) ⟨j + 1, d2, l ++ [vn.getD x.toNat default], by omega, rfl, by simp; omega, hd6, hr, by rw [wj]; rfl, by rw [List.map_append]; rfl⟩
  · obtain rfl : j = n := by omega
    rw [Nat.sub_self, qZ] at hr
    simp only [Prod.mk.injEq] at hr
    obtain ⟨rfl, rfl⟩ := hr
    unfold zbV at hR
    simp only at hR
    have hA := yL d (j : Int) (by omega) hdl
    have hAl := d.next_lt (j : Int) (by omega)
    have hAd : (d.next (j : Int)).2.l.length ≤ 1000 := by rw [Dc.next_l]; exact hdl
    generalize d.next (j : Int) = qa at hR hA hAl hAd
    obtain ⟨a, da⟩ := qa
    simp only at hR hA hAl hAd
    unfold Dc.row at hA
    have s1 : (l.map Fr.toT).set a.toNat (T.agg [.int .i64 1, .int .i64 1]) = (l.set a.toNat wR).map Fr.toT := by rw [List.map_set]; rfl
    by_cases h1 : 1 < j
    · rw [if_pos h1] at hR
      have hB := yL da 3 (by omega) hAd
      have hBl := da.next_lt 3 (by omega)
      have hBd : (da.next 3).2.l.length ≤ 1000 := by rw [Dc.next_l]; exact hAd
      generalize da.next 3 = qb at hR hB hBl hBd
      obtain ⟨b, db⟩ := qb
      simp only at hR hB hBl hBd
      unfold Dc.row at hB
      by_cases hb0 : b = 0
      · rw [if_pos hb0] at hR
        have hC := yL db ((j : Int) - 1) (by omega) hBd
        have hCl := db.next_lt ((j : Int) - 1) (by omega)
        have wj1 : IntKind.i64.wrap ((j : Int) - 1) = (j : Int) - 1 := zx (by omega) (by omega)
        generalize db.next ((j : Int) - 1) = qc at hR hC hCl
        obtain ⟨c, dc⟩ := qc
        simp only at hR hC hCl
        have wc : IntKind.i64.wrap (1 + c) = 1 + c := zx (by omega) (by omega)
        unfold Dc.row at hC
        rw [← wj1] at hC
        subst hR
        simp only
        obtain ⟨X, hX⟩ : ∃ X, X = (((l.map Fr.toT).set a.toNat (T.agg [.int .i64 1, .int .i64 1])).set (Int.toNat 0) (T.agg [.int .i64 1, .int .i64 1])).set (IntKind.i64.wrap ((j : Int) - 1)).toNat (T.agg [.int .i64 1, .int .i64 1]) := ⟨_, rfl⟩
        have hX2 : X = (((l.set a.toNat wR).set 0 wR).set (j - 1) wR).map Fr.toT := by
          rw [hX, wj1, show ((j : Int) - 1).toNat = j - 1 by omega, List.map_set, List.map_set, List.map_set]; rfl
        have hT : (Th.mk 0 [(((l.set a.toNat wR).set 0 wR).set (j - 1) wR).take (1 + c).toNat, (((l.set a.toNat wR).set 0 wR).set (j - 1) wR).drop (1 + c).toNat]).toT = .agg [.int .i64 0, .sl 1 [.sl 2 (X.take (IntKind.i64.wrap (1 + c)).toNat), .sl 2 ((X.take (X.length : Int).toNat).drop (IntKind.i64.wrap (1 + c)).toNat)]] := by
          rw [wc, Int.toNat_natCast, List.take_length, hX2, ← List.map_take, ← List.map_drop]; rfl
        rw [hX] at hT
        rw [hT]
        repeat' (first | refine zd (x := Code.seq (Code.region 14 _ _) _) (zy (id := .loc 900) rfl rfl rfl) ?_ | refine zd (x := Code.seq (Code.region 15 _ _) _) (zy (id := .loc 900) rfl rfl rfl) ?_ | refine wC ?_ | (exfalso; omega) | refine jq rfl rfl rfl rfl rfl rfl rfl ?_ ?_ ?_ ?_ | refine zV rfl rfl rfl rfl rfl rfl ?_ | refine wK ?_ | ((with_reducible refine xK ?_); refine yP rfl rfl rfl rfl rfl rfl ?_ ?_ ?_) | ((with_reducible refine ze ?_); refine zE rfl rfl rfl rfl rfl rfl rfl ?_ ?_ ?_) | ((with_reducible refine v7 ?_); refine wq rfl rfl ⟨_, rfl⟩ rfl rfl rfl rfl ?_ ?_ ?_ ?_) | ((with_reducible refine zo ?_); first | refine zr (r' := .t (.int .i64 a)) [] rfl rfl hA (ArgsLE.refl _) rfl ⟨rfl, trivial⟩ rfl rfl rfl rfl rfl rfl rfl rfl rfl rfl ?_ | refine zr (r' := .t (.int .i64 b)) [] rfl rfl hB (ArgsLE.refl _) rfl ⟨rfl, trivial⟩ rfl rfl rfl rfl rfl rfl rfl rfl rfl rfl ?_ | refine zr (r' := .t (.int .i64 c)) [] rfl rfl hC (ArgsLE.refl _) rfl ⟨rfl, trivial⟩ rfl rfl rfl rfl rfl rfl rfl rfl rfl rfl ?_) | refine zh rfl (fun hc => ?_) (fun hc => ?_) | refine zG rfl (fun hc => ?_) (fun hc => ?_))
        all_goals try (simp only [List.length_map, List.length_set]; omega)
        all_goals try omega
        all_goals try rfl
        refine zq ?_ (zf ⟨rfl, trivial⟩); refine zF rfl rfl rfl inferInstance rfl inferInstance rfl ?_; exact TLe.av wT
      · rw [if_neg hb0] at hR
        subst hR
        simp only
        have hT : (Th.mk 0 [l.set a.toNat wR]).toT = .agg [.int .i64 0, .sl 1 [.sl 2 ((l.map Fr.toT).set a.toNat (.agg [.int .i64 1, .int .i64 1]))]] := by rw [s1]; rfl
        rw [hT]
        repeat' (first | refine zd (x := Code.seq (Code.region 15 _ _) _) (zy (id := .loc 900) rfl rfl rfl) ?_ | refine wC ?_ | (exfalso; omega) | refine zV rfl rfl rfl rfl rfl rfl ?_ | refine wK ?_ | ((with_reducible refine xK ?_); refine yP rfl rfl rfl rfl rfl rfl ?_ ?_ ?_) | ((with_reducible refine ze ?_); refine zE rfl rfl rfl rfl rfl rfl rfl ?_ ?_ ?_) | ((with_reducible refine zo ?_); first | refine zr (r' := .t (.int .i64 a)) [] rfl rfl hA (ArgsLE.refl _) rfl ⟨rfl, trivial⟩ rfl rfl rfl rfl rfl rfl rfl rfl rfl rfl ?_ | refine zr (r' := .t (.int .i64 b)) [] rfl rfl hB (ArgsLE.refl _) rfl ⟨rfl, trivial⟩ rfl rfl rfl rfl rfl rfl rfl rfl rfl rfl ?_) | refine zh rfl (fun hc => ?_) (fun hc => ?_) | refine zG rfl (fun hc => ?_) (fun hc => ?_))
        all_goals try (simp only [List.length_map, List.length_set]; omega)
        all_goals try omega
        all_goals try rfl
        refine zq ?_ (zf ⟨rfl, trivial⟩); refine zF rfl rfl rfl inferInstance rfl inferInstance rfl ?_; exact TLe.av wT
    · rw [if_neg h1] at hR
      subst hR
      simp only
      have hT : (Th.mk 0 [l.set a.toNat wR]).toT = .agg [.int .i64 0, .sl 1 [.sl 2 ((l.map Fr.toT).set a.toNat (.agg [.int .i64 1, .int .i64 1]))]] := by rw [s1]; rfl
      rw [hT]
      repeat' (first | refine zd (x := Code.seq (Code.region 15 _ _) _) (zy (id := .loc 900) rfl rfl rfl) ?_ | refine wC ?_ | (exfalso; omega) | refine zV rfl rfl rfl rfl rfl rfl ?_ | refine wK ?_ | ((with_reducible refine xK ?_); refine yP rfl rfl rfl rfl rfl rfl ?_ ?_ ?_) | ((with_reducible refine ze ?_); refine zE rfl rfl rfl rfl rfl rfl rfl ?_ ?_ ?_) | ((with_reducible refine zo ?_); refine zr (r' := .t (.int .i64 a)) [] rfl rfl hA (ArgsLE.refl _) rfl ⟨rfl, trivial⟩ rfl rfl rfl rfl rfl rfl rfl rfl rfl rfl ?_) | refine zh rfl (fun hc => ?_) (fun hc => ?_) | refine zG rfl (fun hc => ?_) (fun hc => ?_))
      all_goals try (simp only [List.length_map, List.length_set]; omega)
      all_goals try omega
      all_goals try rfl
      refine zq ?_ (zf ⟨rfl, trivial⟩); refine zF rfl rfl rfl inferInstance rfl inferInstance rfl ?_; exact TLe.av wT
end Go.AL
set_option linter.unusedVariables false
namespace Go.AL
open Go
end Go.AL
namespace Go.AL
open Go
theorem zda {l : List Fr} {i : Nat} (h : l[i]? = some wR) : wR ∈ l := List.mem_of_getElem? h
theorem zcm (l : List Fr) (d : Dc) (n : Nat) (h1 : 1 ≤ n) (hl : l.length = n) (hw : ∀ f ∈ l, f.wt = true) : ∀ x ∈ (zbV l d n).1, x.length ≠ 0 ∧ yp x = true := by
  have hf := (xR l d n h1 hl hw).2.2.2.1
  intro x hx
  have hxw := hf x hx
  have hn := d.next_lt (n : Int) (by omega)
  suffices h : wR ∈ x from ⟨fun h0 => (by have h' := h; rw [List.length_eq_zero_iff.1 h0] at h'; cases h'), zcN hxw h⟩
  unfold zbV at hx
  simp only at hx
  have single : wR ∈ l.set (d.next (n : Int)).1.toNat wR := zda (i := (d.next (n : Int)).1.toNat) (by rw [List.getElem?_set, if_pos rfl, if_pos (by omega)])
  split at hx
  · split at hx
    · have hu := ((d.next (n : Int)).2.next 3).2.next_lt ((n : Int) - 1) (by omega)
      generalize (((d.next (n : Int)).2.next 3).2.next ((n : Int) - 1)).1 = u at hx hu
      simp only [List.mem_cons, List.not_mem_nil, or_false] at hx
      rcases hx with rfl | rfl
      · refine zda (i := 0) ?_
        rw [List.getElem?_take, if_pos (by omega), List.getElem?_set, if_neg (by omega), List.getElem?_set, if_pos rfl, if_pos (by simp; omega)]
      · refine zda (i := n - 1 - (1 + u).toNat) ?_
        rw [List.getElem?_drop, show (1 + u).toNat + (n - 1 - (1 + u).toNat) = n - 1 by omega, List.getElem?_set, if_pos rfl, if_pos (by simp; omega)]
    · rw [List.mem_singleton.1 hx]; exact single
  · rw [List.mem_singleton.1 hx]; exact single
theorem zaN (d : Dc) (n : Nat) (h1 : 1 ≤ n) (h8 : n ≤ 8) : xk (yS d n).1 (n : Int) = true ∧ 0 ≤ (yS d n).1.n ∧ (yS d n).1.n ≤ n ∧ (∀ l ∈ (yS d n).1.w, yp l = true) ∧ ((yS d n).1.n ≠ 0 ∧ (yS d n).1.w = [] ∨ (yS d n).1.n = 0 ∧ (yS d n).1.w.length ≠ 0 ∧ zQ (yS d n).1.w = n) := by
  unfold yS
  simp only
  rw [if_neg (by omega)]
  split
  · have hr := (d.next 3).2.next_lt (n : Int) (by omega)
    refine ⟨?_, by show 0 ≤ 1 + _; omega, by show 1 + _ ≤ _; omega, by simp, .inl ⟨by show 1 + _ ≠ 0; omega, rfl⟩⟩
    unfold xk
    simp only
    rw [if_pos (by omega), decide_eq_true (by omega)]; rfl
  · have h2 := yY n (d.next 3).2 [] (by simp)
    have hl : (qZ n (d.next 3).2 []).1.length = n := by simpa using h2.1
    have h3 := xR _ (qZ n (d.next 3).2 []).2 n h1 hl h2.2.1
    have h4 := zcm _ (qZ n (d.next 3).2 []).2 n h1 hl h2.2.1
    refine ⟨?_, Int.le_refl 0, by show (0 : Int) ≤ _; omega, fun l hl => (h4 l hl).2, .inr ⟨rfl, h3.2.1, h3.2.2.1⟩⟩
    have := zac _ h3.2.1 (fun l hl => ⟨(h4 l hl).1, h3.2.2.2.1 l hl, (h4 l hl).2⟩) (by omega) (by omega)
    rwa [h3.2.2.1] at this
end Go.AL
namespace Go.AL
open Go
def allL (n : Nat) : List Int := (List.range n).map fun k : Nat => (k : Int)
end Go.AL
set_option linter.unusedVariables false
namespace Go.AL
open Go
def yy (f : Fr) : ByteArray := if f.d = 1 then ofL (Lib.itoa f.n) else ofL (Lib.itoa f.n) ++ ⟨#[47]⟩ ++ ofL (Lib.itoa f.d)
def zl (l : List Fr) : Nd := .mk 4 false 0 eS [] (l.map fun f => .mk 3 false 0 (yy f) [] [])
def y5 (t : Th) : Nd :=
  if t.n ≠ 0 ∨ t.w.length = 0 then .mk 3 false 0 (ofL (yh 1 t.n.toNat)) [] []
  else match t.w with
    | [l] => zl l
    | w => .mk 4 false 0 eS [] (w.map zl)
structure Th.Nice (t : Th) : Prop where
  six : ∀ l ∈ t.w, l.length ≠ 0 ∧ l.length ≤ 8 ∧ ∀ f ∈ l, f ∈ vn
  way : 1 ≤ t.n ∧ t.n ≤ 8 ∧ t.w = [] ∨ t.n = 0 ∧ ((∃ l, t.w = [l]) ∨ ∃ l m, t.w = [l, m])
theorem qn {l : List Fr} {i : Nat} (h : ∀ f ∈ l, f ∈ vn) : ∀ f ∈ l.set i wR, f ∈ vn := fun f hf => by
  rcases List.mem_or_eq_of_mem_set hf with h1 | h1
  · exact h f h1
  · rw [h1]; decide
theorem zbq : ∀ (k : Nat) (d : Dc) (l : List Fr), (∀ f ∈ l, f ∈ vn) → ∀ f ∈ (qZ k d l).1, f ∈ vn
  | 0, d, l, h => h
  | k + 1, d, l, h => by
    rw [qZ]
    refine zbq k _ _ fun f hf => ?_
    rcases List.mem_append.1 hf with h1 | h1
    · exact h f h1
    · rw [List.mem_singleton.1 h1]
      have hlt := d.next_lt 6 (by omega)
      have h6 : vn.length = 6 := rfl
      rw [List.getD_eq_getElem?_getD, List.getElem?_eq_getElem (by omega)]; exact List.getElem_mem _
theorem zbO (d : Dc) (n : Nat) (h1 : 1 ≤ n) (h8 : n ≤ 8) : (yS d n).1.Nice := by
  unfold yS
  simp only
  rw [if_neg (by omega)]
  split
  · have hr := (d.next 3).2.next_lt (n : Int) (by omega)
    exact ⟨by simp, .inl ⟨by show 1 ≤ 1 + _; omega, by show 1 + _ ≤ _; omega, rfl⟩⟩
  · have h2 := yY n (d.next 3).2 [] (by simp)
    have hs := zbq n (d.next 3).2 [] (by simp)
    have hl : (qZ n (d.next 3).2 []).1.length = n := by simpa using h2.1
    generalize (qZ n (d.next 3).2 []).1 = l at *
    generalize (qZ n (d.next 3).2 []).2 = e at *
    unfold zbV
    simp only
    split
    · split
      · have hu := ((e.next (n : Int)).2.next 3).2.next_lt ((n : Int) - 1) (by omega)
        have hall := qn (i := n - 1) (qn (i := 0) (qn (i := (e.next (n : Int)).1.toNat) hs))
        refine ⟨fun x hx => ?_, .inr ⟨rfl, .inr ⟨_, _, rfl⟩⟩⟩
        simp only [List.mem_cons, List.not_mem_nil, or_false] at hx
        rcases hx with rfl | rfl
        · exact ⟨by simp only [List.length_take, List.length_set]; omega, by simp only [List.length_take, List.length_set]; omega, fun f hf => hall f (List.mem_of_mem_take hf)⟩
        · exact ⟨by simp only [List.length_drop, List.length_set]; omega, by simp only [List.length_drop, List.length_set]; omega, fun f hf => hall f (List.mem_of_mem_drop hf)⟩
      · refine ⟨fun x hx => ?_, .inr ⟨rfl, .inl ⟨_, rfl⟩⟩⟩
        rw [List.mem_singleton.1 hx]
        exact ⟨by simp only [List.length_set]; omega, by simp only [List.length_set]; omega, qn hs⟩
    · refine ⟨fun x hx => ?_, .inr ⟨rfl, .inl ⟨_, rfl⟩⟩⟩
      rw [List.mem_singleton.1 hx]
      exact ⟨by simp only [List.length_set]; omega, by simp only [List.length_set]; omega, qn hs⟩
def unW (s : ByteArray) : Fr := (vn.find? fun f => decide (yy f = s)).getD default
theorem zdT : ∀ f ∈ vn, unW (yy f) = f := by decide +kernel
def zge (x : Nd) : Th :=
  if x.kind = 3 then ⟨((x.text.data.toList.getD 0 0).toNat : Int) - 48, []⟩
  else if x.items.all (fun y => decide (y.kind = 3)) then ⟨0, [x.items.map fun y => unW y.text]⟩
  else ⟨0, x.items.map fun y => y.items.map fun z => unW z.text⟩
theorem kU {l : List Fr} (h : ∀ f ∈ l, f ∈ vn) : (zl l).items.map (fun z => unW z.text) = l := by
  show (l.map fun f => Nd.mk 3 false 0 (yy f) [] []).map (fun z => unW z.text) = l
  rw [List.map_map]
  refine (List.map_congr_left (g := id) fun f hf => ?_).trans (List.map_id _)
  exact zdT f (h f hf)
theorem ze4 : ∀ k : Fin 8, (((ofL (yh 1 (k.val + 1))).data.toList.getD 0 0).toNat : Int) - 48 = (k.val : Int) + 1 := by decide +kernel
theorem zdr {t : Th} (h : t.Nice) : zge (y5 t) = t := by
  obtain ⟨n, w⟩ := t
  obtain ⟨h6, hw⟩ := h
  simp only at h6 hw
  rcases hw with ⟨h1, h2, rfl⟩ | ⟨rfl, ⟨l, rfl⟩ | ⟨l, m, rfl⟩⟩
  · have e := ze4 ⟨n.toNat - 1, by omega⟩
    simp only at e
    rw [show n.toNat - 1 + 1 = n.toNat by omega] at e
    show Th.mk _ _ = _
    rw [show y5 ⟨n, []⟩ = .mk 3 false 0 (ofL (yh 1 n.toNat)) [] [] from if_pos (.inl (by show n ≠ 0; omega))]
    show Th.mk (((ofL (yh 1 n.toNat)).data.toList.getD 0 0).toNat - 48 : Int) [] = _
    rw [e, show ((n.toNat - 1 : Nat) : Int) + 1 = n by omega]
  · have hl := h6 l (List.mem_singleton.2 rfl)
    rw [show y5 ⟨0, [l]⟩ = zl l from if_neg (by simp)]
    unfold zge
    rw [if_neg (by show ¬ (4 : Int) = 3; decide), if_pos (by
      show (l.map fun f => Nd.mk 3 false 0 (yy f) [] []).all _ = true
      rw [List.all_map]; exact List.all_eq_true.2 fun f hf => rfl), kU hl.2.2]
  · have hl := h6 l (by simp)
    have hm := h6 m (by simp)
    rw [show y5 ⟨0, [l, m]⟩ = .mk 4 false 0 eS [] [zl l, zl m] from if_neg (by simp)]
    unfold zge
    rw [if_neg (by show ¬ (4 : Int) = 3; decide), if_neg (by show ¬ (([zl l, zl m].all fun y => decide (y.kind = 3)) = true); simp [zl, Nd.kind])]
    show Th.mk 0 [(zl l).items.map _, (zl m).items.map _] = _
    rw [kU hl.2.2, kU hm.2.2]
end Go.AL
set_option linter.unusedVariables false
namespace Go.AL
open Go Go.Proofs Go.RowKit
theorem zdf : ∀ f ∈ vn, (ofL (Lib.itoa f.n)).size ≤ 3 ∧ (ofL (Lib.itoa f.d)).size ≤ 3 := by decide +kernel
theorem zc0 : ∀ f ∈ vn, 0 ≤ f.n ∧ f.n ≤ 100 ∧ 1 ≤ f.d ∧ f.d ≤ 100 := by decide
set_option maxHeartbeats 4000000 in
theorem zbP {oP : Obj} (hP : z6 .u64 Lib.pow10Tab oP) (f : Fr) (h : f ∈ vn) : Spec Tryz.prog 125 [.t f.toT] [(.par 102, .dat (.fix 2 oP))] (.t (.str (yy f))) [(.par 102, .dat (.fix 2 oP))] := by
  obtain ⟨w1, w2, w3, w4⟩ := zc0 f h
  obtain ⟨s1, s2⟩ := zdf f h
  have hI := ju hP f.n (by omega) (by omega)
  have hJ := ju hP f.d (by omega) (by omega)
  unfold yy Fr.toT
  clear h
  generalize ofL (Lib.itoa f.n) = A at *
  generalize ofL (Lib.itoa f.d) = B at *
  generalize f.n = n at *
  generalize f.d = d at *
  have z1 : (⟨#[47]⟩ : ByteArray).size = 1 := rfl
  have z2 : (A ++ (⟨#[47]⟩ : ByteArray)).size ≤ 4 := by rw [ByteArray.size_append]; omega
  by_cases hd : d = 1
  · rw [if_pos hd]
    refine zc (env0 := [(0, _)]) (st0 := [(_, some _)]) Tryz.func125 rfl rfl rfl rfl ?_
    repeat' (first | refine wC ?_ | (exfalso; omega) | refine wK ?_ | ((with_reducible refine zo ?_); refine zr (r' := (.t (.str A))) [] rfl rfl hI (ArgsLE.refl _) rfl ⟨rfl, trivial⟩ rfl rfl rfl rfl rfl rfl rfl rfl rfl rfl ?_) | refine zh rfl (fun hc => ?_) (fun hc => ?_))
    all_goals exact zq (zi rfl rfl rfl) (zf ⟨rfl, trivial⟩)
  · rw [if_neg hd]
    refine zc (env0 := [(0, _)]) (st0 := [(_, some _)]) Tryz.func125 rfl rfl rfl rfl ?_
    repeat' (first | refine wC ?_ | (exfalso; omega) | refine wK ?_ | ((with_reducible refine xu ?_); refine zdA rfl rfl rfl rfl rfl rfl ?_ ?_) | ((with_reducible refine zo ?_); first | refine zr (r' := (.t (.str A))) [] rfl rfl hI (ArgsLE.refl _) rfl ⟨rfl, trivial⟩ rfl rfl rfl rfl rfl rfl rfl rfl rfl rfl ?_ | refine zr (r' := (.t (.str B))) [] rfl rfl hJ (ArgsLE.refl _) rfl ⟨rfl, trivial⟩ rfl rfl rfl rfl rfl rfl rfl rfl rfl rfl ?_) | refine zh rfl (fun hc => ?_) (fun hc => ?_))
    all_goals try omega
    all_goals exact zq (zi rfl rfl rfl) (zf ⟨rfl, trivial⟩)
end Go.AL
set_option linter.unusedVariables false
namespace Go.AL
open Go Go.Proofs Go.RowKit Go.Shelf
theorem qL {P : Program} (t : TypeId) {d : TypeDesc} [tu : TyU P t d] (w : World) : (isAgg t).run P w = .ok (z7 d) w := xg tu
theorem vW {P : Program} (t : TypeId) {s b : Nat} {z : Value} [ti : TyI P t s b z] (w : World) : (Go.sizeOf t).run P w = .ok s w := zO ti
theorem qK {P : Program} (t : TypeId) {s b : Nat} {z : Value} [ti : TyI P t s b z] (w : World) : (zeroValue t).run P w = .ok z w := zR ti
def zeg : Ren := ⟨fun | 217 => 311 | 219 => 305 | 224 => 313 | 225 => 312 | 266 => 316 | 267 => 314 | 314 => 317 | x => x, fun | 3 => 3 | 4 => 4 | 5 => 5 | 9 => 9 | 46 => 148 | 51 => 168 | 146 => 236 | x => x, fun | 1 => 5 | x => x⟩
set_option maxRecDepth 100000 in
theorem zde : Lays.n219 Tryz.prog zeg where
  mixed := by kernel_rfl
  f217 := by kernel_rfl
  f219 := by kernel_rfl
  f224 := by kernel_rfl
  f225 := by kernel_rfl
  f266 := by kernel_rfl
  f267 := by kernel_rfl
  f314 := by kernel_rfl
  t3 := Tryz.underlying3
  a3 := fun w => qL (P := Tryz.prog) (d := (TypeDesc.int IntKind.i64)) 3 w
  z3 := fun w => vW (P := Tryz.prog) 3 w
  v3 := fun w => qK (P := Tryz.prog) 3 w
  t4 := Tryz.underlying4
  a4 := fun w => qL (P := Tryz.prog) (d := TypeDesc.bool) 4 w
  z4 := fun w => vW (P := Tryz.prog) 4 w
  v4 := fun w => qK (P := Tryz.prog) 4 w
  t5 := Tryz.underlying5
  a5 := fun w => qL (P := Tryz.prog) (d := (TypeDesc.int IntKind.u8)) 5 w
  z5 := fun w => vW (P := Tryz.prog) 5 w
  v5 := fun w => qK (P := Tryz.prog) 5 w
  t9 := Tryz.underlying9
  a9 := fun w => qL (P := Tryz.prog) (d := TypeDesc.string) 9 w
  z9 := fun w => vW (P := Tryz.prog) 9 w
  v9 := fun w => qK (P := Tryz.prog) 9 w
  t46 := Tryz.underlying148
  a46 := fun w => qL (P := Tryz.prog) (d := (TypeDesc.int IntKind.u64)) 148 w
  z46 := fun w => vW (P := Tryz.prog) 148 w
  v46 := fun w => qK (P := Tryz.prog) 148 w
  t51 := Tryz.underlying168
  a51 := fun w => qL (P := Tryz.prog) (d := (TypeDesc.int IntKind.u32)) 168 w
  z51 := fun w => vW (P := Tryz.prog) 168 w
  v51 := fun w => qK (P := Tryz.prog) 168 w
  t146 := Tryz.underlying236
  a146 := fun w => qL (P := Tryz.prog) (d := (TypeDesc.tuple #[168, 168])) 236 w
  z146 := fun w => vW (P := Tryz.prog) 236 w
  v146 := fun w => qK (P := Tryz.prog) 236 w
  g1 := by kernel_rfl
end Go.AL
