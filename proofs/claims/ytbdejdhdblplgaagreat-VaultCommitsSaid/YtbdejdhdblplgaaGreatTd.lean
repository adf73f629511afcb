/- What functions of the program and of the document answer, and the plain laws behind it; each under the conditions that its own theorem names. -/
import Derived.Test.YtbdejdhdblplgaaGreatTc
import Derived.Test.YtbdejdhdblplgaaGreatTb
import Derived.Test.YtbdejdhdblplgaaGreatAl3
set_option linter.unusedVariables false
namespace Go.AL
open Go Go.RowKit
theorem zib (x : Nat) (hx : x < 256) : (IntKind.u8.wrap (x : Int)).toNat = x := by
  simp only [IntKind.wrap, IntKind.bits, IntKind.signed, Bool.false_and, Bool.false_eq_true, if_false]; omega
theorem qF (x : Nat) (hx : x < 256) : (yW (x : Int)).data.toList = [0, 0, 0, UInt8.ofNat x] := by
  unfold yW vL
  rw [strOfNums_data]
  have e1 : (x : Int) / 2 ^ 24 = ((0 : Nat) : Int) := by omega
  have e2 : (x : Int) / 2 ^ 16 = ((0 : Nat) : Int) := by omega
  have e3 : (x : Int) / 2 ^ 8 = ((0 : Nat) : Int) := by omega
  rw [e1, e2, e3]
  simp only [List.map_cons, List.map_nil, T.num, zib x hx, zib 0 (by decide)]
  rfl
theorem zj6 (n : Nat) (hn : n < 256) : (sdN (n : Int)).data.toList = UInt8.ofNat n :: List.replicate 31 0 := by
  unfold sdN vL
  rw [strOfNums_data]
  rfl
def sdP (N G I : UInt8) : List UInt8 :=
  [2, 0, 0, 0] ++ ([3, 0, 0, 0] ++ ([32, N, 0, 0] ++ ([0, 0, 0, 0] ++ ([0, 0, 0, 0] ++ ([0, 0, 0, 0] ++ ([0, 0, 0, 0] ++ ([0, 0, 0, 0] ++ ([0, 0, 0, 0] ++ ([0, 0, 0, 0] ++ ([0, 0, 0, 0] ++ ([4, 0, 0, 0] ++ ([G, 0, 0, 0] ++ ([4, 0, 0, 0] ++ ([I, 128, 0, 0] ++ ([0, 0, 0, 0] ++ (List.replicate 56 0 ++ xu 8 456))))))))))))))))
theorem zkk (n g i : Nat) (hn : n < 256) (hg : g < 256) (hi : i < 256) : zN (zaG [sdN (n : Int), yW (g : Int), yW (i : Int)]).data.toList = sdP (UInt8.ofNat n) (UInt8.ofNat g) (UInt8.ofNat i) := by
  have e : zaG [sdN (n : Int), yW (g : Int), yW (i : Int)] = ((((⟨#[2]⟩ : ByteArray) ++ yW ((3 : Nat) : Int)) ++ (yW ((sdN (n : Int)).size : Int) ++ sdN (n : Int))) ++ (yW ((yW (g : Int)).size : Int) ++ yW (g : Int))) ++ (yW ((yW (i : Int)).size : Int) ++ yW (i : Int)) := rfl
  rw [e, zbe, y9, y9]
  simp only [qh]
  rw [qF 3 (by decide), qF 32 (by decide), qF 4 (by decide), qF g hg, qF i hi, zj6 n hn]
  rfl
theorem zkM (n g i : Nat) (hn : n < 256) (hg : g < 256) (hi : i < 256) : wdL (sdP (UInt8.ofNat n) (UInt8.ofNat g) (UInt8.ofNat i)) 0 = 33554432 := by
  have h : wdL (sdP (UInt8.ofNat n) (UInt8.ofNat g) (UInt8.ofNat i)) 0 = _ := yK _ _ _ _ _
  rw [h]
  rfl
theorem zk4 (n g i : Nat) (hn : n < 256) (hg : g < 256) (hi : i < 256) : wdL (sdP (UInt8.ofNat n) (UInt8.ofNat g) (UInt8.ofNat i)) 1 = 50331648 := by
  have h : wdL (sdP (UInt8.ofNat n) (UInt8.ofNat g) (UInt8.ofNat i)) 1 = _ := (zf _ _ _ _ _ 0).trans (yK _ _ _ _ _)
  rw [h]
  rfl
theorem zkS (n g i : Nat) (hn : n < 256) (hg : g < 256) (hi : i < 256) : wdL (sdP (UInt8.ofNat n) (UInt8.ofNat g) (UInt8.ofNat i)) 2 = 536870912 + n * 65536 := by
  have h : wdL (sdP (UInt8.ofNat n) (UInt8.ofNat g) (UInt8.ofNat i)) 2 = _ := (zf _ _ _ _ _ 1).trans ((zf _ _ _ _ _ 0).trans (yK _ _ _ _ _))
  rw [h]
  show wJ 32 (UInt8.ofNat n).toNat 0 0 = _
  rw [UInt8.toNat_ofNat']; unfold wJ; omega
theorem zlg (n g i : Nat) (hn : n < 256) (hg : g < 256) (hi : i < 256) : wdL (sdP (UInt8.ofNat n) (UInt8.ofNat g) (UInt8.ofNat i)) 3 = 0 := by
  have h : wdL (sdP (UInt8.ofNat n) (UInt8.ofNat g) (UInt8.ofNat i)) 3 = _ := (zf _ _ _ _ _ 2).trans ((zf _ _ _ _ _ 1).trans ((zf _ _ _ _ _ 0).trans (yK _ _ _ _ _)))
  rw [h]
  rfl
theorem zkF (n g i : Nat) (hn : n < 256) (hg : g < 256) (hi : i < 256) : wdL (sdP (UInt8.ofNat n) (UInt8.ofNat g) (UInt8.ofNat i)) 4 = 0 := by
  have h : wdL (sdP (UInt8.ofNat n) (UInt8.ofNat g) (UInt8.ofNat i)) 4 = _ := (zf _ _ _ _ _ 3).trans ((zf _ _ _ _ _ 2).trans ((zf _ _ _ _ _ 1).trans ((zf _ _ _ _ _ 0).trans (yK _ _ _ _ _))))
  rw [h]
  rfl
theorem zlf (n g i : Nat) (hn : n < 256) (hg : g < 256) (hi : i < 256) : wdL (sdP (UInt8.ofNat n) (UInt8.ofNat g) (UInt8.ofNat i)) 5 = 0 := by
  have h : wdL (sdP (UInt8.ofNat n) (UInt8.ofNat g) (UInt8.ofNat i)) 5 = _ := (zf _ _ _ _ _ 4).trans ((zf _ _ _ _ _ 3).trans ((zf _ _ _ _ _ 2).trans ((zf _ _ _ _ _ 1).trans ((zf _ _ _ _ _ 0).trans (yK _ _ _ _ _)))))
  rw [h]
  rfl
theorem zkO (n g i : Nat) (hn : n < 256) (hg : g < 256) (hi : i < 256) : wdL (sdP (UInt8.ofNat n) (UInt8.ofNat g) (UInt8.ofNat i)) 6 = 0 := by
  have h : wdL (sdP (UInt8.ofNat n) (UInt8.ofNat g) (UInt8.ofNat i)) 6 = _ := (zf _ _ _ _ _ 5).trans ((zf _ _ _ _ _ 4).trans ((zf _ _ _ _ _ 3).trans ((zf _ _ _ _ _ 2).trans ((zf _ _ _ _ _ 1).trans ((zf _ _ _ _ _ 0).trans (yK _ _ _ _ _))))))
  rw [h]
  rfl
theorem zkK (n g i : Nat) (hn : n < 256) (hg : g < 256) (hi : i < 256) : wdL (sdP (UInt8.ofNat n) (UInt8.ofNat g) (UInt8.ofNat i)) 7 = 0 := by
  have h : wdL (sdP (UInt8.ofNat n) (UInt8.ofNat g) (UInt8.ofNat i)) 7 = _ := (zf _ _ _ _ _ 6).trans ((zf _ _ _ _ _ 5).trans ((zf _ _ _ _ _ 4).trans ((zf _ _ _ _ _ 3).trans ((zf _ _ _ _ _ 2).trans ((zf _ _ _ _ _ 1).trans ((zf _ _ _ _ _ 0).trans (yK _ _ _ _ _)))))))
  rw [h]
  rfl
theorem zlc (n g i : Nat) (hn : n < 256) (hg : g < 256) (hi : i < 256) : wdL (sdP (UInt8.ofNat n) (UInt8.ofNat g) (UInt8.ofNat i)) 8 = 0 := by
  have h : wdL (sdP (UInt8.ofNat n) (UInt8.ofNat g) (UInt8.ofNat i)) 8 = _ := (zf _ _ _ _ _ 7).trans ((zf _ _ _ _ _ 6).trans ((zf _ _ _ _ _ 5).trans ((zf _ _ _ _ _ 4).trans ((zf _ _ _ _ _ 3).trans ((zf _ _ _ _ _ 2).trans ((zf _ _ _ _ _ 1).trans ((zf _ _ _ _ _ 0).trans (yK _ _ _ _ _))))))))
  rw [h]
  rfl
theorem zkQ (n g i : Nat) (hn : n < 256) (hg : g < 256) (hi : i < 256) : wdL (sdP (UInt8.ofNat n) (UInt8.ofNat g) (UInt8.ofNat i)) 9 = 0 := by
  have h : wdL (sdP (UInt8.ofNat n) (UInt8.ofNat g) (UInt8.ofNat i)) 9 = _ := (zf _ _ _ _ _ 8).trans ((zf _ _ _ _ _ 7).trans ((zf _ _ _ _ _ 6).trans ((zf _ _ _ _ _ 5).trans ((zf _ _ _ _ _ 4).trans ((zf _ _ _ _ _ 3).trans ((zf _ _ _ _ _ 2).trans ((zf _ _ _ _ _ 1).trans ((zf _ _ _ _ _ 0).trans (yK _ _ _ _ _)))))))))
  rw [h]
  rfl
theorem zjT (n g i : Nat) (hn : n < 256) (hg : g < 256) (hi : i < 256) : wdL (sdP (UInt8.ofNat n) (UInt8.ofNat g) (UInt8.ofNat i)) 10 = 0 := by
  have h : wdL (sdP (UInt8.ofNat n) (UInt8.ofNat g) (UInt8.ofNat i)) 10 = _ := (zf _ _ _ _ _ 9).trans ((zf _ _ _ _ _ 8).trans ((zf _ _ _ _ _ 7).trans ((zf _ _ _ _ _ 6).trans ((zf _ _ _ _ _ 5).trans ((zf _ _ _ _ _ 4).trans ((zf _ _ _ _ _ 3).trans ((zf _ _ _ _ _ 2).trans ((zf _ _ _ _ _ 1).trans ((zf _ _ _ _ _ 0).trans (yK _ _ _ _ _))))))))))
  rw [h]
  rfl
theorem zku (n g i : Nat) (hn : n < 256) (hg : g < 256) (hi : i < 256) : wdL (sdP (UInt8.ofNat n) (UInt8.ofNat g) (UInt8.ofNat i)) 11 = 67108864 := by
  have h : wdL (sdP (UInt8.ofNat n) (UInt8.ofNat g) (UInt8.ofNat i)) 11 = _ := (zf _ _ _ _ _ 10).trans ((zf _ _ _ _ _ 9).trans ((zf _ _ _ _ _ 8).trans ((zf _ _ _ _ _ 7).trans ((zf _ _ _ _ _ 6).trans ((zf _ _ _ _ _ 5).trans ((zf _ _ _ _ _ 4).trans ((zf _ _ _ _ _ 3).trans ((zf _ _ _ _ _ 2).trans ((zf _ _ _ _ _ 1).trans ((zf _ _ _ _ _ 0).trans (yK _ _ _ _ _)))))))))))
  rw [h]
  rfl
theorem zkv (n g i : Nat) (hn : n < 256) (hg : g < 256) (hi : i < 256) : wdL (sdP (UInt8.ofNat n) (UInt8.ofNat g) (UInt8.ofNat i)) 12 = g * 16777216 := by
  have h : wdL (sdP (UInt8.ofNat n) (UInt8.ofNat g) (UInt8.ofNat i)) 12 = _ := (zf _ _ _ _ _ 11).trans ((zf _ _ _ _ _ 10).trans ((zf _ _ _ _ _ 9).trans ((zf _ _ _ _ _ 8).trans ((zf _ _ _ _ _ 7).trans ((zf _ _ _ _ _ 6).trans ((zf _ _ _ _ _ 5).trans ((zf _ _ _ _ _ 4).trans ((zf _ _ _ _ _ 3).trans ((zf _ _ _ _ _ 2).trans ((zf _ _ _ _ _ 1).trans ((zf _ _ _ _ _ 0).trans (yK _ _ _ _ _))))))))))))
  rw [h]
  show wJ (UInt8.ofNat g).toNat 0 0 0 = _
  rw [UInt8.toNat_ofNat']; unfold wJ; omega
theorem zjG (n g i : Nat) (hn : n < 256) (hg : g < 256) (hi : i < 256) : wdL (sdP (UInt8.ofNat n) (UInt8.ofNat g) (UInt8.ofNat i)) 13 = 67108864 := by
  have h : wdL (sdP (UInt8.ofNat n) (UInt8.ofNat g) (UInt8.ofNat i)) 13 = _ := (zf _ _ _ _ _ 12).trans ((zf _ _ _ _ _ 11).trans ((zf _ _ _ _ _ 10).trans ((zf _ _ _ _ _ 9).trans ((zf _ _ _ _ _ 8).trans ((zf _ _ _ _ _ 7).trans ((zf _ _ _ _ _ 6).trans ((zf _ _ _ _ _ 5).trans ((zf _ _ _ _ _ 4).trans ((zf _ _ _ _ _ 3).trans ((zf _ _ _ _ _ 2).trans ((zf _ _ _ _ _ 1).trans ((zf _ _ _ _ _ 0).trans (yK _ _ _ _ _)))))))))))))
  rw [h]
  rfl
theorem zkz (n g i : Nat) (hn : n < 256) (hg : g < 256) (hi : i < 256) : wdL (sdP (UInt8.ofNat n) (UInt8.ofNat g) (UInt8.ofNat i)) 14 = i * 16777216 + 8388608 := by
  have h : wdL (sdP (UInt8.ofNat n) (UInt8.ofNat g) (UInt8.ofNat i)) 14 = _ := (zf _ _ _ _ _ 13).trans ((zf _ _ _ _ _ 12).trans ((zf _ _ _ _ _ 11).trans ((zf _ _ _ _ _ 10).trans ((zf _ _ _ _ _ 9).trans ((zf _ _ _ _ _ 8).trans ((zf _ _ _ _ _ 7).trans ((zf _ _ _ _ _ 6).trans ((zf _ _ _ _ _ 5).trans ((zf _ _ _ _ _ 4).trans ((zf _ _ _ _ _ 3).trans ((zf _ _ _ _ _ 2).trans ((zf _ _ _ _ _ 1).trans ((zf _ _ _ _ _ 0).trans (yK _ _ _ _ _))))))))))))))
  rw [h]
  show wJ (UInt8.ofNat i).toNat 128 0 0 = _
  rw [UInt8.toNat_ofNat']; unfold wJ; omega
theorem zks (n g i : Nat) (hn : n < 256) (hg : g < 256) (hi : i < 256) : wdL (sdP (UInt8.ofNat n) (UInt8.ofNat g) (UInt8.ofNat i)) 15 = 0 := by
  have h : wdL (sdP (UInt8.ofNat n) (UInt8.ofNat g) (UInt8.ofNat i)) 15 = _ := (zf _ _ _ _ _ 14).trans ((zf _ _ _ _ _ 13).trans ((zf _ _ _ _ _ 12).trans ((zf _ _ _ _ _ 11).trans ((zf _ _ _ _ _ 10).trans ((zf _ _ _ _ _ 9).trans ((zf _ _ _ _ _ 8).trans ((zf _ _ _ _ _ 7).trans ((zf _ _ _ _ _ 6).trans ((zf _ _ _ _ _ 5).trans ((zf _ _ _ _ _ 4).trans ((zf _ _ _ _ _ 3).trans ((zf _ _ _ _ _ 2).trans ((zf _ _ _ _ _ 1).trans ((zf _ _ _ _ _ 0).trans (yK _ _ _ _ _)))))))))))))))
  rw [h]
  rfl
set_option maxRecDepth 4000 in
theorem zi8 (N G I : UInt8) : (sdP N G I).length = 128 := rfl
set_option maxRecDepth 4000 in
theorem zho (N G I : UInt8) : (sdP N G I).drop 64 = List.replicate 56 0 ++ xu 8 456 := rfl
set_option maxRecDepth 4000 in
theorem zkb : wdL (List.replicate 56 0 ++ xu 8 456) 15 = 456 ∧ ∀ t, t < 15 → wdL (List.replicate 56 0 ++ xu 8 456) t = 0 := by decide +kernel
theorem kn (n g i : Nat) (hn : n < 256) (hg : g < 256) (hi : i < 256) (j : Nat) (hj : j < 8) : wd (sdS (sdN (n : Int)) (g : Int) (i : Int)) j = (xr (xr hN (wdL (sdP (UInt8.ofNat n) (UInt8.ofNat g) (UInt8.ofNat i)))) (wdL (List.replicate 56 0 ++ xu 8 456))).l.getD j 0 := by
  unfold sdS
  rw [zf9 _ 2 (by rw [zkk n g i hn hg hi, zi8]) j hj, zkk n g i hn hg hi, xW, xW, wM, zho]
def ziI (M O : Nat) (k : Nat → Nat → Nat → Nat → Nat → Nat → Nat → Nat → Bool) (w2 w12 w14 : Nat) : Bool :=
  sC0 M O (fun a b c d e f g h => sC M O k a b c d e f g h 0 0 0 0 0 0 0 0 0 0 0 0 0 0 0 (Nat.mul O 456)) (Nat.mul O 33554432) (Nat.mul O 50331648) w2 0 0 0 0 0 0 0 0 (Nat.mul O 67108864) w12 (Nat.mul O 67108864) w14 0
theorem zhH {n : Nat} {N G I : Nat → Nat} (hN' : ∀ i, i < n → N i < 256) (hG : ∀ i, i < n → G i < 256) (hI : ∀ i, i < n → I i < 256) (k : Nat → Nat → Nat → Nat → Nat → Nat → Nat → Nat → Bool) :
    ziI (vM n) (vO n) k (vN (fun i => 536870912 + N i * 65536) n) (vN (fun i => G i * 16777216) n) (vN (fun i => I i * 16777216 + 8388608) n) =
    k (vN (fun i => wd (sdS (sdN (N i : Int)) (G i : Int) (I i : Int)) 0) n) (vN (fun i => wd (sdS (sdN (N i : Int)) (G i : Int) (I i : Int)) 1) n) (vN (fun i => wd (sdS (sdN (N i : Int)) (G i : Int) (I i : Int)) 2) n) (vN (fun i => wd (sdS (sdN (N i : Int)) (G i : Int) (I i : Int)) 3) n) (vN (fun i => wd (sdS (sdN (N i : Int)) (G i : Int) (I i : Int)) 4) n) (vN (fun i => wd (sdS (sdN (N i : Int)) (G i : Int) (I i : Int)) 5) n) (vN (fun i => wd (sdS (sdN (N i : Int)) (G i : Int) (I i : Int)) 6) n) (vN (fun i => wd (sdS (sdN (N i : Int)) (G i : Int) (I i : Int)) 7) n) := by
  unfold ziI sC0
  have h0 := zfN (n := n) (h := fun _ => hN) (W := fun i => wdL (sdP (UInt8.ofNat (N i)) (UInt8.ofNat (G i)) (UInt8.ofNat (I i)))) (fun _ _ => zgy) (fun _ _ _ _ => jy _ _) (fun u0 u1 u2 u3 u4 u5 u6 u7 => sC (vM n) (vO n) k u0 u1 u2 u3 u4 u5 u6 u7 0 0 0 0 0 0 0 0 0 0 0 0 0 0 0 (Nat.mul (vO n) 456))
  have e0 : vN (fun i => wdL (sdP (UInt8.ofNat (N i)) (UInt8.ofNat (G i)) (UInt8.ofNat (I i))) 0) n = Nat.mul (vO n) 33554432 := ((zb n fun i hi => zkM _ _ _ (hN' i hi) (hG i hi) (hI i hi)) : vN (fun i => wdL (sdP (UInt8.ofNat (N i)) (UInt8.ofNat (G i)) (UInt8.ofNat (I i))) 0) n = vN (fun _ => 33554432) n).trans (yz _ n).symm
  have e1 : vN (fun i => wdL (sdP (UInt8.ofNat (N i)) (UInt8.ofNat (G i)) (UInt8.ofNat (I i))) 1) n = Nat.mul (vO n) 50331648 := ((zb n fun i hi => zk4 _ _ _ (hN' i hi) (hG i hi) (hI i hi)) : vN (fun i => wdL (sdP (UInt8.ofNat (N i)) (UInt8.ofNat (G i)) (UInt8.ofNat (I i))) 1) n = vN (fun _ => 50331648) n).trans (yz _ n).symm
  have e2 : vN (fun i => wdL (sdP (UInt8.ofNat (N i)) (UInt8.ofNat (G i)) (UInt8.ofNat (I i))) 2) n = vN (fun i => 536870912 + N i * 65536) n := zb n fun i hi => zkS _ _ _ (hN' i hi) (hG i hi) (hI i hi)
  have e3 : vN (fun i => wdL (sdP (UInt8.ofNat (N i)) (UInt8.ofNat (G i)) (UInt8.ofNat (I i))) 3) n = 0 := ((zb n fun i hi => zlg _ _ _ (hN' i hi) (hG i hi) (hI i hi)) : vN (fun i => wdL (sdP (UInt8.ofNat (N i)) (UInt8.ofNat (G i)) (UInt8.ofNat (I i))) 3) n = vN (fun _ => 0) n).trans (zw n)
  have e4 : vN (fun i => wdL (sdP (UInt8.ofNat (N i)) (UInt8.ofNat (G i)) (UInt8.ofNat (I i))) 4) n = 0 := ((zb n fun i hi => zkF _ _ _ (hN' i hi) (hG i hi) (hI i hi)) : vN (fun i => wdL (sdP (UInt8.ofNat (N i)) (UInt8.ofNat (G i)) (UInt8.ofNat (I i))) 4) n = vN (fun _ => 0) n).trans (zw n)
  have e5 : vN (fun i => wdL (sdP (UInt8.ofNat (N i)) (UInt8.ofNat (G i)) (UInt8.ofNat (I i))) 5) n = 0 := ((zb n fun i hi => zlf _ _ _ (hN' i hi) (hG i hi) (hI i hi)) : vN (fun i => wdL (sdP (UInt8.ofNat (N i)) (UInt8.ofNat (G i)) (UInt8.ofNat (I i))) 5) n = vN (fun _ => 0) n).trans (zw n)
  have e6 : vN (fun i => wdL (sdP (UInt8.ofNat (N i)) (UInt8.ofNat (G i)) (UInt8.ofNat (I i))) 6) n = 0 := ((zb n fun i hi => zkO _ _ _ (hN' i hi) (hG i hi) (hI i hi)) : vN (fun i => wdL (sdP (UInt8.ofNat (N i)) (UInt8.ofNat (G i)) (UInt8.ofNat (I i))) 6) n = vN (fun _ => 0) n).trans (zw n)
  have e7 : vN (fun i => wdL (sdP (UInt8.ofNat (N i)) (UInt8.ofNat (G i)) (UInt8.ofNat (I i))) 7) n = 0 := ((zb n fun i hi => zkK _ _ _ (hN' i hi) (hG i hi) (hI i hi)) : vN (fun i => wdL (sdP (UInt8.ofNat (N i)) (UInt8.ofNat (G i)) (UInt8.ofNat (I i))) 7) n = vN (fun _ => 0) n).trans (zw n)
  have e8 : vN (fun i => wdL (sdP (UInt8.ofNat (N i)) (UInt8.ofNat (G i)) (UInt8.ofNat (I i))) 8) n = 0 := ((zb n fun i hi => zlc _ _ _ (hN' i hi) (hG i hi) (hI i hi)) : vN (fun i => wdL (sdP (UInt8.ofNat (N i)) (UInt8.ofNat (G i)) (UInt8.ofNat (I i))) 8) n = vN (fun _ => 0) n).trans (zw n)
  have e9 : vN (fun i => wdL (sdP (UInt8.ofNat (N i)) (UInt8.ofNat (G i)) (UInt8.ofNat (I i))) 9) n = 0 := ((zb n fun i hi => zkQ _ _ _ (hN' i hi) (hG i hi) (hI i hi)) : vN (fun i => wdL (sdP (UInt8.ofNat (N i)) (UInt8.ofNat (G i)) (UInt8.ofNat (I i))) 9) n = vN (fun _ => 0) n).trans (zw n)
  have e10 : vN (fun i => wdL (sdP (UInt8.ofNat (N i)) (UInt8.ofNat (G i)) (UInt8.ofNat (I i))) 10) n = 0 := ((zb n fun i hi => zjT _ _ _ (hN' i hi) (hG i hi) (hI i hi)) : vN (fun i => wdL (sdP (UInt8.ofNat (N i)) (UInt8.ofNat (G i)) (UInt8.ofNat (I i))) 10) n = vN (fun _ => 0) n).trans (zw n)
  have e11 : vN (fun i => wdL (sdP (UInt8.ofNat (N i)) (UInt8.ofNat (G i)) (UInt8.ofNat (I i))) 11) n = Nat.mul (vO n) 67108864 := ((zb n fun i hi => zku _ _ _ (hN' i hi) (hG i hi) (hI i hi)) : vN (fun i => wdL (sdP (UInt8.ofNat (N i)) (UInt8.ofNat (G i)) (UInt8.ofNat (I i))) 11) n = vN (fun _ => 67108864) n).trans (yz _ n).symm
  have e12 : vN (fun i => wdL (sdP (UInt8.ofNat (N i)) (UInt8.ofNat (G i)) (UInt8.ofNat (I i))) 12) n = vN (fun i => G i * 16777216) n := zb n fun i hi => zkv _ _ _ (hN' i hi) (hG i hi) (hI i hi)
  have e13 : vN (fun i => wdL (sdP (UInt8.ofNat (N i)) (UInt8.ofNat (G i)) (UInt8.ofNat (I i))) 13) n = Nat.mul (vO n) 67108864 := ((zb n fun i hi => zjG _ _ _ (hN' i hi) (hG i hi) (hI i hi)) : vN (fun i => wdL (sdP (UInt8.ofNat (N i)) (UInt8.ofNat (G i)) (UInt8.ofNat (I i))) 13) n = vN (fun _ => 67108864) n).trans (yz _ n).symm
  have e14 : vN (fun i => wdL (sdP (UInt8.ofNat (N i)) (UInt8.ofNat (G i)) (UInt8.ofNat (I i))) 14) n = vN (fun i => I i * 16777216 + 8388608) n := zb n fun i hi => zkz _ _ _ (hN' i hi) (hG i hi) (hI i hi)
  have e15 : vN (fun i => wdL (sdP (UInt8.ofNat (N i)) (UInt8.ofNat (G i)) (UInt8.ofNat (I i))) 15) n = 0 := ((zb n fun i hi => zks _ _ _ (hN' i hi) (hG i hi) (hI i hi)) : vN (fun i => wdL (sdP (UInt8.ofNat (N i)) (UInt8.ofNat (G i)) (UInt8.ofNat (I i))) 15) n = vN (fun _ => 0) n).trans (zw n)
  rw [e0, e1, e2, e3, e4, e5, e6, e7, e8, e9, e10, e11, e12, e13, e14, e15] at h0
  simp only [← yz] at h0
  rw [h0]
  have h1 := zfN (n := n) (h := fun i => xr hN (wdL (sdP (UInt8.ofNat (N i)) (UInt8.ofNat (G i)) (UInt8.ofNat (I i))))) (W := fun _ => wdL (List.replicate 56 0 ++ xu 8 456)) (fun _ _ => zbm _ _) (fun _ _ _ _ => jy _ _) k
  obtain ⟨w15, wz⟩ := zkb
  have w0 : wdL (List.replicate 56 0 ++ xu 8 456) 0 = 0 := wz 0 (by decide)
  have w1 : wdL (List.replicate 56 0 ++ xu 8 456) 1 = 0 := wz 1 (by decide)
  have w2 : wdL (List.replicate 56 0 ++ xu 8 456) 2 = 0 := wz 2 (by decide)
  have w3 : wdL (List.replicate 56 0 ++ xu 8 456) 3 = 0 := wz 3 (by decide)
  have w4 : wdL (List.replicate 56 0 ++ xu 8 456) 4 = 0 := wz 4 (by decide)
  have w5 : wdL (List.replicate 56 0 ++ xu 8 456) 5 = 0 := wz 5 (by decide)
  have w6 : wdL (List.replicate 56 0 ++ xu 8 456) 6 = 0 := wz 6 (by decide)
  have w7 : wdL (List.replicate 56 0 ++ xu 8 456) 7 = 0 := wz 7 (by decide)
  have w8 : wdL (List.replicate 56 0 ++ xu 8 456) 8 = 0 := wz 8 (by decide)
  have w9 : wdL (List.replicate 56 0 ++ xu 8 456) 9 = 0 := wz 9 (by decide)
  have w10 : wdL (List.replicate 56 0 ++ xu 8 456) 10 = 0 := wz 10 (by decide)
  have w11 : wdL (List.replicate 56 0 ++ xu 8 456) 11 = 0 := wz 11 (by decide)
  have w12 : wdL (List.replicate 56 0 ++ xu 8 456) 12 = 0 := wz 12 (by decide)
  have w13 : wdL (List.replicate 56 0 ++ xu 8 456) 13 = 0 := wz 13 (by decide)
  have w14 : wdL (List.replicate 56 0 ++ xu 8 456) 14 = 0 := wz 14 (by decide)
  rw [w0, w1, w2, w3, w4, w5, w6, w7, w8, w9, w10, w11, w12, w13, w14, w15, zw] at h1
  rw [← yz] at h1
  rw [h1]
  have p0 : (vN (fun i => wd (sdS (sdN (N i : Int)) (G i : Int) (I i : Int)) 0) n) = vN (fun i => (xr (xr hN (wdL (sdP (UInt8.ofNat (N i)) (UInt8.ofNat (G i)) (UInt8.ofNat (I i))))) (wdL (List.replicate 56 0 ++ xu 8 456))).a) n := zb n fun i hi => (kn _ _ _ (hN' i hi) (hG i hi) (hI i hi) 0 (by decide)).trans (zkJ _)
  have p1 : (vN (fun i => wd (sdS (sdN (N i : Int)) (G i : Int) (I i : Int)) 1) n) = vN (fun i => (xr (xr hN (wdL (sdP (UInt8.ofNat (N i)) (UInt8.ofNat (G i)) (UInt8.ofNat (I i))))) (wdL (List.replicate 56 0 ++ xu 8 456))).b) n := zb n fun i hi => (kn _ _ _ (hN' i hi) (hG i hi) (hI i hi) 1 (by decide)).trans (zkT _)
  have p2 : (vN (fun i => wd (sdS (sdN (N i : Int)) (G i : Int) (I i : Int)) 2) n) = vN (fun i => (xr (xr hN (wdL (sdP (UInt8.ofNat (N i)) (UInt8.ofNat (G i)) (UInt8.ofNat (I i))))) (wdL (List.replicate 56 0 ++ xu 8 456))).c) n := zb n fun i hi => (kn _ _ _ (hN' i hi) (hG i hi) (hI i hi) 2 (by decide)).trans (zld _)
  have p3 : (vN (fun i => wd (sdS (sdN (N i : Int)) (G i : Int) (I i : Int)) 3) n) = vN (fun i => (xr (xr hN (wdL (sdP (UInt8.ofNat (N i)) (UInt8.ofNat (G i)) (UInt8.ofNat (I i))))) (wdL (List.replicate 56 0 ++ xu 8 456))).d) n := zb n fun i hi => (kn _ _ _ (hN' i hi) (hG i hi) (hI i hi) 3 (by decide)).trans (zkL _)
  have p4 : (vN (fun i => wd (sdS (sdN (N i : Int)) (G i : Int) (I i : Int)) 4) n) = vN (fun i => (xr (xr hN (wdL (sdP (UInt8.ofNat (N i)) (UInt8.ofNat (G i)) (UInt8.ofNat (I i))))) (wdL (List.replicate 56 0 ++ xu 8 456))).e) n := zb n fun i hi => (kn _ _ _ (hN' i hi) (hG i hi) (hI i hi) 4 (by decide)).trans (zli _)
  have p5 : (vN (fun i => wd (sdS (sdN (N i : Int)) (G i : Int) (I i : Int)) 5) n) = vN (fun i => (xr (xr hN (wdL (sdP (UInt8.ofNat (N i)) (UInt8.ofNat (G i)) (UInt8.ofNat (I i))))) (wdL (List.replicate 56 0 ++ xu 8 456))).f) n := zb n fun i hi => (kn _ _ _ (hN' i hi) (hG i hi) (hI i hi) 5 (by decide)).trans (zll _)
  have p6 : (vN (fun i => wd (sdS (sdN (N i : Int)) (G i : Int) (I i : Int)) 6) n) = vN (fun i => (xr (xr hN (wdL (sdP (UInt8.ofNat (N i)) (UInt8.ofNat (G i)) (UInt8.ofNat (I i))))) (wdL (List.replicate 56 0 ++ xu 8 456))).g) n := zb n fun i hi => (kn _ _ _ (hN' i hi) (hG i hi) (hI i hi) 6 (by decide)).trans (zlk _)
  have p7 : (vN (fun i => wd (sdS (sdN (N i : Int)) (G i : Int) (I i : Int)) 7) n) = vN (fun i => (xr (xr hN (wdL (sdP (UInt8.ofNat (N i)) (UInt8.ofNat (G i)) (UInt8.ofNat (I i))))) (wdL (List.replicate 56 0 ++ xu 8 456))).h) n := zb n fun i hi => (kn _ _ _ (hN' i hi) (hG i hi) (hI i hi) 7 (by decide)).trans (zlj _)
  rw [p0, p1, p2, p3, p4, p5, p6, p7]
def rho (q : Nat) : Nat := [0, 4, 2, 6, 1, 5, 3, 7].getD q 0
def zhS (q : Nat) : Nat := [0, 2, 1, 3].getD q 0
theorem zjM : ∀ q, q < 4 → rho q = 2 * zhS q ∧ rho (4 + q) = 2 * zhS q + 1 := by decide
theorem zjj : ∀ q, q < 2 → zhS q = 2 * id q ∧ zhS (2 + q) = 2 * id q + 1 := by decide
theorem zkN : ∀ q, q < 1 → id q = 2 * (fun _ => 0) q ∧ id (1 + q) = 2 * (fun _ => 0) q + 1 := by decide
theorem zjJ : ∀ q, q < 8 → rho q < 256 := by decide
theorem lev {S : Nat → ByteArray} {K k m : Nat} (hK : 0 < K) {r r' : Nat → Nat} (h : ∀ q, q < m → r q = 2 * r' q ∧ r (m + q) = 2 * r' q + 1) (i : Nat) (hi : i < K * m) :
    qE (ktL (S (i % K)) k (r (i / K))) (ktL (S ((K * m + i) % K)) k (r ((K * m + i) / K))) = ktL (S (i % K)) (k + 1) (r' (i / K)) := by
  have hq : i / K < m := Nat.div_lt_of_lt_mul hi
  obtain ⟨h1, h2⟩ := h (i / K) hq
  rw [Nat.mul_add_mod, Nat.mul_add_div hK, h1, h2, ktL]
def zla (K : Nat) (k : Nat → Bool) (w2 w12 w14 : Nat) : Bool :=
  ziI (mM K) (mO K) (fun s0 s1 s2 s3 s4 s5 s6 s7 => fSd (mM (K * 8)) (mO (K * 8)) (fun t0 t1 t2 t3 t4 t5 t6 t7 => zk7 (mM (K * 8)) (mO (K * 8)) (fun p0 p1 p2 p3 => fLf (mM (K * 8)) (mO (K * 8)) (fun x0 x1 x2 x3 =>
    fUp (K * 4) (fun y0 y1 y2 y3 => fUp (K * 2) (fun z0 z1 z2 z3 => fUp (K * 1) (fun v0 v1 v2 v3 => fRt (mM K) (mO K) (fun r0 _ _ _ _ _ _ _ => k r0) v0 v1 v2 v3) z0 z1 z2 z3) y0 y1 y2 y3) x0 x1 x2 x3) p0 p1 p2 p3) t0 t1 t2 t3 t4 t5 t6 t7)
    (Nat.mul s0 (cQ (2 ^ (64 * K)) [1, 1, 1, 1, 1, 1, 1, 1])) (Nat.mul s1 (cQ (2 ^ (64 * K)) [1, 1, 1, 1, 1, 1, 1, 1])) (Nat.mul s2 (cQ (2 ^ (64 * K)) [1, 1, 1, 1, 1, 1, 1, 1])) (Nat.mul s3 (cQ (2 ^ (64 * K)) [1, 1, 1, 1, 1, 1, 1, 1])) (Nat.mul s4 (cQ (2 ^ (64 * K)) [1, 1, 1, 1, 1, 1, 1, 1])) (Nat.mul s5 (cQ (2 ^ (64 * K)) [1, 1, 1, 1, 1, 1, 1, 1])) (Nat.mul s6 (cQ (2 ^ (64 * K)) [1, 1, 1, 1, 1, 1, 1, 1])) (Nat.mul s7 (cQ (2 ^ (64 * K)) [1, 1, 1, 1, 1, 1, 1, 1])) (Nat.mul (mO K) (cQ (2 ^ (64 * K)) [8388608, 75497472, 41943040, 109051904, 25165824, 92274688, 58720256, 125829120]))) w2 w12 w14
theorem zlb : ∀ q, q < 8 → [1, 1, 1, 1, 1, 1, 1, 1].getD q 0 = 1 := by decide
theorem zk2 : ∀ q, q < 8 → [8388608, 75497472, 41943040, 109051904, 25165824, 92274688, 58720256, 125829120].getD q 0 = rho q * 16777216 + 8388608 := by decide
theorem zi6 {K : Nat} (hK : 0 < K) {N G I : Nat → Nat} (hN' : ∀ i, i < K → N i < 256) (hG : ∀ i, i < K → G i < 256) (hI : ∀ i, i < K → I i < 256) (k : Nat → Bool) :
    zla K k (vN (fun i => 536870912 + N i * 65536) K) (vN (fun i => G i * 16777216) K) (vN (fun i => I i * 16777216 + 8388608) K) =
    k (vN (fun i => wd (ktP (sdS (sdN (N i : Int)) (G i : Int) (I i : Int))) 0) K) := by
  unfold zla
  simp only [zjP, zi1]
  rw [zhH hN' hG hI]
  generalize hS : (fun i => sdS (sdN (N i : Int)) (G i : Int) (I i : Int)) = S
  have hS' : ∀ i, sdS (sdN (N i : Int)) (G i : Int) (I i : Int) = S i := fun i => by rw [← hS]
  simp only [hS']
  have zS : ∀ i, (S i).size = 32 := fun i => by rw [← hS]; exact vA _ _ _
  have hq : ∀ i, i < K * 8 → i / K < 8 := fun i hi => Nat.div_lt_of_lt_mul hi
  have rp : ∀ j, Nat.mul (vN (fun i => wd (S i) j) K) (cQ (2 ^ (64 * K)) [1, 1, 1, 1, 1, 1, 1, 1]) = vN (fun i => wd (S (i % K)) j) (K * 8) := fun j =>
    (ziz (fun i => wd (S i) j) K hK [1, 1, 1, 1, 1, 1, 1, 1]).symm.trans (zb (K * 8) fun i hi => by rw [zlb _ (hq i hi), Nat.one_mul])
  have ru : Nat.mul (vO K) (cQ (2 ^ (64 * K)) [8388608, 75497472, 41943040, 109051904, 25165824, 92274688, 58720256, 125829120]) = vN (fun i => rho (i / K) * 16777216 + 8388608) (K * 8) :=
    (ziz (fun _ => 1) K hK [8388608, 75497472, 41943040, 109051904, 25165824, 92274688, 58720256, 125829120]).symm.trans (zb (K * 8) fun i hi => by rw [zk2 _ (hq i hi), Nat.mul_one])
  rw [rp, rp, rp, rp, rp, rp, rp, rp, ru]
  rw [zka (g := fun i => S (i % K)) (U := fun i => rho (i / K)) (fun i hi => zjJ _ (hq i hi)) (fun i hi => zS _)]
  rw [zjq (fun i hi => qG _ _), zkw (g := fun i => vJ (xU (S (i % K)) ((rho (i / K) : Nat) : Int))) (fun i hi => yC _)]
  have l0 : ∀ i, zhl (vJ (xU (S (i % K)) ((rho (i / K) : Nat) : Int))) = ktL (S (i % K)) 0 (rho (i / K)) := fun i => by rw [ktL]
  simp only [l0]
  rw [show K * 8 = K * 4 + K * 4 by omega, zfU (g := fun i => ktL (S (i % K)) 0 (rho (i / K))) (fun i hi => zJ _ _ _)]
  have c1 : ∀ j, vN (fun i => wd (qE (ktL (S (i % K)) 0 (rho (i / K))) (ktL (S ((K * 4 + i) % K)) 0 (rho ((K * 4 + i) / K)))) j) (K * 4) = vN (fun i => wd (ktL (S (i % K)) 1 (zhS (i / K))) j) (K * 4) := fun j => zb _ fun i hi => by rw [lev hK zjM i hi]
  rw [c1, c1, c1, c1, show K * 4 = K * 2 + K * 2 by omega, zfU (g := fun i => ktL (S (i % K)) 1 (zhS (i / K))) (fun i hi => zJ _ _ _)]
  have c2 : ∀ j, vN (fun i => wd (qE (ktL (S (i % K)) 1 (zhS (i / K))) (ktL (S ((K * 2 + i) % K)) 1 (zhS ((K * 2 + i) / K)))) j) (K * 2) = vN (fun i => wd (ktL (S (i % K)) 2 (id (i / K))) j) (K * 2) := fun j => zb _ fun i hi => by rw [lev hK zjj i hi]
  rw [c2, c2, c2, c2, show K * 2 = K * 1 + K * 1 by omega, zfU (g := fun i => ktL (S (i % K)) 2 (id (i / K))) (fun i hi => zJ _ _ _)]
  have c3 : ∀ j, vN (fun i => wd (qE (ktL (S (i % K)) 2 (id (i / K))) (ktL (S ((K * 1 + i) % K)) 2 (id ((K * 1 + i) / K)))) j) (K * 1) = vN (fun i => wd (ktL (S i) 3 0) j) K := fun j => by
    rw [Nat.mul_one]
    exact zb _ fun i hi => by
      have := lev (S := S) (k := 2) (m := 1) hK zkN i (by omega)
      rw [Nat.mul_one] at this
      rw [this, Nat.mod_eq_of_lt hi]
  rw [c3, c3, c3, c3, zko (fun i hi => zJ _ _ _)]
  rfl
def neV : Nat → Nat → Nat → Bool
  | 0, _, _ => true
  | n + 1, X, Y => (!(Nat.beq (Nat.mod X 18446744073709551616) (Nat.mod Y 18446744073709551616))) && neV n (Nat.shiftRight X 64) (Nat.shiftRight Y 64)
theorem zhp (f : Nat → Nat) (n : Nat) : vN f (n + 1) = 2 ^ (64 * 1) * vN (fun i => f (1 + i)) n + f 0 := by
  rw [Nat.add_comm n 1, vt]
  simp [vN, Nat.add_comm]
theorem zh3 : ∀ (n : Nat) (f g : Nat → Nat), (∀ i, f i < 2 ^ 64) → (∀ i, g i < 2 ^ 64) → neV n (vN f n) (vN g n) = true → ∀ i, i < n → f i ≠ g i
  | 0, _, _, _, _, _ => fun i hi => by omega
  | n + 1, f, g, hf, hg, h => by
    have md : ∀ f : Nat → Nat, (∀ i, f i < 2 ^ 64) → Nat.mod (vN f (n + 1)) 18446744073709551616 = f 0 ∧ Nat.shiftRight (vN f (n + 1)) 64 = vN (fun i => f (1 + i)) n := fun f hf => by
      have h0 := hf 0
      rw [zhp]
      refine ⟨?_, ?_⟩
      · show (2 ^ 64 * _ + f 0) % 2 ^ 64 = f 0
        rw [Nat.mul_add_mod, Nat.mod_eq_of_lt h0]
      · show (2 ^ 64 * _ + f 0) >>> 64 = _
        rw [Nat.shiftRight_eq_div_pow, Nat.mul_add_div (by decide), Nat.div_eq_of_lt h0, Nat.add_zero]
    rw [neV, (md f hf).1, (md f hf).2, (md g hg).1, (md g hg).2, Bool.and_eq_true, Bool.not_eq_true'] at h
    intro i hi
    rcases i with _ | i
    · intro e; rw [e] at h; exact absurd h.1 (by simp)
    · have := zh3 n _ _ (fun i => hf (1 + i)) (fun i => hg (1 + i)) h.2 i (by omega)
      rw [Nat.add_comm 1 i] at this
      exact this
def jS (S j r : Nat) : Nat := Nat.mod (Nat.shiftRight r (64 * (S * j))) (2 ^ (64 * S))
theorem zhN {f : Nat → Nat} (h : ∀ i, f i < 2 ^ 64) (m S j : Nat) (hj : j < m) : jS S j (vN f (m * S)) = vN (fun i => f (S * j + i)) S := by
  have h1 : S * (j + 1) ≤ S * m := Nat.mul_le_mul_left S hj
  have e : m * S = S * j + (S + (m * S - (S * j + S))) := by
    rw [Nat.mul_add, Nat.mul_one] at h1
    rw [Nat.mul_comm m S] at *
    omega
  unfold jS
  rw [e]
  have a := zf8 (f := f) (a := S * j) (b := S + (m * S - (S * j + S))) (fun i _ => h i)
  have b := zfO (f := fun i => f (S * j + i)) (a := S) (b := m * S - (S * j + S)) (fun i _ => h _)
  show (vN f (S * j + (S + (m * S - (S * j + S)))) >>> (64 * (S * j))) % 2 ^ (64 * S) = _
  rw [a, b]
def kw (n g i : Nat) : Nat := wd (ktP (sdS (sdN (n : Int)) (g : Int) (i : Int))) 0
theorem ziu (n g i : Nat) : kw n g i < 2 ^ 64 := Nat.lt_of_lt_of_le (yx _ _) (by decide)
theorem zkG {n g i n' g' i' : Nat} (h : kw n g i ≠ kw n' g' i') : ktP (sdS (sdN (n : Int)) (g : Int) (i : Int)) ≠ ktP (sdS (sdN (n' : Int)) (g' : Int) (i' : Int)) := fun e => h (congrArg (wd · 0) e)
def zik (S b m : Nat) (G I : Nat → Nat) (k : Nat → Bool) : Bool :=
  zla (m * S) k (vN (fun l => 536870912 + (b + l % S) * 65536) (m * S)) (vN (fun l => G (l / S) * 16777216) (m * S)) (vN (fun l => I (l / S) * 16777216 + 8388608) (m * S))
theorem zgX {S b m : Nat} {G I : Nat → Nat} (hS : 0 < S) (hm : 0 < m) (hb : b + S ≤ 256) (hG : ∀ q, G q < 256) (hI : ∀ q, I q < 256) (k : Nat → Bool) :
    zik S b m G I k = k (vN (fun l => kw (b + l % S) (G (l / S)) (I (l / S))) (m * S)) := by
  unfold zik
  rw [zi6 (K := m * S) (Nat.mul_pos hm hS) (N := fun l => b + l % S) (G := fun l => G (l / S)) (I := fun l => I (l / S)) (fun i _ => by have := Nat.mod_lt i hS; omega) (fun i _ => hG _) (fun i _ => hI _)]
  rfl
theorem kM {S b m : Nat} {G I : Nat → Nat} (hS : 0 < S) (j : Nat) (hj : j < m) : jS S j (vN (fun l => kw (b + l % S) (G (l / S)) (I (l / S))) (m * S)) = vN (fun s => kw (b + s) (G j) (I j)) S := by
  rw [zhN (fun i => ziu _ _ _) m S j hj]
  refine zb S fun s hs => ?_
  rw [Nat.mul_add_mod, Nat.mod_eq_of_lt hs, Nat.mul_add_div hS, Nat.div_eq_of_lt hs, Nat.add_zero]
theorem zd7 {S b : Nat} {g i g' i' : Nat} (h : neV S (vN (fun s => kw (b + s) g i) S) (vN (fun s => kw (b + s) g' i') S) = true) {s : Nat} (hs : s < S) : kw (b + s) g i ≠ kw (b + s) g' i' :=
  zh3 S _ _ (fun _ => ziu _ _ _) (fun _ => ziu _ _ _) h s hs
def gC (q : Nat) : Nat := [0, 0, 1, 1].getD q 0
def iC (q : Nat) : Nat := [0, 1, 0, 1].getD q 0
theorem zk1 (q : Nat) : gC q < 256 := by
  rcases Nat.lt_or_ge q 4 with h | h
  · exact (by decide : ∀ q, q < 4 → gC q < 256) q h
  · unfold gC; rw [List.getD_eq_getElem?_getD, List.getElem?_eq_none (by simpa using h)]; decide
theorem zkX (q : Nat) : iC q < 256 := by
  rcases Nat.lt_or_ge q 4 with h | h
  · exact (by decide : ∀ q, q < 4 → iC q < 256) q h
  · unfold iC; rw [List.getD_eq_getElem?_getD, List.getElem?_eq_none (by simpa using h)]; decide
def zbv (S b : Nat) : Bool := zik S b 4 gC iC (fun r => (neV S (jS S 2 r) (jS S 0 r) && (neV S (jS S 2 r) (jS S 1 r) && (neV S (jS S 3 r) (jS S 0 r) && neV S (jS S 3 r) (jS S 1 r)))))
theorem yQ {S b : Nat} (hS : 0 < S) (hb : b + S ≤ 256) (h : zbv S b = true) {s : Nat} (hs : s < S) : kw (b + s) 1 0 ≠ kw (b + s) 0 0 ∧ kw (b + s) 1 0 ≠ kw (b + s) 0 1 ∧ kw (b + s) 1 1 ≠ kw (b + s) 0 0 ∧ kw (b + s) 1 1 ≠ kw (b + s) 0 1 := by
  unfold zbv at h
  rw [zgX hS (by decide) hb zk1 zkX] at h
  simp only [Bool.and_eq_true] at h
  rw [kM hS 0 (by decide), kM hS 1 (by decide), kM hS 2 (by decide), kM hS 3 (by decide)] at h
  obtain ⟨h0, h1, h2, h3⟩ := h
  exact ⟨zd7 h0 hs, zd7 h1 hs, zd7 h2 hs, zd7 h3 hs⟩
set_option maxRecDepth 10000 in
theorem zjQ : zbv 16 0 = true := by decide +kernel
set_option maxRecDepth 10000 in
theorem zkr : zbv 16 16 = true := by decide +kernel
set_option maxRecDepth 10000 in
theorem zjI : zbv 16 32 = true := by decide +kernel
set_option maxRecDepth 10000 in
theorem zjS : zbv 16 48 = true := by decide +kernel
set_option maxRecDepth 10000 in
theorem zkl : zbv 16 64 = true := by decide +kernel
set_option maxRecDepth 10000 in
theorem zke : zbv 16 80 = true := by decide +kernel
set_option maxRecDepth 10000 in
theorem zkc : zbv 16 96 = true := by decide +kernel
set_option maxRecDepth 10000 in
theorem zj7 : zbv 16 112 = true := by decide +kernel
set_option maxRecDepth 10000 in
theorem zjV : zbv 16 128 = true := by decide +kernel
set_option maxRecDepth 10000 in
theorem zjH : zbv 16 144 = true := by decide +kernel
set_option maxRecDepth 10000 in
theorem ziW : zbv 16 160 = true := by decide +kernel
set_option maxRecDepth 10000 in
theorem zi2 : zbv 16 176 = true := by decide +kernel
set_option maxRecDepth 10000 in
theorem zi4 : zbv 16 192 = true := by decide +kernel
set_option maxRecDepth 10000 in
theorem zju : zbv 16 208 = true := by decide +kernel
set_option maxRecDepth 10000 in
theorem ziH : zbv 16 224 = true := by decide +kernel
set_option maxRecDepth 10000 in
theorem zil : zbv 16 240 = true := by decide +kernel
theorem zhR (n : Nat) (hn : n < 256) : kw n 1 0 ≠ kw n 0 0 ∧ kw n 1 0 ≠ kw n 0 1 ∧ kw n 1 1 ≠ kw n 0 0 ∧ kw n 1 1 ≠ kw n 0 1 := by
  have hq : n / 16 < 16 := by omega
  have hr : n % 16 < 16 := by omega
  have e : n = 16 * (n / 16) + n % 16 := by omega
  rw [e]
  generalize n / 16 = q at *
  generalize n % 16 = r at *
  have : q = 0 ∨ q = 1 ∨ q = 2 ∨ q = 3 ∨ q = 4 ∨ q = 5 ∨ q = 6 ∨ q = 7 ∨ q = 8 ∨ q = 9 ∨ q = 10 ∨ q = 11 ∨ q = 12 ∨ q = 13 ∨ q = 14 ∨ q = 15 := by omega
  rcases this with rfl | rfl | rfl | rfl | rfl | rfl | rfl | rfl | rfl | rfl | rfl | rfl | rfl | rfl | rfl | rfl
  · exact yQ (by decide) (by decide) zjQ hr
  · exact yQ (by decide) (by decide) zkr hr
  · exact yQ (by decide) (by decide) zjI hr
  · exact yQ (by decide) (by decide) zjS hr
  · exact yQ (by decide) (by decide) zkl hr
  · exact yQ (by decide) (by decide) zke hr
  · exact yQ (by decide) (by decide) zkc hr
  · exact yQ (by decide) (by decide) zj7 hr
  · exact yQ (by decide) (by decide) zjV hr
  · exact yQ (by decide) (by decide) zjH hr
  · exact yQ (by decide) (by decide) ziW hr
  · exact yQ (by decide) (by decide) zi2 hr
  · exact yQ (by decide) (by decide) zi4 hr
  · exact yQ (by decide) (by decide) zju hr
  · exact yQ (by decide) (by decide) ziH hr
  · exact yQ (by decide) (by decide) zil hr
end Go.AL
namespace Go.AL
open Go Go.Proofs Go.RowKit
theorem zel {n : Nat} {a b i t : Nat} (h : kw n a i ≠ kw n b t) : kyS (sdN (n : Int)) (a : Int) i ≠ kyS (sdN (n : Int)) (b : Int) t := fun e =>
  zkG h (zjk (wX _) (wX _) e)
theorem zeU (n : Nat) (hn : n < 256) : ∀ i t : Nat, i < 2 → t < 2 → kyS (sdN (n : Int)) 0 t ≠ kyS (sdN (n : Int)) 1 i := by
  obtain ⟨h1, h2, h3, h4⟩ := zhR n hn
  intro i t hi ht
  have : (i = 0 ∧ t = 0) ∨ (i = 0 ∧ t = 1) ∨ (i = 1 ∧ t = 0) ∨ (i = 1 ∧ t = 1) := by omega
  rcases this with ⟨rfl, rfl⟩ | ⟨rfl, rfl⟩ | ⟨rfl, rfl⟩ | ⟨rfl, rfl⟩
  · exact (zel h1).symm
  · exact (zel h2).symm
  · exact (zel h3).symm
  · exact (zel h4).symm
set_option maxHeartbeats 4000000 in
theorem zcc (s : ByteArray) (p n : Int) (l : List Int) (k : Nat) (hs : s.size ≤ 900000) (hk : k ≤ 8) : Spec Tryz.prog 7 [.t (vaT s p (k : Int) n l)] [] (.t (.sl 1 ((sdL s p k).map .str))) [] := by
  have hS := vG s p (k : Int) n l p k hs hk
  refine wIG Tryz.func7 ?_
  repeat' (first | refine wC ?_ | refine wK ?_ | ((with_reducible refine zk ?_); refine wN (.row (.loc 900)) [(.res 0, .loc 900)] hS ?_) | fail)
  refine ye (zz (id := .loc 900) rfl rfl rfl) ?_
  exact y4 (zE (xd rfl (AVLE.refl _)) (by simp))
theorem zjU (k : Nat) : List.replicate (k : Int).toNat (0 : Int) = usL (fun _ => 0) k := by
  unfold usL
  rw [Int.toNat_natCast]
  apply List.ext_getElem
  · simp
  · intro i h1 h2; simp
theorem zbq {α : Type} [Inhabited α] (f : Nat → α) (k i : Nat) (h : i < k) : ((List.range k).map f).getD i default = f i := by
  rw [List.getD_eq_getElem?_getD, List.getElem?_map, List.getElem?_range h]; rfl
theorem zgC (r : Int) (r0 : 0 ≤ r) : ∃ k : Nat, 1 ≤ k ∧ k ≤ 2 ∧ IntKind.i64.wrap (1 + IntKind.i64.wrap (r.tmod 2)) = (k : Int) := by
  have e : r.tmod 2 = r % 2 := Int.tmod_eq_emod_of_nonneg r0
  rw [e, zl (n := r % 2) (by omega) (by omega), zl (by omega) (by omega)]
  exact ⟨(1 + r % 2).toNat, by omega, by omega, by omega⟩
set_option maxRecDepth 8000 in
set_option maxHeartbeats 16000000 in
theorem qQ (n c x : Int) (h0 : 0 ≤ n) (h1 : n < 256) (c0 : 0 ≤ c) (c1 : c < 256) (x0 : 0 ≤ x) (x1 : x < 256) : Spec Tryz.prog 3 [.t (.int .u8 n), .t (.int .u8 c), .t (.int .u8 x)] [] (.t (.bool true)) [] := by
  have hA := zbE
  have hL := zaf n h0 h1
  have z0 := zbe n
  have hd : ∀ i t : Nat, i < 2 → t < 2 → kyS (sdN n) 0 t ≠ kyS (sdN n) 1 i := by
    have := zeU n.toNat (by omega)
    rw [Int.toNat_of_nonneg h0] at this
    exact this
  generalize sdN n = S at *
  obtain ⟨k, k1, k2, hk⟩ := zgC c c0
  obtain ⟨m, m1, m2, hm⟩ := zgC x x0
  have hN := zcr S (k : Int) (m : Int) z0 (by omega) (by omega) (by omega) (by omega)
  have hX := zeE S 0 (k : Int) (usL (fun _ => 0) k) m (by omega) (by omega) (by decide) (by decide)
  have hT := zcc S 0 (m : Int) (usL (fun _ => 0) k) k (by omega) (by omega)
  have hY := jo S 0 (m : Int) (usL (fun _ => 0) k) k (by omega) (by omega)
  have hR := zbQ S 0 (m : Int) 1 k (fun _ => 0) z0 (by decide) (by decide) k1 (by omega) (by omega) (by omega) (by decide) (by decide) (fun _ _ => by omega)
  have hZ := jo S 1 1 (List.replicate (m : Int).toNat 0) m (by omega) (by omega)
  rw [zjU] at hN
  rw [show (0 : Int) + 1 = 1 from rfl] at hX hR
  have aC : ∀ i, i < m → ((List.range m).map (nxS S 1)).getD i default = dgS (kyS S 1 i) := fun i hi => zbq _ _ _ hi
  have aF : ∀ i, i < m → ((List.range m).map (kyS S 1)).getD i default = kyS S 1 i := fun i hi => zbq _ _ _ hi
  have aD : ∀ i, i < k → (sdL S 0 k).getD i default = sdS S 0 (i : Int) := fun i hi => zbq _ _ _ hi
  have aE : ∀ i, i < k → ((List.range k).map (kyS S 0)).getD i default = kyS S 0 i := fun i hi => zbq _ _ _ hi
  have lC : ((List.range m).map (nxS S 1)).length = m := by simp
  have lF : ((List.range m).map (kyS S 1)).length = m := by simp
  have lD : (sdL S 0 k).length = k := zdl _ _ _
  have lE : ((List.range k).map (kyS S 0)).length = k := by simp
  have hDg : ∀ i, i < m → Spec Tryz.prog 10 [.t (.str (((List.range m).map (kyS S 1)).getD i default))] [] (.t (.str (((List.range m).map (nxS S 1)).getD i default))) [] := fun i hi => by
    rw [aC i hi, aF i hi]; exact zbM _ (by rw [zdS]; decide)
  have hIs : ∀ i, i < m → Spec Tryz.prog 11 [.t (.int .i64 2), .t (.str (((List.range m).map (kyS S 1)).getD i default))] [] (.t (.bool true)) [] := fun i hi => by
    rw [aF i hi]; exact zhn _ (wX _)
  have hKe : ∀ i, i < k → Spec Tryz.prog 12 [.t (.str ((sdL S 0 k).getD i default))] [] (.t (.str (((List.range k).map (kyS S 0)).getD i default))) [] := fun i hi => by
    rw [aD i hi, aE i hi]; exact zgK _ (by rw [vA]; decide)
  have hne : ∀ i t, i < m → t < k → ((List.range k).map (kyS S 0)).getD t default ≠ ((List.range m).map (kyS S 1)).getD i default := fun i t hi ht => by
    rw [aF i hi, aE t ht]; exact hd i t (by omega) (by omega)
  clear aC aF aD aE
  generalize (List.range m).map (nxS S 1) = C at *
  generalize (List.range m).map (kyS S 1) = F at *
  generalize sdL S 0 k = D at *
  generalize (List.range k).map (kyS S 0) = G at *
  have uL := za6 (fun _ => 0) k
  generalize usL (fun _ => 0) k = U at *
  generalize List.replicate (m : Int).toNat (0 : Int) = V at *
  unfold vaT at hN hX hT hY hR hZ
  refine wI Tryz.func3 ?_
  repeat' (first | refine wC ?_ | refine wK ?_ | ((with_reducible refine zk ?_); refine wL hL ?_) | fail)
  rw [hk, hm]
  repeat' (first | refine wC ?_ | (exfalso; omega) | refine wK ?_ | ((with_reducible refine zk ?_); first | refine wL hN ?_ | refine wL hX ?_ | refine wL hT ?_ | refine wL hY ?_ | refine wL hR ?_ | refine wL hZ ?_) | refine yL rfl ?_ ?_ <;> intro hc | refine jR rfl ?_ ?_ <;> intro hc | fail)
  refine zc (za [9, 10, 11, 75, 76, 77] [] rfl rfl) ?_
  refine zi (fun q env st => ∃ (i : Nat), i ≤ m ∧ q = m - i ∧ env = EnvL.get [(9, .t (.sl 1 (C.map .str))), (10, .t (.sl 1 (D.map .str))), (11, .t (.sl 1 (G.map .str))), (75, .t (.sl 1 (F.map .str))), (76, .t (.int .i64 (F.length : Int))), (77, .t (.int .i64 (i : Int)))] ∧ st = StO.get [])
    ?_ (n := m) ⟨0, by omega, rfl, rfl, rfl⟩
  clear hL hN hX hT hY hR hZ
  rintro q env st ⟨i, hi, rfl, rfl, rfl⟩
  have wi : IntKind.i64.wrap ((i : Int) + 1) = ((i + 1 : Nat) : Int) := by rw [zl (by omega) (by omega)]; omega
  by_cases him : i < m
  · have hDi := hDg i him
    have hIi := hIs i him
    have hni : ∀ t, t < k → decide (G.getD t default = F.getD (i : Int).toNat default) = false := fun t ht => by rw [Int.toNat_natCast]; exact decide_eq_false (hne i t him ht)
    have pcd : C.getD (i : Int).toNat default = C.getD i default := by rw [Int.toNat_natCast]
    rw [show F.getD i default = F.getD (i : Int).toNat default from by rw [Int.toNat_natCast]] at hDi hIi
    repeat' (first | refine wC ?_ | (exfalso; omega) | exact absurd pcd ‹_› | refine wK ?_ | ((with_reducible refine zj ?_); refine zg rfl rfl rfl rfl rfl rfl ?_ ?_ ?_) | ((with_reducible refine zk ?_); first | refine wL hDi ?_ | refine wL hIi ?_) | refine zo rfl ?_ ?_ <;> intro hc | refine jR rfl ?_ ?_ <;> intro hc | fail)
    all_goals try omega
    refine zc (za [9, 10, 11, 16, 75, 76, 77, 94, 95, 96] [] rfl rfl) ?_
    refine zi (fun q env st => ∃ (t : Nat), t ≤ k ∧ q = k - t ∧ env = EnvL.get [(9, .t (.sl 1 (C.map .str))), (10, .t (.sl 1 (D.map .str))), (11, .t (.sl 1 (G.map .str))), (16, .t (.str (F.getD (i : Int).toNat default))), (75, .t (.sl 1 (F.map .str))), (76, .t (.int .i64 (F.length : Int))), (77, .t (.int .i64 (i : Int))), (94, .t (.sl 1 (D.map .str))), (95, .t (.int .i64 (D.length : Int))), (96, .t (.int .i64 (t : Int)))] ∧ st = StO.get [])
      ?_ (n := k) ⟨0, by omega, rfl, rfl, rfl⟩
    clear hDi hIi
    rintro q env st ⟨t, ht, rfl, rfl, rfl⟩
    have wt : IntKind.i64.wrap ((t : Int) + 1) = ((t + 1 : Nat) : Int) := by rw [zl (by omega) (by omega)]; omega
    by_cases htk : t < k
    · have hKt := hKe t htk
      have hnt := hni t htk
      rw [show D.getD t default = D.getD (t : Int).toNat default from by rw [Int.toNat_natCast]] at hKt
      repeat' (first | refine wC ?_ | (exfalso; omega) | refine zcW (congrArg (fun b => AV.t (T.bool b)) hnt) ?_ | refine wK ?_ | ((with_reducible refine zj ?_); refine zg rfl rfl rfl rfl rfl rfl ?_ ?_ ?_) | ((with_reducible refine zk ?_); refine wL hKt ?_) | refine zo rfl ?_ ?_ <;> intro hc | fail)
      all_goals try omega
      all_goals exact zD (n' := k - (t + 1)) (by omega) (za [9, 10, 11, 16, 75, 76, 77, 94, 95, 96] [] rfl rfl) ⟨t + 1, by omega, rfl, by rw [wt]; rfl, rfl⟩
    · obtain rfl : t = k := by omega
      repeat' (first | refine wC ?_ | (exfalso; omega) | refine wK ?_ | refine zo rfl ?_ ?_ <;> intro hc | fail)
      all_goals try omega
      all_goals exact zD (n' := m - (i + 1)) (by omega) (za [9, 10, 11, 75, 76, 77] [] rfl rfl) ⟨i + 1, by omega, rfl, by rw [wi]; rfl, rfl⟩
  · obtain rfl : i = m := by omega
    repeat' (first | refine wC ?_ | (exfalso; omega) | refine wK ?_ | refine zo rfl ?_ ?_ <;> intro hc | fail)
    all_goals try omega
    refine zc (za [10, 11, 106, 107, 108] [] rfl rfl) ?_
    refine zi (fun q env st => ∃ (t : Nat), t ≤ k ∧ q = k - t ∧ env = EnvL.get [(10, .t (.sl 1 (D.map .str))), (11, .t (.sl 1 (G.map .str))), (106, .t (.sl 1 (D.map .str))), (107, .t (.int .i64 (D.length : Int))), (108, .t (.int .i64 (t : Int)))] ∧ st = StO.get [])
      ?_ (n := k) ⟨0, by omega, rfl, rfl, rfl⟩
    rintro q env st ⟨t, ht, rfl, rfl, rfl⟩
    have wt : IntKind.i64.wrap ((t : Int) + 1) = ((t + 1 : Nat) : Int) := by rw [zl (by omega) (by omega)]; omega
    by_cases htk : t < k
    · have hKt := hKe t htk
      have pgg : (!decide (G.getD t default = G.getD (t : Int).toNat default)) = false := by rw [Int.toNat_natCast]; simp
      rw [show D.getD t default = D.getD (t : Int).toNat default from by rw [Int.toNat_natCast]] at hKt
      repeat' (first | refine wC ?_ | (exfalso; omega) | refine zcW (congrArg (fun b => AV.t (T.bool b)) pgg) ?_ | refine wK ?_ | ((with_reducible refine zj ?_); refine zg rfl rfl rfl rfl rfl rfl ?_ ?_ ?_) | ((with_reducible refine zk ?_); refine wL hKt ?_) | refine zo rfl ?_ ?_ <;> intro hc | fail)
      all_goals try omega
      all_goals exact zD (n' := k - (t + 1)) (by omega) (za [10, 11, 106, 107, 108] [] rfl rfl) ⟨t + 1, by omega, rfl, by rw [wt]; rfl, rfl⟩
    · obtain rfl : t = k := by omega
      repeat' (first | refine wC ?_ | (exfalso; omega) | refine wK ?_ | ((with_reducible refine zk ?_); refine wL hA ?_) | refine zo rfl ?_ ?_ <;> intro hc | fail)
      all_goals try omega
      all_goals exact zE (zh rfl rfl rfl) (by simp)
end Go.AL
