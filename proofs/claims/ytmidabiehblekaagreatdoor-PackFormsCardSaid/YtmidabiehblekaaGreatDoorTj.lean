/- What functions of the program and of the document answer, and the plain laws behind it; each under the conditions that its own theorem names. -/
import Derived.Test.YtmidabiehblekaaGreatDoorTd
import Derived.Test.YtmidabiehblekaaGreatDoorTi
import Derived.Test.YtmidabiehblekaaGreatDoorAl3
set_option linter.unusedVariables false
namespace Go.AL
open Go Go.RowKit
def yC (s : ByteArray) (p k : Nat) : Int × Int :=
  if (s.size : Int) - p < k then (0, -1) else (((s.data.toList.drop p).take k).foldl xe 0, (p : Int) + k)
def vF (s : ByteArray) (p : Nat) : (Int × Int) × Int :=
  let c := bAt s p
  if 160 ≤ c ∧ c < 192 then ((3, c - 160), (p : Int) + 1)
  else if 144 ≤ c ∧ c < 160 then ((4, c - 144), (p : Int) + 1)
  else if 128 ≤ c ∧ c < 144 then ((5, c - 128), (p : Int) + 1)
  else if 217 ≤ c ∧ c ≤ 219 then ((3, (yC s (p + 1) (2 ^ (c - 217).toNat)).1), (yC s (p + 1) (2 ^ (c - 217).toNat)).2)
  else if c = 220 then ((4, (yC s (p + 1) 2).1), (yC s (p + 1) 2).2)
  else if c = 222 then ((5, (yC s (p + 1) 2).1), (yC s (p + 1) 2).2)
  else ((0, 0), -1)
def yY (nm f : Nat → Nd × Int) (k : Int) : Nat → List ByteArray → List Nd → Nat → Nd × Int
  | 0, ns, is, q => (.mk k false 0 eS ns is, q)
  | c + 1, ns, is, q =>
    if k = 5 then
      (if (nm q).2 < 0 ∨ (nm q).1.kind ≠ 3 then (Nd.zero, -1)
       else if (f (nm q).2.toNat).2 < 0 then (Nd.zero, -1)
       else yY nm f k c (ns ++ [(nm q).1.text]) (is ++ [(f (nm q).2.toNat).1]) (f (nm q).2.toNat).2.toNat)
    else (if (f q).2 < 0 then (Nd.zero, -1) else yY nm f k c ns (is ++ [(f q).1]) (f q).2.toNat)
def wV (n : Int) : Nd := .mk 2 false n eS [] []
def vu (s : ByteArray) : Nat → Nat → Nat → Nd × Int
  | 0, d, p => (Nd.zero, -1)
  | u + 1, d, p =>
    if d < 1 ∨ s.size ≤ p then (Nd.zero, -1)
    else
      let c := bAt s p
      if c = 192 then (Nd.zero, (p : Int) + 1)
      else if c = 194 ∨ c = 195 then (.mk 1 (decide (c = 195)) 0 eS [] [], (p : Int) + 1)
      else if c < 128 then (wV c, (p : Int) + 1)
      else if 224 ≤ c then (wV (c - 256), (p : Int) + 1)
      else if 204 ≤ c ∧ c ≤ 207 then
        (if 9223372036854775807 < (yC s (p + 1) (2 ^ (c - 204).toNat)).1 then (Nd.zero, -1)
         else (wV (yC s (p + 1) (2 ^ (c - 204).toNat)).1, (yC s (p + 1) (2 ^ (c - 204).toNat)).2))
      else if 208 ≤ c ∧ c ≤ 211 then (wV (sx (2 ^ (c - 208).toNat) (yC s (p + 1) (2 ^ (c - 208).toNat)).1), (yC s (p + 1) (2 ^ (c - 208).toNat)).2)
      else
        let k := (vF s p).1.1
        let n := (vF s p).1.2
        let q := (vF s p).2
        if q < 0 ∨ (k = 3 ∧ (s.size : Int) - q < n) ∨ (k ≠ 3 ∧ 256 < n) then (Nd.zero, -1)
        else if k = 3 then (.mk 3 false 0 (s.extract q.toNat (q + n).toNat) [] [], q + n)
        else yY (vu s u 1) (vu s u (d - 1)) k n.toNat [] [] q.toNat
theorem zgH (a b : List UInt8) (k n : Nat) (hk : 256 ^ k ≤ 18446744073709551616) : yC (ofL (a ++ (yr k n ++ b))) a.length k = (((n % 256 ^ k : Nat) : Int), ((a ++ yr k n).length : Int)) := by
  unfold yC
  rw [if_neg (by rw [zx]; simp [zO]; omega)]
  refine Prod.ext ?_ ?_
  · simp only [yV]
    rw [List.drop_left, List.take_append_of_le_length (by rw [zO]; exact Nat.le_refl _), List.take_of_length_le (by rw [zO]; exact Nat.le_refl _)]
    have hp : 0 < 256 ^ k := Nat.pos_of_ne_zero (by simp)
    have := jl k n 0 (by have := Nat.mod_lt n hp; omega)
    rw [Nat.zero_mul, Nat.zero_add] at this
    exact this
  · simp [zO]
theorem vp (a : List UInt8) (x : Nat) (b : List UInt8) (h : x < 256) : bAt (ofL (a ++ UInt8.ofNat x :: b)) (a.length : Nat) = (x : Int) := by
  rw [yD, UInt8.toNat_ofNat', Nat.mod_eq_of_lt (by omega)]
theorem qq (a b : List UInt8) (x : UInt8) (k n : Nat) (hk : 256 ^ k ≤ 18446744073709551616) : yC (ofL (a ++ (x :: yr k n ++ b))) (a.length + 1) k = (((n % 256 ^ k : Nat) : Int), ((a ++ x :: yr k n).length : Int)) := by
  have := zgH (a ++ [x]) b k n hk
  rw [show (a ++ [x]) ++ (yr k n ++ b) = a ++ (x :: yr k n ++ b) by simp, show (a ++ [x]).length = a.length + 1 by simp] at this
  rw [this]
  refine Prod.ext rfl ?_
  simp
theorem zj7 (a : List UInt8) (s : ByteArray) (b : List UInt8) (hs : s.size < 4294967296) : vF (ofL (a ++ (pTx s ++ b))) a.length = ((3, (s.size : Int)), ((a ++ pTh s.size).length : Int)) ∧ (∃ c : Int, bAt (ofL (a ++ (pTx s ++ b))) (a.length : Nat) = c ∧ ((160 ≤ c ∧ c < 192) ∨ (217 ≤ c ∧ c ≤ 219))) := by
  unfold pTx pTh
  have big : ∀ i : Nat, i ≤ 2 → s.size < 256 ^ (2 ^ i) → vF (ofL (a ++ (UInt8.ofNat (217 + i) :: yr (2 ^ i) s.size ++ s.data.toList ++ b))) a.length = ((3, (s.size : Int)), ((a ++ UInt8.ofNat (217 + i) :: yr (2 ^ i) s.size).length : Int)) ∧ (∃ c : Int, bAt (ofL (a ++ (UInt8.ofNat (217 + i) :: yr (2 ^ i) s.size ++ s.data.toList ++ b))) (a.length : Nat) = c ∧ ((160 ≤ c ∧ c < 192) ∨ (217 ≤ c ∧ c ≤ 219))) := by
    intro i hi hlt
    have hk : 256 ^ (2 ^ i) ≤ 18446744073709551616 := by
      match i, hi with
      | 0, _ | 1, _ | 2, _ => decide
    have hb : bAt (ofL (a ++ (UInt8.ofNat (217 + i) :: yr (2 ^ i) s.size ++ s.data.toList ++ b))) (a.length : Nat) = ((217 + i : Nat) : Int) := by
      rw [List.append_assoc, List.cons_append]; exact vp a (217 + i) _ (by omega)
    refine ⟨?_, _, hb, .inr (by omega)⟩
    unfold vF
    simp only
    rw [hb, if_neg (by omega), if_neg (by omega), if_neg (by omega), if_pos (by omega), show (((217 + i : Nat) : Int) - 217).toNat = i by omega, List.append_assoc, qq a (s.data.toList ++ b) (UInt8.ofNat (217 + i)) (2 ^ i) s.size hk, Nat.mod_eq_of_lt hlt]
  split
  · have hb : bAt (ofL (a ++ ([UInt8.ofNat (160 + s.size)] ++ s.data.toList ++ b))) (a.length : Nat) = ((160 + s.size : Nat) : Int) := by
      rw [List.append_assoc, List.singleton_append]; exact vp a (160 + s.size) _ (by omega)
    refine ⟨?_, _, hb, .inl (by omega)⟩
    unfold vF
    simp only
    rw [hb, if_pos (by omega)]
    refine Prod.ext (Prod.ext rfl ?_) ?_
    · simp only; omega
    · simp
  split
  · exact big 0 (by omega) (by simpa using ‹s.size < 256›)
  split
  · exact big 1 (by omega) (by simpa using ‹s.size < 65536›)
  · exact big 2 (by omega) (by simpa using hs)
theorem zfD (u d : Nat) (hd : 1 ≤ d) (a : List UInt8) (s : ByteArray) (b : List UInt8) (hs : s.size < 4294967296) : vu (ofL (a ++ (pTx s ++ b))) (u + 1) d a.length = (.mk 3 false 0 s [] [], ((a ++ pTx s).length : Int)) := by
  obtain ⟨h1, c, h2, h3⟩ := zj7 a s b hs
  have hl := ya s
  have hsz : (ofL (a ++ (pTx s ++ b))).size = a.length + (pTh s.size).length + s.size + b.length := by
    rw [zx]; simp only [pTx, List.length_append]; omega
  have hp := (zkT (n := s.size)).2
  rw [vu]
  rw [if_neg (by omega)]
  simp only
  rw [h2, if_neg (by omega), if_neg (by omega), if_neg (by omega), if_neg (by omega), if_neg (by omega), if_neg (by omega), h1]
  simp only [List.length_append]
  rw [if_neg (by omega), if_pos trivial]
  have e := zcm (a ++ pTh s.size) s.data.toList b
  rw [vI] at e
  have e1 : ((a ++ pTh s.size) ++ (s.data.toList ++ b)) = a ++ (pTx s ++ b) := by simp [pTx, List.append_assoc]
  rw [e1] at e
  have e2 : ((((a.length + (pTh s.size).length : Nat)) : Int) + ((s.size : Nat) : Int)).toNat = ((a ++ pTh s.size) ++ s.data.toList).length := by
    rw [@List.length_append _ (a ++ pTh s.size) _, hl, List.length_append]; omega
  rw [e2, Int.toNat_natCast, ← List.length_append, e]
  refine Prod.ext rfl ?_
  simp only [pTx, List.length_append]; omega
theorem zcc (nm f : Nat → Nd × Int) (s : ByteArray) : ∀ (xs : List Nd) (ns : List ByteArray) (acc : List Nd) (a b : List UInt8), s = ofL (a ++ (Nd.pbs xs ++ b)) → ∀ m, m ≤ a.length → (∀ x ∈ xs, ∀ a b : List UInt8, m ≤ a.length → s = ofL (a ++ (x.pb ++ b)) → f a.length = (x, ((a ++ x.pb).length : Int))) →
    yY nm f 4 xs.length ns acc a.length = (.mk 4 false 0 eS ns (acc ++ xs), ((a ++ Nd.pbs xs).length : Int))
  | [], ns, acc, a, b, hs, m, hm, h => by simp [yY, Nd.pbs]
  | x :: xs, ns, acc, a, b, hs, m, hm, h => by
    simp only [Nd.pbs, List.append_assoc] at hs
    have h1 := h x (by simp) a (Nd.pbs xs ++ b) hm hs
    have hs' : s = ofL ((a ++ x.pb) ++ (Nd.pbs xs ++ b)) := by rw [hs]; simp [List.append_assoc]
    have ih := zcc nm f s xs ns (acc ++ [x]) (a ++ x.pb) b hs' m (by rw [List.length_append]; omega) (fun y hy => h y (by simp [hy]))
    rw [List.length_cons, yY, if_neg (by decide), h1]
    simp only
    rw [if_neg (by omega), Int.toNat_natCast, ih]
    simp [Nd.pbs, List.append_assoc]
theorem zdd (nm f : Nat → Nd × Int) (s : ByteArray) : ∀ (ss : List ByteArray) (xs : List Nd) (ns : List ByteArray) (acc : List Nd) (a b : List UInt8), ss.length = xs.length → s = ofL (a ++ (Nd.pbm ss xs ++ b)) → ∀ m, m ≤ a.length → (∀ t ∈ ss, ∀ a b : List UInt8, m ≤ a.length → s = ofL (a ++ (pTx t ++ b)) → nm a.length = (.mk 3 false 0 t [] [], ((a ++ pTx t).length : Int))) → (∀ x ∈ xs, ∀ a b : List UInt8, m ≤ a.length → s = ofL (a ++ (x.pb ++ b)) → f a.length = (x, ((a ++ x.pb).length : Int))) →
    yY nm f 5 xs.length ns acc a.length = (.mk 5 false 0 eS (ns ++ ss) (acc ++ xs), ((a ++ Nd.pbm ss xs).length : Int))
  | [], [], ns, acc, a, b, _, hs, m, hm, _, h => by simp [yY, Nd.pbm]
  | t :: ss, x :: xs, ns, acc, a, b, hl, hs, m, hm, hn, h => by
    simp only [Nd.pbm] at hs
    have e1 : s = ofL (a ++ (pTx t ++ (x.pb ++ (Nd.pbm ss xs ++ b)))) := by rw [hs]; simp [List.append_assoc]
    have ht := hn t (by simp) a _ hm e1
    have e2 : s = ofL ((a ++ pTx t) ++ (x.pb ++ (Nd.pbm ss xs ++ b))) := by rw [hs]; simp [List.append_assoc]
    have h1 := h x (by simp) _ _ (by rw [List.length_append]; omega) e2
    have e3 : s = ofL (((a ++ pTx t) ++ x.pb) ++ (Nd.pbm ss xs ++ b)) := by rw [hs]; simp [List.append_assoc]
    have ih := zdd nm f s ss xs (ns ++ [t]) (acc ++ [x]) ((a ++ pTx t) ++ x.pb) b (by simpa using hl) e3 m (by rw [List.length_append, List.length_append]; omega) (fun y hy => hn y (by simp [hy])) (fun y hy => h y (by simp [hy]))
    have hc : ¬ ((nm a.length).2 < 0 ∨ (nm a.length).1.kind ≠ 3) := by
      rw [ht]
      rintro (hx | hx)
      · simp only at hx; omega
      · exact hx rfl
    have hn' : (nm a.length).2.toNat = (a ++ pTx t).length := by rw [ht]; simp only [Int.toNat_natCast]
    have h1' : f (nm a.length).2.toNat = (x, (((a ++ pTx t) ++ x.pb).length : Int)) := by rw [hn']; exact h1
    have hc2 : ¬ (f (nm a.length).2.toNat).2 < 0 := by rw [h1']; simp only; omega
    rw [List.length_cons, yY, if_pos rfl, if_neg hc, if_neg hc2, h1', ht]
    simp only [Nd.text, Int.toNat_natCast]
    rw [ih]
    simp [Nd.pbm, List.append_assoc]
  | [], _ :: _, _, _, _, _, hl, _, _, _, _, _ => by simp at hl
  | _ :: _, [], _, _, _, _, hl, _, _, _, _, _ => by simp at hl
theorem zhk (a : List UInt8) (few many n : Nat) (k : Int) (b : List UInt8) (hk : (few = 144 ∧ many = 220 ∧ k = 4) ∨ (few = 128 ∧ many = 222 ∧ k = 5)) (hn : n < 65536) : vF (ofL (a ++ (pCn few many n ++ b))) a.length = ((k, (n : Int)), ((a ++ pCn few many n).length : Int)) ∧ (∃ c : Int, bAt (ofL (a ++ (pCn few many n ++ b))) (a.length : Nat) = c ∧ ((128 ≤ c ∧ c < 160) ∨ c = 220 ∨ c = 222)) := by
  unfold pCn
  split
  · have hb : bAt (ofL (a ++ ([UInt8.ofNat (few + n)] ++ b))) (a.length : Nat) = ((few + n : Nat) : Int) := by
      rw [List.singleton_append]; exact vp a (few + n) _ (by omega)
    refine ⟨?_, _, hb, .inl (by omega)⟩
    unfold vF
    simp only
    rw [hb]
    rcases hk with ⟨rfl, rfl, rfl⟩ | ⟨rfl, rfl, rfl⟩
    · rw [if_neg (by omega), if_pos (by omega)]
      refine Prod.ext (Prod.ext rfl ?_) ?_
      · simp only; omega
      · simp
    · rw [if_neg (by omega), if_neg (by omega), if_pos (by omega)]
      refine Prod.ext (Prod.ext rfl ?_) ?_
      · simp only; omega
      · simp
  · have hb : bAt (ofL (a ++ (UInt8.ofNat many :: yr 2 n ++ b))) (a.length : Nat) = (many : Int) := by
      rw [List.cons_append]; exact vp a many _ (by omega)
    refine ⟨?_, _, hb, .inr (by omega)⟩
    have hf := qq a b (UInt8.ofNat many) 2 n (by decide)
    rw [Nat.mod_eq_of_lt (by simpa using hn)] at hf
    unfold vF
    simp only
    rw [hb]
    rcases hk with ⟨rfl, rfl, rfl⟩ | ⟨rfl, rfl, rfl⟩
    · rw [if_neg (by omega), if_neg (by omega), if_neg (by omega), if_neg (by omega), if_pos (by omega), hf]
    · rw [if_neg (by omega), if_neg (by omega), if_neg (by omega), if_neg (by omega), if_neg (by omega), if_pos (by omega), hf]
theorem zlI (u d : Nat) (hd : 1 ≤ d) (a : List UInt8) (n : Int) (b : List UInt8) (h0 : -9223372036854775808 ≤ n) (h1 : n ≤ 9223372036854775807) : vu (ofL (a ++ (qI n ++ b))) (u + 1) d a.length = (wV n, ((a ++ qI n).length : Int)) := by
  have up : ∀ i : Nat, i ≤ 3 → 0 ≤ n → n < ((256 ^ (2 ^ i) : Nat) : Int) → vu (ofL (a ++ (UInt8.ofNat (204 + i) :: yr (2 ^ i) (xP n) ++ b))) (u + 1) d a.length = (wV n, ((a ++ UInt8.ofNat (204 + i) :: yr (2 ^ i) (xP n)).length : Int)) := by
    intro i hi hn hlt
    have hk : 256 ^ (2 ^ i) ≤ 18446744073709551616 := by
      match i, hi with
      | 0, _ | 1, _ | 2, _ | 3, _ => decide
    have hb : bAt (ofL (a ++ (UInt8.ofNat (204 + i) :: yr (2 ^ i) (xP n) ++ b))) (a.length : Nat) = ((204 + i : Nat) : Int) := by
      rw [List.cons_append]; exact vp a (204 + i) _ (by omega)
    have hf := qq a b (UInt8.ofNat (204 + i)) (2 ^ i) (xP n) hk
    have hu : xP n < 256 ^ (2 ^ i) := by unfold xP; omega
    rw [Nat.mod_eq_of_lt hu] at hf
    rw [vu, if_neg (by rw [zx]; simp; omega)]
    simp only
    rw [hb, if_neg (by omega), if_neg (by omega), if_neg (by omega), if_neg (by omega), if_pos (by omega), show (((204 + i : Nat) : Int) - 204).toNat = i by omega, hf]
    simp only
    have hun : ((xP n : Nat) : Int) = n := by unfold xP; omega
    rw [hun, if_neg (by omega)]
  have dn : ∀ i : Nat, i ≤ 3 → n < 0 → -((256 ^ (2 ^ i) / 2 : Nat) : Int) ≤ n → vu (ofL (a ++ (UInt8.ofNat (208 + i) :: yr (2 ^ i) (xP n) ++ b))) (u + 1) d a.length = (wV n, ((a ++ UInt8.ofNat (208 + i) :: yr (2 ^ i) (xP n)).length : Int)) := by
    intro i hi hn hlt
    have hk : 256 ^ (2 ^ i) ≤ 18446744073709551616 := by
      match i, hi with
      | 0, _ | 1, _ | 2, _ | 3, _ => decide
    have hb : bAt (ofL (a ++ (UInt8.ofNat (208 + i) :: yr (2 ^ i) (xP n) ++ b))) (a.length : Nat) = ((208 + i : Nat) : Int) := by
      rw [List.cons_append]; exact vp a (208 + i) _ (by omega)
    have hf := qq a b (UInt8.ofNat (208 + i)) (2 ^ i) (xP n) hk
    rw [vu, if_neg (by rw [zx]; simp; omega)]
    simp only
    rw [hb, if_neg (by omega), if_neg (by omega), if_neg (by omega), if_neg (by omega), if_neg (by omega), if_pos (by omega), show (((208 + i : Nat) : Int) - 208).toNat = i by omega, hf]
    simp only
    have hsx : sx (2 ^ i) ((xP n % 256 ^ (2 ^ i) : Nat) : Int) = n := by
      unfold xP sx
      match i, hi with
      | 0, _ => simp at hlt ⊢; omega
      | 1, _ => simp at hlt ⊢; omega
      | 2, _ => simp at hlt ⊢; omega
      | 3, _ => simp at hlt ⊢; omega
    rw [hsx]
  unfold qI
  split
  · have hb : bAt (ofL (a ++ ([UInt8.ofNat (n % 256).toNat] ++ b))) (a.length : Nat) = (((n % 256).toNat : Nat) : Int) := by
      rw [List.singleton_append]; exact vp a (n % 256).toNat _ (by omega)
    rw [vu, if_neg (by rw [zx]; simp; omega)]
    simp only
    by_cases hn : 0 ≤ n
    · rw [hb, if_neg (by omega), if_neg (by omega), if_pos (by omega), show (((n % 256).toNat : Nat) : Int) = n by omega]
      simp
    · rw [hb, if_neg (by omega), if_neg (by omega), if_neg (by omega), if_pos (by omega), show (((n % 256).toNat : Nat) : Int) - 256 = n by omega]
      simp
  split
  · split
    · exact up 0 (by omega) (by omega) (by simpa using ‹n < 256›)
    split
    · exact up 1 (by omega) (by omega) (by simpa using ‹n < 65536›)
    split
    · exact up 2 (by omega) (by omega) (by simpa using ‹n < 4294967296›)
    · exact up 3 (by omega) (by omega) (by simp; omega)
  split
  · exact dn 0 (by omega) (by omega) (by simpa using ‹-128 ≤ n›)
  split
  · exact dn 1 (by omega) (by omega) (by simpa using ‹-32768 ≤ n›)
  split
  · exact dn 2 (by omega) (by omega) (by simpa using ‹-2147483648 ≤ n›)
  · exact dn 3 (by omega) (by omega) (by simp; omega)
theorem ze7 {V : ByteArray → Bool} {s : ByteArray} : ∀ (x : Nd) (u d : Nat), x.validB V d = true → x.In → ∀ a b : List UInt8, s = ofL (a ++ (x.pb ++ b)) → s.size < u + a.length → vu s u d a.length = (x, ((a ++ x.pb).length : Int))
  | .mk k b n tx ns is, u, 0, hv, _, _, _, _, _ => by
    rw [yo] at hv
    have := hv.1
    simp at this
  | .mk k b n tx ns is, 0, d + 1, hv, hin, A, B, hs, hu => by
    exfalso
    rw [hs, zx] at hu
    simp at hu; omega
  | .mk k b n tx ns is, u + 1, d + 1, hv, hin, A, B, hs, hu => by
    rw [yo] at hv
    obtain ⟨_, h2, h3, h4, h5, h6, h7, h8⟩ := hv
    cases hin with
    | mk i1 i2 i3 =>
    simp only [Nd.fieldsOK, Bool.and_eq_true, Bool.or_eq_true, decide_eq_true_eq, Bool.not_eq_true'] at h4
    obtain ⟨⟨⟨⟨f1, f2⟩, f3⟩, f4⟩, f5⟩ := h4
    have hk : k = 0 ∨ k = 1 ∨ k = 2 ∨ k = 3 ∨ k = 4 ∨ k = 5 := by omega
    have hi : ∀ y ∈ is, ∀ a b : List UInt8, A.length + 1 ≤ a.length → s = ofL (a ++ (y.pb ++ b)) → vu s u d a.length = (y, ((a ++ y.pb).length : Int)) := fun y hy a b hm h =>
      ze7 y u d (by have := h8 y hy; rwa [show ((d + 1 : Nat) : Int) - 1 = d by omega] at this) (i3 y hy) a b h (by omega)
    have e0 : k ≠ 1 → b = false := fun h => f1.resolve_left h
    have e1 : k ≠ 2 → n = 0 := fun h => f2.resolve_left h
    have e2 : k ≠ 3 → tx = eS := fun h => f3.resolve_left h
    have e3 : k ≠ 4 → k ≠ 5 → is = [] := fun h h' => List.eq_nil_of_length_eq_zero (by rcases f4 with (h'' | h'') | h'' <;> first | (exact absurd h'' h) | (exact absurd h'' h') | omega)
    have e4 : k ≠ 5 → ns = [] := fun h => List.eq_nil_of_length_eq_zero (by rcases f5 with h' | h'; exact absurd h' h; omega)
    have simple : ∀ (j : Nat), j < 256 → s = ofL (A ++ ([UInt8.ofNat j] ++ B)) → bAt s (A.length : Nat) = j ∧ ¬ (d + 1 < 1 ∨ s.size ≤ A.length) := fun j hj h => by
      rw [h, List.singleton_append, vp A j B hj, zx]
      exact ⟨rfl, by simp⟩
    rcases hk with rfl | rfl | rfl | rfl | rfl | rfl
    · rw [e0 (by decide), e1 (by decide), e2 (by decide), e3 (by decide) (by decide), e4 (by decide)] at hs ⊢
      rw [show (Nd.mk 0 false 0 eS [] []).pb = [UInt8.ofNat 192] by simp [Nd.pb]] at hs ⊢
      obtain ⟨h1, h2⟩ := simple 192 (by omega) hs
      rw [vu, if_neg h2]
      simp only
      rw [h1, if_pos (by decide)]
      simp [Nd.zero, eS]
    · rw [e1 (by decide), e2 (by decide), e3 (by decide) (by decide), e4 (by decide)] at hs ⊢
      cases b with
      | true =>
        rw [show (Nd.mk 1 true 0 eS [] []).pb = [UInt8.ofNat 195] by simp [Nd.pb]] at hs ⊢
        obtain ⟨h1, h2⟩ := simple 195 (by omega) hs
        rw [vu, if_neg h2]
        simp only
        rw [h1, if_neg (by decide), if_pos (by decide)]
        simp
      | false =>
        rw [show (Nd.mk 1 false 0 eS [] []).pb = [UInt8.ofNat 194] by simp [Nd.pb]] at hs ⊢
        obtain ⟨h1, h2⟩ := simple 194 (by omega) hs
        rw [vu, if_neg h2]
        simp only
        rw [h1, if_neg (by decide), if_pos (by decide)]
        simp
    · rw [e0 (by decide), e2 (by decide), e3 (by decide) (by decide), e4 (by decide)] at hs ⊢
      rw [show (Nd.mk 2 false n eS [] []).pb = qI n by simp [Nd.pb]] at hs ⊢
      rw [hs]
      exact zlI u (d + 1) (by omega) A n B i1 i2
    · rw [e0 (by decide), e1 (by decide), e3 (by decide) (by decide), e4 (by decide)] at hs ⊢
      have ht : tx.size ≤ 65536 := by simp only [yh, Bool.and_eq_true, decide_eq_true_eq] at h5; omega
      rw [show (Nd.mk 3 false 0 tx [] []).pb = pTx tx by simp [Nd.pb]] at hs ⊢
      rw [hs]
      exact zfD u (d + 1) (by omega) A tx B (by omega)
    · rw [e0 (by decide), e1 (by decide), e2 (by decide), e4 (by decide)] at hs ⊢
      rw [show (Nd.mk 4 false 0 eS [] is).pb = pCn 144 220 is.length ++ Nd.pbs is by simp [Nd.pb]] at hs ⊢
      rw [List.append_assoc] at hs
      obtain ⟨g1, c, g2, g3⟩ := zhk A 144 220 is.length 4 (Nd.pbs is ++ B) (.inl ⟨rfl, rfl, rfl⟩) (by omega)
      rw [← hs] at g1 g2
      have hcp := (qz 144 220 is.length).1
      have hsz : s.size = A.length + (pCn 144 220 is.length).length + (Nd.pbs is).length + B.length := by rw [hs, zx]; simp only [List.length_append]; omega
      rw [vu, if_neg (by omega)]
      simp only
      rw [g2, if_neg (by omega), if_neg (by omega), if_neg (by omega), if_neg (by omega), if_neg (by omega), if_neg (by omega), g1]
      simp only [Int.toNat_natCast]
      rw [if_neg (by omega), if_neg (by decide)]
      have := zcc (vu s u 1) (vu s u d) s is [] [] (A ++ pCn 144 220 is.length) B (by rw [hs]; simp [List.append_assoc]) (A.length + 1) (by rw [List.length_append]; omega) hi
      rw [show d + 1 - 1 = d by omega, this]
      simp [List.append_assoc]
    · rw [e0 (by decide), e1 (by decide), e2 (by decide)] at hs ⊢
      have hl := (h7 rfl).2
      rw [show (Nd.mk 5 false 0 eS ns is).pb = pCn 128 222 is.length ++ Nd.pbm ns is by simp [Nd.pb]] at hs ⊢
      rw [List.append_assoc] at hs
      obtain ⟨g1, c, g2, g3⟩ := zhk A 128 222 is.length 5 (Nd.pbm ns is ++ B) (.inr ⟨rfl, rfl, rfl⟩) (by omega)
      rw [← hs] at g1 g2
      have hcp := (qz 128 222 is.length).1
      have hsz : s.size = A.length + (pCn 128 222 is.length).length + (Nd.pbm ns is).length + B.length := by rw [hs, zx]; simp only [List.length_append]; omega
      have hnm : ∀ t ∈ ns, ∀ a b : List UInt8, A.length + 1 ≤ a.length → s = ofL (a ++ (pTx t ++ b)) → vu s u 1 a.length = (.mk 3 false 0 t [] [], ((a ++ pTx t).length : Int)) := fun t ht a b hm h => by
        have := (((yF (yh V) ns []).1 (h7 rfl).1).2 t ht).2
        simp only [yh, Bool.and_eq_true, decide_eq_true_eq] at this
        have hlen : a.length ≤ s.size := by rw [h, zx]; simp
        obtain ⟨u', rfl⟩ : ∃ u', u = u' + 1 := ⟨u - 1, by omega⟩
        rw [h]
        exact zfD u' 1 (by omega) a t b (by omega)
      rw [vu, if_neg (by omega)]
      simp only
      rw [g2, if_neg (by omega), if_neg (by omega), if_neg (by omega), if_neg (by omega), if_neg (by omega), if_neg (by omega), g1]
      simp only [Int.toNat_natCast]
      rw [if_neg (by omega), if_neg (by decide)]
      have := zdd (vu s u 1) (vu s u d) s ns is [] [] (A ++ pCn 128 222 is.length) B hl (by rw [hs]; simp [List.append_assoc]) (A.length + 1) (by rw [List.length_append]; omega) hnm hi
      rw [show d + 1 - 1 = d by omega, this]
      simp [List.append_assoc]
termination_by x => SizeOf.sizeOf x
decreasing_by
  have := List.sizeOf_lt_of_mem hy
  simp only [Nd.mk.sizeOf_spec]
  omega
theorem xx {s : ByteArray} {p i : Nat} (hi : i ≤ 3) : 0 ≤ (yC s p (2 ^ i)).1 ∧ (yC s p (2 ^ i)).1 < (256 : Int) ^ (2 ^ i) ∧ ((yC s p (2 ^ i)).2 = -1 ∨ ((yC s p (2 ^ i)).2 = (p : Int) + 2 ^ i ∧ (yC s p (2 ^ i)).2 ≤ s.size)) := by
  have e2 : ((2 ^ i : Nat) : Int) = 2 ^ i := by simp
  have h8 : 2 ^ i ≤ 8 := by
    match i, hi with
    | 0, _ | 1, _ | 2, _ | 3, _ => decide
  unfold yC
  split
  · refine ⟨by simp, ?_, .inl rfl⟩
    simp only
    exact Int.pow_pos (by decide)
  · rename_i hc
    have hl : ((s.data.toList.drop p).take (2 ^ i)).length = 2 ^ i := by
      rw [List.length_take, List.length_drop, ya]; omega
    have hf := kw ((s.data.toList.drop p).take (2 ^ i)) 0 0 (by omega) (by decide) (by rw [hl]; omega)
    rw [hl, Nat.zero_add] at hf
    exact ⟨hf.1, hf.2, .inr ⟨by simp only; rw [e2], by simp only; omega⟩⟩
def PGood (s : ByteArray) (p : Nat) (r : Nd × Int) : Prop := r.1.Ok ∧ -1 ≤ r.2 ∧ (r.2 ≠ -1 → (p : Int) < r.2 ∧ r.2 ≤ s.size ∧ (r.1.pb.length : Int) + p ≤ r.2 ∧ r.1.In)
theorem PGood.fail (s : ByteArray) (p : Nat) : PGood s p (Nd.zero, -1) := ⟨xw, by decide, fun h => absurd rfl h⟩
theorem zd8 (n : Int) : (wV n).pb = qI n := by simp [wV, Nd.pb]
theorem zcl (n : Int) : (wV n).Ok := .mk (by simp) (by simp) (by simp)
theorem zb0 {n : Int} (h0 : -9223372036854775808 ≤ n) (h1 : n ≤ 9223372036854775807) : (wV n).In := .mk h0 h1 (by simp)
theorem zm2 (t : ByteArray) : (Nd.mk 3 false 0 t [] []).pb = pTx t := by simp [Nd.pb]
theorem zl2 {x : Nd} (h : x.kind = 3) : x.pb = pTx x.text := by
  cases x with
  | mk k b n t ns is =>
  simp only [Nd.kind] at h
  subst h
  simp [Nd.pb, Nd.text]
theorem k7 (nm f : Nat → Nd × Int) (s : ByteArray) (hn : ∀ p, PGood s p (nm p)) (hf : ∀ p, PGood s p (f p)) (k : Int) (hk : k = 4 ∨ k = 5) : ∀ (c : Nat) (ns : List ByteArray) (is : List Nd) (q : Nat), ns.length + c ≤ 1000000000 → is.length + c ≤ 1000000000 → (∀ x ∈ is, x.Ok) →
    (yY nm f k c ns is q).1.Ok ∧ -1 ≤ (yY nm f k c ns is q).2 ∧ ((yY nm f k c ns is q).2 ≠ -1 → (q : Int) ≤ s.size → (q : Int) ≤ (yY nm f k c ns is q).2 ∧ (yY nm f k c ns is q).2 ≤ s.size ∧
      ∃ (ss : List ByteArray) (xs : List Nd), xs.length = c ∧ (yY nm f k c ns is q).1 = .mk k false 0 eS (ns ++ ss) (is ++ xs) ∧ (((if k = 5 then Nd.pbm ss xs else Nd.pbs xs).length : Nat) : Int) + q ≤ (yY nm f k c ns is q).2 ∧ ∀ x ∈ xs, x.In)
  | 0, ns, is, q, h1, h2, h3 => ⟨.mk (by omega) (by omega) h3, by simp only [yY]; omega, fun _ hq => ⟨by simp [yY], by simp only [yY]; exact hq, [], [], rfl, by simp [yY], by simp [yY, Nd.pbs, Nd.pbm], by simp⟩⟩
  | c + 1, ns, is, q, h1, h2, h3 => by
    have fail : (Nd.zero, (-1 : Int)).1.Ok ∧ -1 ≤ (Nd.zero, (-1 : Int)).2 := ⟨xw, by decide⟩
    have key : ∀ (y : Nd), y.Ok → ∀ x ∈ is ++ [y], x.Ok := fun y hy x hx => by
      rcases List.mem_append.1 hx with h | h
      · exact h3 x h
      · rw [List.mem_singleton.1 h]; exact hy
    rw [yY]
    rcases hk with rfl | rfl
    · rw [if_neg (by decide)]
      obtain ⟨f1, f2, f3⟩ := hf q
      split
      · exact ⟨fail.1, fail.2, fun h => absurd rfl h⟩
      · rename_i hn'
        obtain ⟨g1, g2, g3, g4⟩ := f3 (by omega)
        obtain ⟨i1, i2, i3⟩ := k7 nm f s hn hf 4 (.inl rfl) c ns (is ++ [(f q).1]) (f q).2.toNat (by omega) (by simp; omega) (key _ f1)
        refine ⟨i1, i2, fun h hq => ?_⟩
        replace i3 := i3 h (by clear i3 f3; omega)
        clear f3
        obtain ⟨j1, j2, ss, xs, j3, j6, j7, j8⟩ := i3
        refine ⟨by omega, j2, ss, (f q).1 :: xs, by simp [j3], by rw [j6]; simp, ?_, fun x hx => ?_⟩
        · rw [if_neg (by decide)] at j7 ⊢
          simp only [Nd.pbs, List.length_append]; omega
        · rcases List.mem_cons.1 hx with rfl | hx
          · exact g4
          · exact j8 x hx
    · rw [if_pos rfl]
      split
      · exact ⟨fail.1, fail.2, fun h => absurd rfl h⟩
      · rename_i ht
        simp only [not_or, Int.not_lt, ne_eq, Decidable.not_not] at ht
        obtain ⟨n1, n2, n3⟩ := hn q
        obtain ⟨t1, t2, t3, _⟩ := n3 (by clear n3; omega)
        clear n3
        rw [zl2 ht.2] at t3
        obtain ⟨f1, f2, f3⟩ := hf (nm q).2.toNat
        split
        · exact ⟨fail.1, fail.2, fun h => absurd rfl h⟩
        · rename_i hn'
          obtain ⟨g1, g2, g3, g4⟩ := f3 (by clear f3; omega)
          clear f3
          obtain ⟨i1, i2, i3⟩ := k7 nm f s hn hf 5 (.inr rfl) c (ns ++ [(nm q).1.text]) (is ++ [(f (nm q).2.toNat).1]) (f (nm q).2.toNat).2.toNat (by simp; omega) (by simp; omega) (key _ f1)
          refine ⟨i1, i2, fun h hq => ?_⟩
          replace i3 := i3 h (by clear i3; omega)
          obtain ⟨j1, j2, ss, xs, j3, j6, j7, j8⟩ := i3
          refine ⟨by omega, j2, (nm q).1.text :: ss, (f (nm q).2.toNat).1 :: xs, by simp [j3], by rw [j6]; simp, ?_, fun x hx => ?_⟩
          · rw [if_pos rfl] at j7 ⊢
            simp only [Nd.pbm, List.length_append]; omega
          · rcases List.mem_cons.1 hx with rfl | hx
            · exact g4
            · exact j8 x hx
theorem zfi {s : ByteArray} {p : Nat} (hp : p < s.size) (h : 0 ≤ (vF s p).2) : (p : Int) < (vF s p).2 ∧ (vF s p).2 ≤ s.size ∧ 0 ≤ (vF s p).1.2 ∧ (vF s p).1.2 < 4294967296 ∧ ((vF s p).1.1 = 3 ∨ (vF s p).1.1 = 4 ∨ (vF s p).1.1 = 5) ∧
    ((vF s p).1.1 = 3 → ∀ n : Nat, (n : Int) = (vF s p).1.2 → ((pTh n).length : Int) + p ≤ (vF s p).2) ∧ ((vF s p).1.1 = 4 → ∀ n : Nat, (n : Int) = (vF s p).1.2 → ((pCn 144 220 n).length : Int) + p ≤ (vF s p).2) ∧ ((vF s p).1.1 = 5 → ∀ n : Nat, (n : Int) = (vF s p).1.2 → ((pCn 128 222 n).length : Int) + p ≤ (vF s p).2) := by
  have hb := xj s p
  have pcnt : ∀ a b n, n < 16 → (pCn a b n).length = 1 := fun a b n h => by unfold pCn; rw [if_pos h]; rfl
  have pth : ∀ n, n < 32 → (pTh n).length = 1 := fun n h => by unfold pTh; rw [if_pos h]; rfl
  unfold vF at h ⊢
  simp only at h ⊢
  split at h
  · rename_i e; rw [if_pos e]
    refine ⟨by simp only; omega, by simp only; omega, by simp only; omega, by simp only; omega, .inl rfl, fun _ n hn => ?_, fun h => absurd (show (3 : Int) = 4 from h) (by decide), fun h => absurd (show (3 : Int) = 5 from h) (by decide)⟩
    simp only at hn ⊢
    rw [pth n (by omega)]; omega
  rename_i n1; rw [if_neg n1]
  split at h
  · rename_i e; rw [if_pos e]
    refine ⟨by simp only; omega, by simp only; omega, by simp only; omega, by simp only; omega, .inr (.inl rfl), fun h => absurd (show (4 : Int) = 3 from h) (by decide), fun _ n hn => ?_, fun h => absurd (show (4 : Int) = 5 from h) (by decide)⟩
    simp only at hn ⊢
    rw [pcnt _ _ n (by omega)]; omega
  rename_i n2; rw [if_neg n2]
  split at h
  · rename_i e; rw [if_pos e]
    refine ⟨by simp only; omega, by simp only; omega, by simp only; omega, by simp only; omega, .inr (.inr rfl), fun h => absurd (show (5 : Int) = 3 from h) (by decide), fun h => absurd (show (5 : Int) = 4 from h) (by decide), fun _ n hn => ?_⟩
    simp only at hn ⊢
    rw [pcnt _ _ n (by omega)]; omega
  rename_i n3; rw [if_neg n3]
  split at h
  · rename_i e; rw [if_pos e]
    obtain ⟨i, hi, hi2⟩ : ∃ i : Nat, (bAt s p - 217).toNat = i ∧ i ≤ 2 := ⟨_, rfl, by omega⟩
    rw [hi] at h ⊢
    simp only at h ⊢
    obtain ⟨q1, q2, q3⟩ := xx (s := s) (p := p + 1) (i := i) (by omega)
    have q4 := q3.resolve_left (by omega)
    have h256 : (256 : Int) ^ (2 ^ i) ≤ 4294967296 := by
      match i, hi2 with
      | 0, _ | 1, _ | 2, _ => decide +kernel
    have e2 : ((2 ^ i : Nat) : Int) = 2 ^ i := by simp
    have e3 : ((256 ^ (2 ^ i) : Nat) : Int) = (256 : Int) ^ (2 ^ i) := by simp
    have hp2 : 1 ≤ 2 ^ i := Nat.one_le_two_pow
    refine ⟨by omega, by omega, q1, by omega, .inl trivial, fun _ n hn => ?_, fun h => absurd h (by decide), fun h => absurd h (by decide)⟩
    have := zkD (n := n) hi2 (by omega)
    omega
  rename_i n4; rw [if_neg n4]
  have two : yC s (p + 1) 2 = yC s (p + 1) (2 ^ 1) := rfl
  have h2i : (2 : Int) ^ 1 = 2 := rfl
  have h256 : (256 : Int) ^ (2 ^ 1) = 65536 := by decide
  obtain ⟨q1, q2, q3⟩ := xx (s := s) (p := p + 1) (i := 1) (by omega)
  rw [← two] at q1 q2 q3
  split at h
  · rename_i e; rw [if_pos e]
    simp only at h ⊢
    have q4 := q3.resolve_left (by omega)
    refine ⟨by omega, by omega, q1, by omega, .inr (.inl trivial), fun h => absurd h (by decide), fun _ n hn => ?_, fun h => absurd h (by decide)⟩
    have := (qz 144 220 n).2
    omega
  rename_i n5; rw [if_neg n5]
  split at h
  · rename_i e; rw [if_pos e]
    simp only at h ⊢
    have q4 := q3.resolve_left (by omega)
    refine ⟨by omega, by omega, q1, by omega, .inr (.inr trivial), fun h => absurd h (by decide), fun h => absurd h (by decide), fun _ n hn => ?_⟩
    have := (qz 128 222 n).2
    omega
  · simp at h
theorem vJ (s : ByteArray) : ∀ (u d p : Nat), PGood s p (vu s u d p)
  | 0, d, p => PGood.fail s p
  | u + 1, d, p => by
    have hbr := xj s p
    have one : ∀ v : Int, -32 ≤ v → v < 128 → (qI v).length = 1 := fun v h h' => by unfold qI; rw [if_pos ⟨h, h'⟩]; rfl
    rw [vu]
    split
    · exact PGood.fail s p
    rename_i h0
    simp only
    split
    · refine ⟨xw, by simp only; omega, fun _ => ⟨by simp only; omega, by simp only; omega, ?_, kX⟩⟩
      simp [Nd.zero, Nd.pb]; omega
    split
    · refine ⟨.mk (by simp) (by simp) (by simp), by simp only; omega, fun _ => ⟨by simp only; omega, by simp only; omega, ?_, .mk (by omega) (by omega) (by simp)⟩⟩
      simp [Nd.pb]; omega
    split
    · refine ⟨zcl _, by simp only; omega, fun _ => ⟨by simp only; omega, by simp only; omega, ?_, zb0 (by omega) (by omega)⟩⟩
      simp only [zd8]
      rw [one _ (by omega) (by omega)]; omega
    split
    · refine ⟨zcl _, by simp only; omega, fun _ => ⟨by simp only; omega, by simp only; omega, ?_, zb0 (by omega) (by omega)⟩⟩
      simp only [zd8]
      rw [one _ (by omega) (by omega)]; omega
    split
    · split
      · exact PGood.fail s p
      · rename_i e hc
        obtain ⟨i, hi, hi3⟩ : ∃ i : Nat, (bAt s p - 204).toNat = i ∧ i ≤ 3 := ⟨_, rfl, by omega⟩
        rw [hi] at hc ⊢
        obtain ⟨q1, q2, q3⟩ := xx (s := s) (p := p + 1) (i := i) hi3
        have e2 : ((2 ^ i : Nat) : Int) = 2 ^ i := by simp
        have e3 : ((256 ^ (2 ^ i) : Nat) : Int) = (256 : Int) ^ (2 ^ i) := by simp
        have hp2 : 1 ≤ 2 ^ i := Nat.one_le_two_pow
        refine ⟨zcl _, by simp only; omega, fun h => ?_⟩
        simp only at h
        have q4 := q3.resolve_left h
        have := kv (n := (yC s (p + 1) (2 ^ i)).1) hi3 (by omega) (by omega)
        refine ⟨by simp only; omega, by simp only; omega, ?_, zb0 (by omega) (by omega)⟩
        simp only [zd8]; omega
    split
    · rename_i e
      obtain ⟨i, hi, hi3⟩ : ∃ i : Nat, (bAt s p - 208).toNat = i ∧ i ≤ 3 := ⟨_, rfl, by omega⟩
      rw [hi]
      obtain ⟨q1, q2, q3⟩ := xx (s := s) (p := p + 1) (i := i) hi3
      have e2 : ((2 ^ i : Nat) : Int) = 2 ^ i := by simp
      have hp2 : 1 ≤ 2 ^ i := Nat.one_le_two_pow
      refine ⟨zcl _, by simp only; omega, fun h => ?_⟩
      simp only at h
      have q4 := q3.resolve_left h
      generalize (yC s (p + 1) (2 ^ i)).1 = v at *
      have hs : -((256 ^ (2 ^ i) / 2 : Nat) : Int) ≤ sx (2 ^ i) v ∧ sx (2 ^ i) v < ((256 ^ (2 ^ i) / 2 : Nat) : Int) := by
        unfold sx
        match i, hi3 with
        | 0, _ => simp at q2 ⊢; omega
        | 1, _ => simp at q2 ⊢; omega
        | 2, _ => simp at q2 ⊢; omega
        | 3, _ => simp at q2 ⊢; omega
      have hpw := kv hi3 hs.1 (by omega)
      have h63 : ((256 ^ (2 ^ i) / 2 : Nat) : Int) ≤ 9223372036854775808 := by
        match i, hi3 with
        | 0, _ | 1, _ | 2, _ | 3, _ => decide +kernel
      refine ⟨by simp only; omega, by simp only; omega, ?_, zb0 (by omega) (by omega)⟩
      simp only [zd8]; omega
    split
    · exact PGood.fail s p
    rename_i hc
    simp only [not_or, not_and, Int.not_lt] at hc
    obtain ⟨c0, c3, c256⟩ := hc
    obtain ⟨g1, g2, g3, g4, g5, gt, gl, gm⟩ := zfi (s := s) (p := p) (by omega) c0
    split
    · rename_i hk
      have hcc := c3 hk
      have hsz : ((s.extract (vF s p).2.toNat ((vF s p).2 + (vF s p).1.2).toNat).size : Int) = (vF s p).1.2 := by
        simp only [ByteArray.size_extract]; omega
      have := gt hk _ hsz
      refine ⟨.mk (by simp) (by simp) (by simp), by simp only; omega, fun _ => ⟨by simp only; omega, by simp only; omega, ?_, .mk (by omega) (by omega) (by simp)⟩⟩
      simp only [zm2, pTx, List.length_append, ya]
      omega
    · rename_i hk
      have hk45 : (vF s p).1.1 = 4 ∨ (vF s p).1.1 = 5 := by omega
      have hn := c256 hk
      obtain ⟨i1, i2, i3⟩ := k7 (vu s u 1) (vu s u (d - 1)) s (vJ s u 1) (vJ s u (d - 1)) (vF s p).1.1 hk45 (vF s p).1.2.toNat [] [] (vF s p).2.toNat (by simp; omega) (by simp; omega) (by simp)
      refine ⟨i1, i2, fun h => ?_⟩
      replace i3 := i3 h (by clear i3; omega)
      obtain ⟨j1, j2, ss, xs, j3, j6, j7, j8⟩ := i3
      refine ⟨by omega, j2, ?_, ?_⟩
      · rw [j6]
        rcases hk45 with hk | hk
        · have e := gl hk xs.length (by omega)
          rw [hk] at j7 ⊢
          rw [if_neg (by decide)] at j7
          simp only [Nd.pb, List.nil_append]
          rw [if_neg (by decide), if_neg (by decide), if_neg (by decide), if_neg (by decide), if_pos trivial, List.length_append]
          omega
        · have e := gm hk xs.length (by omega)
          rw [hk] at j7 ⊢
          rw [if_pos rfl] at j7
          simp only [Nd.pb, List.nil_append]
          rw [if_neg (by decide), if_neg (by decide), if_neg (by decide), if_neg (by decide), if_neg (by decide), List.length_append]
          omega
      · rw [j6]
        exact .mk (by omega) (by omega) (by simpa using j8)
def zow (V : ByteArray → Bool) (s : ByteArray) : Nd × Int :=
  if 65536 < s.size then (Nd.zero, 4)
  else if (vu s (s.size + 1) 8 0).2 = s.size ∧ (vu s (s.size + 1) 8 0).1.validB V 8 = true ∧ ofL (vu s (s.size + 1) 8 0).1.pb = s then ((vu s (s.size + 1) 8 0).1, 0) else (Nd.zero, 4)
theorem znn (V : ByteArray → Bool) (s : ByteArray) : zow V s = kH pkC V s := by
  unfold zow
  by_cases hg : zcQ pkC V s
  · obtain ⟨x, h1, h2, h3, h4⟩ := zbj.1 hg
    have hD : kH pkC V s = (x, 0) := by rw [h4]; exact zbC h1 h2 h3
    have h3' : x.pb.length ≤ 65536 := h3
    have h4' : s = ofL x.pb := h4
    have hz : s.size = x.pb.length := by rw [h4', zx]
    have hr := ze7 (s := s) x (s.size + 1) 8 h1 h2 [] [] (by rw [h4']; simp) (by simp)
    simp only [List.nil_append, List.length_nil] at hr
    rw [hD, if_neg (by omega), hr]
    simp only
    rw [if_pos ⟨by rw [hz], h1, h4'.symm⟩]
  · rw [zfz hg]
    split
    · rfl
    · rename_i hs
      rw [if_neg]
      rintro ⟨h1, h2, h3⟩
      obtain ⟨g1, g2, g3⟩ := vJ s (s.size + 1) 8 0
      obtain ⟨_, _, g5, g6⟩ := g3 (by omega)
      have g5' : (pkC.E (vu s (s.size + 1) 8 0).1).length ≤ 65536 := by
        show (vu s (s.size + 1) 8 0).1.pb.length ≤ 65536
        omega
      exact hg (zbj.2 ⟨_, h2, g6, g5', h3.symm⟩)
end Go.AL
namespace Go.AL
open Go Go.Proofs Go.RowKit
theorem zne : ∀ b : Fin 256, IntKind.i64.wrap (IntKind.u8.wrap ((BitVec.ofInt IntKind.u8.bits (b.val : Int) &&& BitVec.ofInt IntKind.u8.bits 31).toNat : Int)) = ((b.val % 32 : Nat) : Int) := by decide +kernel
theorem zhj {b : Int} (h0 : 0 ≤ b) (h1 : b < 256) : IntKind.i64.wrap (IntKind.u8.wrap ((BitVec.ofInt IntKind.u8.bits b &&& BitVec.ofInt IntKind.u8.bits 31).toNat : Int)) = b % 32 := by
  have := zne ⟨b.toNat, by omega⟩
  simp only at this
  rw [show ((b.toNat : Nat) : Int) = b by omega] at this
  rw [this]; omega
theorem zlP {l : Int} (h0 : 24 ≤ l) (h1 : l ≤ 27) : IntKind.i64.wrap (1 * 2 ^ min (IntKind.u64.wrap (IntKind.i64.wrap (l - 24))).toNat IntKind.i64.bits) = 2 ^ (l - 24).toNat := by
  have : l = 24 ∨ l = 25 ∨ l = 26 ∨ l = 27 := by omega
  rcases this with rfl | rfl | rfl | rfl <;> decide
theorem zfo (L : List UInt8) (j : Nat) (h : j < L.length) : xe ((L.take j).foldl xe 0) (L.getD j default) = (L.take (j + 1)).foldl xe 0 := by
  rw [List.take_add_one, List.getElem?_eq_getElem h, Option.toList_some, List.foldl_append]
  simp [List.getD_eq_getElem?_getD, h]
theorem zl5 (s : ByteArray) (p j : Nat) : bAt s ((p + 1 : Nat) + (j : Int)) = (((s.data.toList.drop (p + 1)).getD j default).toNat : Int) := by
  unfold bAt
  rw [show (((p + 1 : Nat) : Int) + (j : Int)).toNat = p + 1 + j by omega]
  simp [List.getD_eq_getElem?_getD, List.getElem?_drop]
  rfl
set_option maxHeartbeats 8000000 in
theorem zal (s : ByteArray) (hs : s.size ≤ 1000000000) (p : Nat) (hp : p ≤ s.size) : Spec Tryz.prog 182 [.t (.str s), .t (.int .i64 (p : Int))] [] (.tup [.t (.int .i64 (yN s p).1.1), .t (.int .u64 (yN s p).1.2), .t (.int .i64 (yN s p).2)]) [] := by
  have hb := xj s p
  unfold yN
  by_cases h0 : s.size ≤ p
  · rw [if_pos h0]
    refine wI Tryz.func182 ?_
    repeat' (first | refine wC ?_ | refine wK ?_ | ((with_reducible refine zM ?_); refine xi rfl rfl rfl rfl rfl rfl ?_ ?_) | ((with_reducible refine zy ?_); refine zf rfl rfl rfl rfl rfl rfl ?_ ?_ ?_) | refine zd rfl ?_ ?_ <;> intro hc)
    all_goals try (exfalso; omega)
    exact zp (xI rfl rfl rfl rfl rfl rfl rfl) (by simp)
  · rw [if_neg h0]
    by_cases h24 : bAt s p % 32 < 24
    · rw [if_pos h24]
      refine wI Tryz.func182 ?_
      repeat' (first | refine wC ?_ | refine wK ?_ | ((with_reducible refine zM ?_); refine xi rfl rfl rfl rfl rfl rfl ?_ ?_) | ((with_reducible refine zy ?_); refine zf rfl rfl rfl rfl rfl rfl ?_ ?_ ?_) | refine zd rfl ?_ ?_ <;> intro hc)
      all_goals try omega
      all_goals simp only [zhj hb.1 hb.2, k6 hb.1 hb.2] at *
      all_goals try (exfalso; omega)
      exact zp (xI rfl rfl rfl rfl rfl (congrArg (T.int .u64) (ye (by omega) (by omega))) (congrArg (T.int .i64) (zr (by omega) (by omega)))) (by simp)
    · rw [if_neg h24]
      by_cases h27 : 27 < bAt s p % 32
      · rw [if_pos h27]
        refine wI Tryz.func182 ?_
        repeat' (first | refine wC ?_ | refine wK ?_ | ((with_reducible refine zM ?_); refine xi rfl rfl rfl rfl rfl rfl ?_ ?_) | ((with_reducible refine zy ?_); refine zf rfl rfl rfl rfl rfl rfl ?_ ?_ ?_) | refine zd rfl ?_ ?_ <;> intro hc)
        all_goals try omega
        all_goals simp only [zhj hb.1 hb.2, k6 hb.1 hb.2] at *
        all_goals try (exfalso; omega)
        exact zp (xI rfl rfl rfl rfl rfl rfl rfl) (by simp)
      · rw [if_neg h27]
        have hsh := zlP (l := bAt s p % 32) (by omega) (by omega)
        obtain ⟨i, hi, hi3⟩ : ∃ i : Nat, (bAt s p % 32 - 24).toNat = i ∧ i ≤ 3 := ⟨_, rfl, by omega⟩
        have h8 : 2 ^ i ≤ 8 := by
          match i, hi3 with
          | 0, _ | 1, _ | 2, _ | 3, _ => decide
        have e2 : (2 : Int) ^ i = ((2 ^ i : Nat) : Int) := by simp
        have hl9 : IntKind.u64.wrap (IntKind.i64.wrap (bAt s p % 32 - 24)) = bAt s p % 32 - 24 := by rw [zr (by omega) (by omega), ye (by omega) (by omega)]
        rw [hi] at hsh ⊢
        rw [e2] at hsh ⊢
        generalize 2 ^ i = k at *
        by_cases hk : (s.size : Int) - p - 1 < (k : Int)
        · rw [if_pos hk]
          refine wI Tryz.func182 ?_
          repeat' (first | refine wC ?_ | refine wK ?_ | ((with_reducible refine zM ?_); refine xi rfl rfl rfl rfl rfl rfl ?_ ?_) | ((with_reducible refine zy ?_); refine zf rfl rfl rfl rfl rfl rfl ?_ ?_ ?_) | refine zd rfl ?_ ?_ <;> intro hc)
          all_goals try omega
          all_goals simp only [zhj hb.1 hb.2, k6 hb.1 hb.2] at *
          all_goals try rw [hsh] at *
          all_goals try (rw [zr (n := (s.size : Int) - p) (by omega) (by omega), zr (by omega) (by omega)] at *)
          all_goals try (exfalso; omega)
          · rw [hl9]; omega
          · exact zp (xI rfl rfl rfl rfl rfl rfl rfl) (by simp)
        · rw [if_neg hk]
          have hw1 : IntKind.i64.wrap (IntKind.i64.wrap ((s.size : Int) - p) - 1) = (s.size : Int) - p - 1 := by rw [zr (n := (s.size : Int) - p) (by omega) (by omega), zr (by omega) (by omega)]
          obtain ⟨L, hL⟩ : ∃ L, L = s.data.toList.drop (p + 1) := ⟨_, rfl⟩
          have hLl : k ≤ L.length := by rw [hL, List.length_drop, ya]; omega
          refine wI Tryz.func182 ?_
          repeat' (first | refine wC ?_ | refine wK ?_ | ((with_reducible refine zM ?_); refine xi rfl rfl rfl rfl rfl rfl ?_ ?_) | ((with_reducible refine zy ?_); refine zf rfl rfl rfl rfl rfl rfl ?_ ?_ ?_) | refine zd rfl ?_ ?_ <;> intro hc)
          all_goals try omega
          all_goals simp only [zhj hb.1 hb.2, k6 hb.1 hb.2, hsh, hw1] at *
          all_goals try (exfalso; omega)
          · rw [hl9]; omega
          rw [← hL]
          refine zl (za [0, 1, 7, 9, 10, 50, 51] [] rfl rfl) ?_
          refine zz (fun m env st => ∃ (j : Nat) (v : Int), j ≤ k ∧ m = k - j ∧ v = (L.take j).foldl xe 0 ∧ 0 ≤ v ∧ v < 18446744073709551616 ∧
              env = EnvL.get [(0, .t (.str s)), (1, .t (.int .i64 (p : Int))), (7, .t (.int .i64 (bAt s p / 32))), (9, .t (.int .i64 (k : Int))), (10, .t (.int .u64 v)), (50, .t (.int .i64 (k : Int))), (51, .t (.int .i64 (j : Int)))] ∧ st = StO.get [])
            ?_ (n := k) ⟨0, 0, by omega, rfl, rfl, by omega, by omega, rfl, rfl⟩
          rintro m env st ⟨j, v, hj, rfl, hv, v0, v1, rfl, rfl⟩
          by_cases hlt : j < k
          · have hq : IntKind.i64.wrap (IntKind.i64.wrap ((p : Int) + 1) + (j : Int)) = ((p + 1 : Nat) : Int) + (j : Int) := by rw [zr (n := (p : Int) + 1) (by omega) (by omega), zr (by omega) (by omega)]; omega
            have hbd := zl5 s p j
            rw [← hL] at hbd
            have hbl := (L.getD j default).toNat_lt
            have hn := zfo L j (by omega)
            rw [← hv] at hn
            have hu : v * 256 % 18446744073709551616 + ((L.getD j default).toNat : Int) = (L.take (j + 1)).foldl xe 0 := hn
            repeat' (first | refine wC ?_ | refine wK ?_ | ((with_reducible refine zy ?_); refine zf rfl rfl rfl rfl rfl rfl ?_ ?_ ?_) | refine zd rfl ?_ ?_ <;> intro hc)
            all_goals simp only [hq, hbd] at *
            all_goals try omega
            all_goals try (exfalso; omega)
            rw [zmR v0 v1 (b := ((L.getD j default).toNat : Int)) (by omega) (by omega)]
            refine zI (n' := k - (j + 1)) (by omega) (za [0, 1, 7, 9, 10, 50, 51] [] rfl rfl) ⟨j + 1, v * 256 % 18446744073709551616 + ((L.getD j default).toNat : Int), by omega, rfl, hu, by omega, by omega, ?_, rfl⟩
            rw [zr (by omega) (by omega)]; rfl
          · have hje : j = k := by omega
            subst hje
            repeat' (first | refine wC ?_ | refine wK ?_ | ((with_reducible refine zy ?_); refine zf rfl rfl rfl rfl rfl rfl ?_ ?_ ?_) | refine zd rfl ?_ ?_ <;> intro hc)
            all_goals try (exfalso; omega)
            exact zp (xI rfl rfl rfl rfl rfl (by rw [hv]) (by rw [zr (n := (p : Int) + 1) (by omega) (by omega), zr (by omega) (by omega)])) (by simp)
theorem zjr (s : ByteArray) (p j : Nat) : bAt s ((p : Int) + (j : Int)) = (((s.data.toList.drop p).getD j default).toNat : Int) := by
  unfold bAt
  rw [show ((p : Int) + (j : Int)).toNat = p + j by omega]
  simp [List.getD_eq_getElem?_getD, List.getElem?_drop]
  rfl
set_option maxHeartbeats 8000000 in
theorem kW (s : ByteArray) (hs : s.size ≤ 1000000000) (p : Nat) (hp : p ≤ s.size) (k : Nat) (hk0 : k ≤ 8) : Spec Tryz.prog 185 [.t (.str s), .t (.int .i64 (p : Int)), .t (.int .i64 (k : Int))] [] (.tup [.t (.int .u64 (yC s p k).1), .t (.int .i64 (yC s p k).2)]) [] := by
  unfold yC
  by_cases hk : (s.size : Int) - p < (k : Int)
  · rw [if_pos hk]
    refine wI Tryz.func185 ?_
    repeat' (first | refine wC ?_ | refine wK ?_ | refine zd rfl ?_ ?_ <;> intro hc)
    all_goals try (rw [zr (n := (s.size : Int) - p) (by omega) (by omega)] at *)
    all_goals try (exfalso; omega)
    exact zp (zD rfl rfl rfl rfl rfl) (by simp)
  · rw [if_neg hk]
    have hw1 : IntKind.i64.wrap ((s.size : Int) - p) = (s.size : Int) - p := by rw [zr (n := (s.size : Int) - p) (by omega) (by omega)]
    obtain ⟨L, hL⟩ : ∃ L, L = s.data.toList.drop p := ⟨_, rfl⟩
    have hLl : k ≤ L.length := by rw [hL, List.length_drop, ya]; omega
    refine wI Tryz.func185 ?_
    repeat' (first | refine wC ?_ | refine wK ?_ | refine zd rfl ?_ ?_ <;> intro hc)
    all_goals try omega
    all_goals simp only [hw1] at *
    all_goals try (exfalso; omega)
    rw [← hL]
    refine zl (za [0, 1, 2, 8, 16, 17] [] rfl rfl) ?_
    refine zz (fun m env st => ∃ (j : Nat) (v : Int), j ≤ k ∧ m = k - j ∧ v = (L.take j).foldl xe 0 ∧ 0 ≤ v ∧ v < 18446744073709551616 ∧
        env = EnvL.get [(0, .t (.str s)), (1, .t (.int .i64 (p : Int))), (2, .t (.int .i64 (k : Int))), (8, .t (.int .u64 v)), (16, .t (.int .i64 (k : Int))), (17, .t (.int .i64 (j : Int)))] ∧ st = StO.get [])
      ?_ (n := k) ⟨0, 0, by omega, rfl, rfl, by omega, by omega, rfl, rfl⟩
    rintro m env st ⟨j, v, hj, rfl, hv, v0, v1, rfl, rfl⟩
    by_cases hlt : j < k
    · have hq : IntKind.i64.wrap ((p : Int) + (j : Int)) = (p : Int) + (j : Int) := zr (by omega) (by omega)
      have hbd := zjr s p j
      rw [← hL] at hbd
      have hbl := (L.getD j default).toNat_lt
      have hn := zfo L j (by omega)
      rw [← hv] at hn
      have hu : v * 256 % 18446744073709551616 + ((L.getD j default).toNat : Int) = (L.take (j + 1)).foldl xe 0 := hn
      repeat' (first | refine wC ?_ | refine wK ?_ | ((with_reducible refine zy ?_); refine zf rfl rfl rfl rfl rfl rfl ?_ ?_ ?_) | refine zd rfl ?_ ?_ <;> intro hc)
      all_goals simp only [hq, hbd] at *
      all_goals try omega
      all_goals try (exfalso; omega)
      rw [zmR v0 v1 (b := ((L.getD j default).toNat : Int)) (by omega) (by omega)]
      refine zI (n' := k - (j + 1)) (by omega) (za [0, 1, 2, 8, 16, 17] [] rfl rfl) ⟨j + 1, v * 256 % 18446744073709551616 + ((L.getD j default).toNat : Int), by omega, rfl, hu, by omega, by omega, ?_, rfl⟩
      rw [zr (by omega) (by omega)]; rfl
    · have hje : j = k := by omega
      subst hje
      repeat' (first | refine wC ?_ | refine wK ?_ | ((with_reducible refine zy ?_); refine zf rfl rfl rfl rfl rfl rfl ?_ ?_ ?_) | refine zd rfl ?_ ?_ <;> intro hc)
      all_goals try (exfalso; omega)
      rw [← hv]
      exact zp (zD rfl rfl rfl rfl (congrArg (T.int .i64) (zr (by omega) (by omega)))) (by simp)
theorem zn7 {c : Int} (h0 : 217 ≤ c) (h1 : c ≤ 219) : IntKind.i64.wrap (1 * 2 ^ min (IntKind.u64.wrap (IntKind.i64.wrap (c - 217))).toNat IntKind.i64.bits) = ((2 ^ (c - 217).toNat : Nat) : Int) := by
  have : c = 217 ∨ c = 218 ∨ c = 219 := by omega
  rcases this with rfl | rfl | rfl <;> decide
set_option maxHeartbeats 8000000 in
theorem zjg (s : ByteArray) (hs : s.size ≤ 1000000000) (p : Nat) (hp : p < s.size) : Spec Tryz.prog 186 [.t (.str s), .t (.int .i64 (p : Int))] [] (.tup [.t (.int .i64 (vF s p).1.1), .t (.int .i64 (vF s p).1.2), .t (.int .i64 (vF s p).2)]) [] := by
  have hb := xj s p
  unfold vF
  have hF : ∀ k : Nat, k ≤ 8 → Spec Tryz.prog 185 [.t (.str s), .t (.int .i64 (IntKind.i64.wrap ((p : Int) + 1))), .t (.int .i64 (k : Int))] [] (.tup [.t (.int .u64 (yC s (p + 1) k).1), .t (.int .i64 (yC s (p + 1) k).2)]) [] := fun k hk => by
    rw [zr (by omega) (by omega)]; exact kW s hs (p + 1) (by omega) k hk
  have g1 := xx (s := s) (p := p + 1) (i := 1) (by omega)
  have h2 : Spec Tryz.prog 185 [.t (.str s), .t (.int .i64 (IntKind.i64.wrap ((p : Int) + 1))), .t (.int .i64 2)] [] (.tup [.t (.int .u64 (yC s (p + 1) 2).1), .t (.int .i64 (yC s (p + 1) 2).2)]) [] := hF 2 (by omega)
  rw [show (2 : Nat) ^ 1 = 2 from rfl] at g1
  have e2 : (256 : Int) ^ 2 = 65536 := by decide
  rw [e2] at g1
  have hsz : ∀ i, i ≤ 2 → 0 ≤ (yC s (p + 1) (2 ^ i)).1 ∧ (yC s (p + 1) (2 ^ i)).1 < 4294967296 := fun i hi => by
    have := xx (s := s) (p := p + 1) (i := i) (by omega)
    have h3 : (256 : Int) ^ (2 ^ i) ≤ 4294967296 := by
      match i, hi with
      | 0, _ | 1, _ | 2, _ => decide
    omega
  generalize yC s (p + 1) 2 = y at h2 g1
  obtain ⟨y1, y2⟩ := y
  simp only at h2 g1
  obtain ⟨c, hc0⟩ : ∃ c, c = bAt s (p : Int) := ⟨_, rfl⟩
  have hC : IntKind.i64.wrap (bAt s (p : Int)) = c := by rw [hc0]; exact zr (by omega) (by omega)
  rw [← hc0] at hb ⊢
  by_cases h217 : 217 ≤ c ∧ c ≤ 219
  · have h3 := hF (2 ^ (c - 217).toNat) (by
      have : c = 217 ∨ c = 218 ∨ c = 219 := by omega
      rcases this with rfl | rfl | rfl <;> decide)
    rw [← zn7 h217.1 h217.2] at h3
    have hz := hsz (c - 217).toNat (by omega)
    simp only
    rw [if_neg (by omega), if_neg (by omega), if_neg (by omega), if_pos h217]
    generalize yC s (p + 1) (2 ^ (c - 217).toNat) = z at h3 hz ⊢
    obtain ⟨z1, z2⟩ := z
    simp only at h3 hz ⊢
    clear hF hsz
    refine wI Tryz.func186 ?_
    repeat' (first | refine wC ?_ | refine wK ?_ | ((with_reducible refine zy ?_); refine zf rfl rfl rfl rfl rfl rfl ?_ ?_ ?_))
    all_goals try omega
    rw [hC]
    repeat' (first | refine wC ?_ | (exfalso; omega) | refine wK ?_ | ((with_reducible refine zM ?_); refine xi rfl rfl rfl rfl rfl rfl ?_ ?_) | ((with_reducible refine ze ?_); refine wL h3 ?_) | refine zd rfl ?_ ?_ <;> intro hc | refine zj rfl ?_ ?_ <;> intro hc)
    · rw [zr (n := c - 217) (by omega) (by omega), ye (by omega) (by omega)]; omega
    · exact zp (xI rfl rfl rfl rfl rfl (congrArg (T.int .i64) (zr (by omega) (by omega))) rfl) (by simp)
  · have wp : IntKind.i64.wrap ((p : Int) + 1) = (p : Int) + 1 := zr (by omega) (by omega)
    have h9 := hF 2 (by omega)
    clear hF hsz
    simp only
    rw [if_neg h217]
    generalize hR : (if 160 ≤ c ∧ c < 192 then ((3, c - 160), (p : Int) + 1) else if 144 ≤ c ∧ c < 160 then ((4, c - 144), (p : Int) + 1) else if 128 ≤ c ∧ c < 144 then ((5, c - 128), (p : Int) + 1) else if c = 220 then ((4, y1), y2) else if c = 222 then ((5, y1), y2) else ((0, 0), -1) : (Int × Int) × Int) = R
    refine wI Tryz.func186 ?_
    repeat' (first | refine wC ?_ | refine wK ?_ | ((with_reducible refine zy ?_); refine zf rfl rfl rfl rfl rfl rfl ?_ ?_ ?_))
    all_goals try omega
    rw [hC]
    repeat' (first | refine wC ?_ | (exfalso; omega) | refine wK ?_ | ((with_reducible refine ze ?_); refine wL h2 ?_) | refine zd rfl ?_ ?_ <;> intro hc | refine zj rfl ?_ ?_ <;> intro hc)
    all_goals
      repeat (first | rw [if_pos (by omega)] at hR | rw [if_neg (by omega)] at hR)
      subst hR
      refine zp (xI rfl rfl rfl rfl ?_ ?_ ?_) (by simp) <;> first | rfl | exact congrArg (T.int .i64) (zr (by omega) (by omega))
set_option maxHeartbeats 8000000 in
theorem zdr (s : ByteArray) (hs : s.size ≤ 1000000000) (p : Nat) (hp : p ≤ s.size) : Spec Tryz.prog 184 [.t (.str s), .t (.int .i64 (p : Int))] [] (.tup [.t (.str (xG s p).1), .t (.int .i64 (xG s p).2)]) [] := by
  have hR := zal s hs p hp
  have hlow := zfs s p
  have hgd := vM (s := s) (p := p)
  unfold xG
  generalize yN s p = h at hR hlow hgd ⊢
  obtain ⟨⟨m, n⟩, q⟩ := h
  simp only at hR hlow hgd ⊢
  by_cases hq : q < 0
  · rw [if_pos (.inl hq)]
    refine wI Tryz.func184 ?_
    repeat' (first | refine wC ?_ | refine wK ?_ | ((with_reducible refine vB ?_); refine yx rfl rfl ⟨_, rfl⟩ ⟨_, rfl⟩ rfl rfl rfl ?_ ?_ ?_ ?_) | ((with_reducible refine ze ?_); refine wL hR ?_) | refine zd rfl ?_ ?_ <;> intro hc | refine zj rfl ?_ ?_ <;> intro hc | refine zN rfl ?_ ?_ <;> intro hc)
    all_goals try (exact absurd hq ‹¬ q < 0›)
    exact zp (zD rfl rfl rfl rfl rfl) (by simp)
  · obtain ⟨g1, g2, g3, g4, g5, g6, _⟩ := hgd (by omega)
    clear hgd
    have hw : IntKind.u64.wrap (IntKind.i64.wrap ((s.size : Int) - q)) = (s.size : Int) - q := by rw [zr (by omega) (by omega), ye (by omega) (by omega)]
    by_cases hm : m = 3
    · subst hm
      by_cases hn : (s.size : Int) - q < n
      · rw [if_pos (.inr (.inr hn))]
        refine wI Tryz.func184 ?_
        repeat' (first | refine wC ?_ | refine wK ?_ | ((with_reducible refine vB ?_); refine yx rfl rfl ⟨_, rfl⟩ ⟨_, rfl⟩ rfl rfl rfl ?_ ?_ ?_ ?_) | ((with_reducible refine ze ?_); refine wL hR ?_) | refine zd rfl ?_ ?_ <;> intro hc | refine zj rfl ?_ ?_ <;> intro hc)
        all_goals simp only [hw] at *
        all_goals try (exfalso; omega)
        all_goals exact zp (zD rfl rfl rfl rfl rfl) (by simp)
      · rw [if_neg (by omega)]
        have hw2 : IntKind.i64.wrap (q + IntKind.i64.wrap n) = q + n := by rw [zr (n := n) (by omega) (by omega), zr (by omega) (by omega)]
        refine wI Tryz.func184 ?_
        repeat' (first | refine wC ?_ | refine wK ?_ | ((with_reducible refine vB ?_); refine yx rfl rfl ⟨_, rfl⟩ ⟨_, rfl⟩ rfl rfl rfl ?_ ?_ ?_ ?_) | ((with_reducible refine ze ?_); refine wL hR ?_) | refine zd rfl ?_ ?_ <;> intro hc | refine zj rfl ?_ ?_ <;> intro hc)
        all_goals simp only [hw, hw2] at *
        all_goals try omega
        all_goals try (exfalso; omega)
        all_goals exact zp (zD rfl rfl rfl rfl rfl) (by simp)
    · rw [if_pos (.inr (.inl hm))]
      refine wI Tryz.func184 ?_
      repeat' (first | refine wC ?_ | refine wK ?_ | ((with_reducible refine vB ?_); refine yx rfl rfl ⟨_, rfl⟩ ⟨_, rfl⟩ rfl rfl rfl ?_ ?_ ?_ ?_) | ((with_reducible refine ze ?_); refine wL hR ?_) | refine zd rfl ?_ ?_ <;> intro hc | refine zj rfl ?_ ?_ <;> intro hc | refine zN rfl ?_ ?_ <;> intro hc)
      all_goals try (exact absurd ‹m = 3› hm)
      all_goals exact zp (zD rfl rfl rfl rfl rfl) (by simp)
set_option maxHeartbeats 2000000 in
theorem y6 (v : Int) : Spec Tryz.prog 183 [.t (.int .i64 v)] [] (.t (.agg [.int .i64 2, .bool false, .int .i64 v, .str ⟨#[]⟩, .sl 1 [], .sl 6 []])) [] := by
  refine wI Tryz.func183 ?_
  repeat' (first | refine wC ?_ | refine wK ?_ | fail)
  exact wD
set_option maxHeartbeats 2000000 in
theorem k5 (t : ByteArray) : Spec Tryz.prog 40 [.t (.str t)] [] (.t (.agg [.int .i64 3, .bool false, .int .i64 0, .str t, .sl 1 [], .sl 6 []])) [] := by
  refine wI Tryz.func40 ?_
  repeat' (first | refine wC ?_ | refine wK ?_ | fail)
  exact wD
set_option maxHeartbeats 16000000 in
theorem zlr (s : ByteArray) (hs : s.size ≤ 1000000000) (d : Nat) (hd : d ≤ 1000) (f : Nat → Nd × Int) (hf : ∀ p, VGood s p (f p))
    (IH : ∀ q : Nat, q ≤ s.size → Spec Tryz.prog 110 [.t (.str s), .t (.int .i64 (q : Int)), .t (.int .i64 (d : Int))] [] (.tup [.t (f q).1.toT, .t (.int .i64 (f q).2)]) [])
    (p : Nat) (hp : p < s.size) (b : Int) (hb : bAt s p = b) (hb1 : b ≠ 244) (hb2 : b ≠ 245) (hb3 : b ≠ 246) (m : Int) (hm : m = 4 ∨ m = 5) (n : Nat) (hn : n ≤ 256) (q : Nat) (hq : q ≤ s.size) (hR : yN s p = ((m, (n : Int)), (q : Int))) (res : Nd × Int) (hres : res = yZ f s m n [] [] q) :
    Spec Tryz.prog 110 [.t (.str s), .t (.int .i64 (p : Int)), .t (.int .i64 ((d + 1 : Nat) : Int))] [] (.tup [.t res.1.toT, .t (.int .i64 res.2)]) [] := by
  have hR0 := zal s hs p (by omega)
  rw [hR] at hR0
  simp only at hR0
  have hN : ∀ (v : Int) (q : Nat), v = (d : Int) → q ≤ s.size → Spec Tryz.prog 110 [.t (.str s), .t (.int .i64 (q : Int)), .t (.int .i64 v)] [] (.tup [.t (f q).1.toT, .t (.int .i64 (f q).2)]) [] := fun v q hv hq => by subst hv; exact IH q hq
  rcases hm with rfl | rfl
  · refine wIG Tryz.func110 ?_
    repeat' (first | refine wC ?_ | refine wK ?_ | ((with_reducible refine zy ?_); refine zf rfl rfl rfl rfl rfl rfl ?_ ?_ ?_) | ((with_reducible refine ze ?_); refine wL hR0 ?_) | refine zd rfl ?_ ?_ <;> intro hc)
    all_goals try (exfalso; omega)
    all_goals try omega
    rw [zr (n := (n : Int)) (by omega) (by omega)]
    refine zl (zH (r := .loc 13) 5 (.loc 900) 30 6 rfl rfl rfl rfl rfl) ?_
    refine zl (zH (r := .loc 13) 4 (.loc 901) 9 1 rfl rfl rfl rfl rfl) ?_
    refine zl (za [0, 2, 6, 8, 10, 13, 114, 115] [.loc 6, .loc 13, .loc 900, .loc 901] rfl rfl) ?_
    refine zz (fun c env st => ∃ (j : Nat) (ns : List ByteArray) (is : List Nd) (q : Nat), j ≤ n ∧ c = n - j ∧ ns.length + (n - j) ≤ 256 ∧ is.length + (n - j) ≤ 256 ∧ q ≤ s.size ∧ res = yZ f s 4 (n - j) ns is q ∧
        env = EnvL.get [(0, .t (.str s)), (2, .t (.int .i64 ((d + 1 : Nat) : Int))), (6, .ref (.loc 6) 0 0 0), (8, .t (.int .i64 4)), (10, .t (.int .i64 (q : Int))), (13, .ref (.loc 13) 0 0 0), (114, .t (.int .i64 (n : Int))), (115, .t (.int .i64 (j : Int)))] ∧
        st = StO.get [(.loc 6, some (.var 30 [.t (.int .i64 0), .t (.bool false), .t (.int .i64 0), .t (.str ⟨#[]⟩), .t .nilsl, .t .nilsl])), (.loc 13, some (.var 30 [.t (.int .i64 4), .t (.bool false), .t (.int .i64 0), .t (.str ⟨#[]⟩), .row (.loc 901), .row (.loc 900)])), (.loc 900, some (.slt 30 6 (is.map Nd.toT))), (.loc 901, some (.slt 9 1 (ns.map .str)))])
      ?_ (n := n) ⟨0, [], [], q, by omega, rfl, by simp; omega, by simp; omega, hq, hres, rfl, rfl⟩
    clear hres hR0 hR hq
    rintro c env st ⟨j, ns, is, q, hj, rfl, hns, his, hq, hi, rfl, rfl⟩
    by_cases hlt : j < n
    · obtain ⟨c, hc⟩ : ∃ c, n - j = c + 1 := ⟨n - j - 1, by omega⟩
      rw [hc, yZ] at hi
      rw [if_neg (by decide)] at hi
      replace hN := hN (IntKind.i64.wrap (((d + 1 : Nat) : Int) - 1)) q (by rw [zr (by omega) (by omega)]; omega) hq
      obtain ⟨g1, g2, g3⟩ := hf q
      generalize f q = y at hi hN g1 g2 g3
      obtain ⟨x, r⟩ := y
      have hT0 := x.toT_full
      simp only at hN hi g1 g2 g3
      rw [hT0] at hN
      by_cases hr : r < 0
      · rw [if_pos hr] at hi
        rw [hi]
        simp only
        rw [zJ]
        have hV : Spec Tryz.prog 110 [.t (.str s), .t (.int .i64 ((q : Nat) : Int)), .t (.int .i64 (IntKind.i64.wrap (((d + 1 : Nat) : Int) - 1)))] [] (.tup [.t (.agg [.int .i64 x.kind, .bool x.bool, .int .i64 x.num, .str x.text, .sl 1 (x.names.map .str), .sl 6 (x.items.map Nd.toT)]), .t (.int .i64 r)]) [] := hN
        repeat' (first | refine wC ?_ | refine wK ?_ | ((with_reducible refine zw ?_); refine zh rfl rfl rfl rfl rfl rfl rfl rfl rfl rfl ?_ ?_ ?_) | ((with_reducible refine ze ?_); refine wL hV ?_) | refine zd rfl ?_ ?_ <;> intro hc)
        all_goals try (exfalso; omega)
        all_goals try (simp only [List.length_map, List.length_cons, List.length_nil]; omega)
        refine zL (zp ?_ (by simp)); refine zF rfl rfl rfl inferInstance rfl inferInstance rfl ?_ ?_; exact TLe.av wT; exact AVLE.refl _
      · rw [if_neg hr] at hi
        obtain ⟨k1, k2, _, _⟩ := g3 (by omega)
        have hV : Spec Tryz.prog 110 [.t (.str s), .t (.int .i64 ((q : Nat) : Int)), .t (.int .i64 (IntKind.i64.wrap (((d + 1 : Nat) : Int) - 1)))] [] (.tup [.t (.agg [.int .i64 x.kind, .bool x.bool, .int .i64 x.num, .str x.text, .sl 1 (x.names.map .str), .sl 6 (x.items.map Nd.toT)]), .t (.int .i64 r)]) [] := hN
        repeat' (first | refine wC ?_ | refine wK ?_ | ((with_reducible refine zw ?_); refine zh rfl rfl rfl rfl rfl rfl rfl rfl rfl rfl ?_ ?_ ?_) | ((with_reducible refine ze ?_); refine wL hV ?_) | refine zd rfl ?_ ?_ <;> intro hc)
        all_goals try (exfalso; omega)
        all_goals try (simp only [List.length_map, List.length_cons, List.length_nil]; omega)
        refine zI (n' := n - (j + 1)) (by omega) ((za [0, 2, 6, 8, 10, 13, 114, 115] [.loc 6, .loc 13, .loc 150, .loc 901] rfl rfl).trans (zg (.loc 150) (.loc 900) rfl rfl rfl rfl)) ⟨j + 1, ns, is ++ [x], r.toNat, by omega, rfl, by omega, by simp only [List.length_append, List.length_cons, List.length_nil]; omega, by omega, by rw [hi, show n - (j + 1) = c by omega], ?_, ?_⟩
        · rw [zr (by omega) (by omega), show ((r.toNat : Nat) : Int) = r by omega]; rfl
        · rw [List.map_append, List.map_singleton, hT0]; rfl
    · have hje : j = n := by omega
      subst hje
      rw [Nat.sub_self, yZ] at hi
      repeat' (first | refine wC ?_ | refine wK ?_ | refine zd rfl ?_ ?_ <;> intro hc)
      all_goals try (exfalso; omega)
      rw [hi]
      simp only
      rw [Nd.toT_eq]
      refine zv (za [6, 7] [.loc 6, .loc 900, .loc 901] rfl rfl) ?_
      refine zv (zB (id := .loc 900) rfl rfl rfl) ?_; refine zv (zB (id := .loc 901) rfl rfl rfl) ?_
      refine zL (zp ?_ (by simp)); refine zF rfl rfl rfl inferInstance rfl inferInstance rfl ?_ ?_; exact TLe.av wT; exact AVLE.refl _
  · refine wIG Tryz.func110 ?_
    repeat' (first | refine wC ?_ | refine wK ?_ | ((with_reducible refine zy ?_); refine zf rfl rfl rfl rfl rfl rfl ?_ ?_ ?_) | ((with_reducible refine ze ?_); refine wL hR0 ?_) | refine zd rfl ?_ ?_ <;> intro hc)
    all_goals try (exfalso; omega)
    all_goals try omega
    rw [zr (n := (n : Int)) (by omega) (by omega)]
    refine zl (zH (r := .loc 13) 5 (.loc 900) 30 6 rfl rfl rfl rfl rfl) ?_
    refine zl (zH (r := .loc 13) 4 (.loc 901) 9 1 rfl rfl rfl rfl rfl) ?_
    refine zl (za [0, 2, 6, 8, 10, 13, 114, 115] [.loc 6, .loc 13, .loc 900, .loc 901] rfl rfl) ?_
    refine zz (fun c env st => ∃ (j : Nat) (ns : List ByteArray) (is : List Nd) (q : Nat), j ≤ n ∧ c = n - j ∧ ns.length + (n - j) ≤ 256 ∧ is.length + (n - j) ≤ 256 ∧ q ≤ s.size ∧ res = yZ f s 5 (n - j) ns is q ∧
        env = EnvL.get [(0, .t (.str s)), (2, .t (.int .i64 ((d + 1 : Nat) : Int))), (6, .ref (.loc 6) 0 0 0), (8, .t (.int .i64 5)), (10, .t (.int .i64 (q : Int))), (13, .ref (.loc 13) 0 0 0), (114, .t (.int .i64 (n : Int))), (115, .t (.int .i64 (j : Int)))] ∧
        st = StO.get [(.loc 6, some (.var 30 [.t (.int .i64 0), .t (.bool false), .t (.int .i64 0), .t (.str ⟨#[]⟩), .t .nilsl, .t .nilsl])), (.loc 13, some (.var 30 [.t (.int .i64 5), .t (.bool false), .t (.int .i64 0), .t (.str ⟨#[]⟩), .row (.loc 901), .row (.loc 900)])), (.loc 900, some (.slt 30 6 (is.map Nd.toT))), (.loc 901, some (.slt 9 1 (ns.map .str)))])
      ?_ (n := n) ⟨0, [], [], q, by omega, rfl, by simp; omega, by simp; omega, hq, hres, rfl, rfl⟩
    clear hres hR0 hR hq
    rintro c env st ⟨j, ns, is, q, hj, rfl, hns, his, hq, hi, rfl, rfl⟩
    by_cases hlt : j < n
    · obtain ⟨c, hc⟩ : ∃ c, n - j = c + 1 := ⟨n - j - 1, by omega⟩
      rw [hc, yZ] at hi
      rw [if_pos rfl] at hi
      have hT := zdr s hs q hq
      have hg := kn (s := s) (p := q)
      have hl := zfK s q
      generalize xG s q = z at hi hT hg hl
      obtain ⟨t, u⟩ := z
      simp only at hi hT hg hl
      by_cases hu : u < 0
      · rw [if_pos hu] at hi
        rw [hi]
        simp only
        rw [zJ]
        clear hN hf
        repeat' (first | refine wC ?_ | refine wK ?_ | ((with_reducible refine zw ?_); refine zh rfl rfl rfl rfl rfl rfl rfl rfl rfl rfl ?_ ?_ ?_) | ((with_reducible refine ze ?_); refine wL hT ?_) | refine zd rfl ?_ ?_ <;> intro hc)
        all_goals try (exfalso; omega)
        refine zL (zp ?_ (by simp)); refine zF rfl rfl rfl inferInstance rfl inferInstance rfl ?_ ?_; exact TLe.av wT; exact AVLE.refl _
      · rw [if_neg hu] at hi
        obtain ⟨t1, t2, _⟩ := hg (by omega)
        clear hg
        obtain ⟨v, rfl⟩ : ∃ v : Nat, u = v := ⟨u.toNat, by omega⟩
        rw [Int.toNat_natCast] at hi
        replace hN := hN (IntKind.i64.wrap (((d + 1 : Nat) : Int) - 1)) v (by rw [zr (by omega) (by omega)]; omega) (by omega)
        obtain ⟨g1, g2, g3⟩ := hf v
        generalize f v = y at hi hN g1 g2 g3
        obtain ⟨x, r⟩ := y
        have hT0 := x.toT_full
        simp only at hN hi g1 g2 g3
        rw [hT0] at hN
        by_cases hr : r < 0
        · rw [if_pos hr] at hi
          rw [hi]
          simp only
          rw [zJ]
          have hV : Spec Tryz.prog 110 [.t (.str s), .t (.int .i64 ((v : Nat) : Int)), .t (.int .i64 (IntKind.i64.wrap (((d + 1 : Nat) : Int) - 1)))] [] (.tup [.t (.agg [.int .i64 x.kind, .bool x.bool, .int .i64 x.num, .str x.text, .sl 1 (x.names.map .str), .sl 6 (x.items.map Nd.toT)]), .t (.int .i64 r)]) [] := hN
          repeat' (first | refine wC ?_ | refine wK ?_ | ((with_reducible refine zw ?_); refine zh rfl rfl rfl rfl rfl rfl rfl rfl rfl rfl ?_ ?_ ?_) | ((with_reducible refine ze ?_); first | refine wL hT ?_ | refine wL hV ?_) | refine zd rfl ?_ ?_ <;> intro hc)
          all_goals try (exfalso; omega)
          all_goals try (simp only [List.length_map, List.length_cons, List.length_nil]; omega)
          refine zL (zp ?_ (by simp)); refine zF rfl rfl rfl inferInstance rfl inferInstance rfl ?_ ?_; exact TLe.av wT; exact AVLE.refl _
        · rw [if_neg hr] at hi
          obtain ⟨k1, k2, _, _⟩ := g3 (by omega)
          have hV : Spec Tryz.prog 110 [.t (.str s), .t (.int .i64 ((v : Nat) : Int)), .t (.int .i64 (IntKind.i64.wrap (((d + 1 : Nat) : Int) - 1)))] [] (.tup [.t (.agg [.int .i64 x.kind, .bool x.bool, .int .i64 x.num, .str x.text, .sl 1 (x.names.map .str), .sl 6 (x.items.map Nd.toT)]), .t (.int .i64 r)]) [] := hN
          repeat' (first | refine wC ?_ | refine wK ?_ | ((with_reducible refine zw ?_); refine zh rfl rfl rfl rfl rfl rfl rfl rfl rfl rfl ?_ ?_ ?_) | ((with_reducible refine ze ?_); first | refine wL hT ?_ | refine wL hV ?_) | refine zd rfl ?_ ?_ <;> intro hc)
          all_goals try (exfalso; omega)
          all_goals try (simp only [List.length_map, List.length_cons, List.length_nil]; omega)
          refine zI (n' := n - (j + 1)) (by omega) ((za [0, 2, 6, 8, 10, 13, 114, 115] [.loc 6, .loc 13, .loc 150, .loc 132] rfl rfl).trans ((zg (.loc 150) (.loc 900) rfl rfl rfl rfl).trans (zg (.loc 132) (.loc 901) rfl rfl rfl rfl))) ⟨j + 1, ns ++ [t], is ++ [x], r.toNat, by omega, rfl, by simp only [List.length_append, List.length_cons, List.length_nil]; omega, by simp only [List.length_append, List.length_cons, List.length_nil]; omega, by omega, by rw [hi, show n - (j + 1) = c by omega], ?_, ?_⟩
          · rw [zr (by omega) (by omega), show ((r.toNat : Nat) : Int) = r by omega]; rfl
          · rw [List.map_append, List.map_append, List.map_singleton, List.map_singleton, hT0]; rfl
    · have hje : j = n := by omega
      subst hje
      rw [Nat.sub_self, yZ] at hi
      repeat' (first | refine wC ?_ | refine wK ?_ | refine zd rfl ?_ ?_ <;> intro hc)
      all_goals try (exfalso; omega)
      rw [hi]
      simp only
      rw [Nd.toT_eq]
      refine zv (za [6, 7] [.loc 6, .loc 900, .loc 901] rfl rfl) ?_
      refine zv (zB (id := .loc 900) rfl rfl rfl) ?_; refine zv (zB (id := .loc 901) rfl rfl rfl) ?_
      refine zL (zp ?_ (by simp)); refine zF rfl rfl rfl inferInstance rfl inferInstance rfl ?_ ?_; exact TLe.av wT; exact AVLE.refl _
set_option maxHeartbeats 16000000 in
theorem zgu (s : ByteArray) (hs : s.size ≤ 1000000000) (d : Int) (hd0 : 1 ≤ d) (hd : d ≤ 1000) (nm f : Nat → Nd × Int) (hn : ∀ p, PGood s p (nm p)) (hf : ∀ p, PGood s p (f p)) (p0 : Nat)
    (IHn : ∀ q : Nat, p0 < q → q ≤ s.size → Spec Tryz.prog 111 [.t (.str s), .t (.int .i64 (q : Int)), .t (.int .i64 1)] [] (.tup [.t (nm q).1.toT, .t (.int .i64 (nm q).2)]) [])
    (IHf : ∀ q : Nat, p0 < q → q ≤ s.size → Spec Tryz.prog 111 [.t (.str s), .t (.int .i64 (q : Int)), .t (.int .i64 (d - 1))] [] (.tup [.t (f q).1.toT, .t (.int .i64 (f q).2)]) [])
    (k : Int) (hk : k = 4 ∨ k = 5) (n : Nat) (hn2 : n ≤ 256) (q : Nat) (hq0 : p0 < q) (hq : q ≤ s.size) (res : Nd × Int) (hres : res = yY nm f k n [] [] q) :
    Spec Tryz.prog 187 [.t (.str s), .t (.int .i64 (q : Int)), .t (.int .i64 d), .t (.int .i64 k), .t (.int .i64 (n : Int))] [] (.tup [.t res.1.toT, .t (.int .i64 res.2)]) [] := by
  rw [← zr (n := d - 1) (by omega) (by omega)] at IHf
  rcases hk with rfl | rfl
  · refine wIG Tryz.func187 ?_
    repeat' (first | refine wC ?_ | refine wK ?_ | fail)
    refine zl (zH (r := .loc 12) 5 (.loc 900) 30 6 rfl rfl rfl rfl rfl) ?_
    refine zl (zH (r := .loc 12) 4 (.loc 901) 9 1 rfl rfl rfl rfl rfl) ?_
    refine zl (za [0, 1, 2, 3, 10, 12, 19, 20] [.loc 10, .loc 12, .loc 900, .loc 901] rfl rfl) ?_
    refine zz (fun c env st => ∃ (j : Nat) (ns : List ByteArray) (is : List Nd) (q : Nat), j ≤ n ∧ c = n - j ∧ ns.length + (n - j) ≤ 256 ∧ is.length + (n - j) ≤ 256 ∧ p0 < q ∧ q ≤ s.size ∧ res = yY nm f 4 (n - j) ns is q ∧
        env = EnvL.get [(0, .t (.str s)), (1, .t (.int .i64 (q : Int))), (2, .t (.int .i64 d)), (3, .t (.int .i64 4)), (10, .ref (.loc 10) 0 0 0), (12, .ref (.loc 12) 0 0 0), (19, .t (.int .i64 (n : Int))), (20, .t (.int .i64 (j : Int)))] ∧
        st = StO.get [(.loc 10, some (.var 30 [.t (.int .i64 0), .t (.bool false), .t (.int .i64 0), .t (.str ⟨#[]⟩), .t .nilsl, .t .nilsl])), (.loc 12, some (.var 30 [.t (.int .i64 4), .t (.bool false), .t (.int .i64 0), .t (.str ⟨#[]⟩), .row (.loc 901), .row (.loc 900)])), (.loc 900, some (.slt 30 6 (is.map Nd.toT))), (.loc 901, some (.slt 9 1 (ns.map .str)))])
      ?_ (n := n) ⟨0, [], [], q, by omega, rfl, by simp; omega, by simp; omega, hq0, hq, hres, rfl, rfl⟩
    clear hres hq hq0 IHn
    rintro c env st ⟨j, ns, is, q, hj, rfl, hns, his, hq0, hq, hi, rfl, rfl⟩
    by_cases hlt : j < n
    · obtain ⟨c, hc⟩ : ∃ c, n - j = c + 1 := ⟨n - j - 1, by omega⟩
      rw [hc, yY] at hi
      rw [if_neg (by decide)] at hi
      replace IHf := IHf q hq0 hq
      obtain ⟨g1, g2, g3⟩ := hf q
      generalize f q = y at hi IHf g1 g2 g3
      obtain ⟨x, r⟩ := y
      have hT0 := x.toT_full
      simp only at IHf hi g1 g2 g3
      rw [hT0] at IHf
      by_cases hr : r < 0
      · rw [if_pos hr] at hi
        rw [hi]
        simp only
        rw [zJ]
        repeat' (first | refine wC ?_ | (exfalso; omega) | refine wK ?_ | ((with_reducible refine ze ?_); refine wL IHf ?_) | refine zd rfl ?_ ?_ <;> intro hc)
        all_goals try (simp only [List.length_map, List.length_cons, List.length_nil]; omega)
        refine zL (zp ?_ (by simp)); refine zF rfl rfl rfl inferInstance rfl inferInstance rfl ?_ ?_; exact TLe.av wT; exact AVLE.refl _
      · rw [if_neg hr] at hi
        obtain ⟨k1, k2, _, _⟩ := g3 (by omega)
        repeat' (first | refine wC ?_ | (exfalso; omega) | refine wK ?_ | ((with_reducible refine zw ?_); refine zh rfl rfl rfl rfl rfl rfl rfl rfl rfl rfl ?_ ?_ ?_) | ((with_reducible refine ze ?_); refine wL IHf ?_) | refine zd rfl ?_ ?_ <;> intro hc)
        all_goals try (simp only [List.length_map, List.length_cons, List.length_nil]; omega)
        refine zI (n' := n - (j + 1)) (by omega) ((za [0, 1, 2, 3, 10, 12, 19, 20] [.loc 10, .loc 12, .loc 61, .loc 901] rfl rfl).trans (zg (.loc 61) (.loc 900) rfl rfl rfl rfl)) ⟨j + 1, ns, is ++ [x], r.toNat, by omega, rfl, by omega, by simp only [List.length_append, List.length_cons, List.length_nil]; omega, by omega, by omega, by rw [hi, show n - (j + 1) = c by omega], ?_, ?_⟩
        · rw [zr (by omega) (by omega), show ((r.toNat : Nat) : Int) = r by omega]; rfl
        · rw [List.map_append, List.map_singleton, hT0]; rfl
    · have hje : j = n := by omega
      subst hje
      rw [Nat.sub_self, yY] at hi
      repeat' (first | refine wC ?_ | refine wK ?_ | refine zd rfl ?_ ?_ <;> intro hc)
      all_goals try (exfalso; omega)
      rw [hi]
      simp only
      rw [Nd.toT_eq]
      refine zv (za [10, 11] [.loc 10, .loc 900, .loc 901] rfl rfl) ?_
      refine zv (zB (id := .loc 900) rfl rfl rfl) ?_; refine zv (zB (id := .loc 901) rfl rfl rfl) ?_
      refine zL (zp ?_ (by simp)); refine zF rfl rfl rfl inferInstance rfl inferInstance rfl ?_ ?_; exact TLe.av wT; exact AVLE.refl _
  · refine wIG Tryz.func187 ?_
    repeat' (first | refine wC ?_ | refine wK ?_ | fail)
    refine zl (zH (r := .loc 12) 5 (.loc 900) 30 6 rfl rfl rfl rfl rfl) ?_
    refine zl (zH (r := .loc 12) 4 (.loc 901) 9 1 rfl rfl rfl rfl rfl) ?_
    refine zl (za [0, 1, 2, 3, 10, 12, 19, 20] [.loc 10, .loc 12, .loc 900, .loc 901] rfl rfl) ?_
    refine zz (fun c env st => ∃ (j : Nat) (ns : List ByteArray) (is : List Nd) (q : Nat), j ≤ n ∧ c = n - j ∧ ns.length + (n - j) ≤ 256 ∧ is.length + (n - j) ≤ 256 ∧ p0 < q ∧ q ≤ s.size ∧ res = yY nm f 5 (n - j) ns is q ∧
        env = EnvL.get [(0, .t (.str s)), (1, .t (.int .i64 (q : Int))), (2, .t (.int .i64 d)), (3, .t (.int .i64 5)), (10, .ref (.loc 10) 0 0 0), (12, .ref (.loc 12) 0 0 0), (19, .t (.int .i64 (n : Int))), (20, .t (.int .i64 (j : Int)))] ∧
        st = StO.get [(.loc 10, some (.var 30 [.t (.int .i64 0), .t (.bool false), .t (.int .i64 0), .t (.str ⟨#[]⟩), .t .nilsl, .t .nilsl])), (.loc 12, some (.var 30 [.t (.int .i64 5), .t (.bool false), .t (.int .i64 0), .t (.str ⟨#[]⟩), .row (.loc 901), .row (.loc 900)])), (.loc 900, some (.slt 30 6 (is.map Nd.toT))), (.loc 901, some (.slt 9 1 (ns.map .str)))])
      ?_ (n := n) ⟨0, [], [], q, by omega, rfl, by simp; omega, by simp; omega, hq0, hq, hres, rfl, rfl⟩
    clear hres hq hq0
    rintro c env st ⟨j, ns, is, q, hj, rfl, hns, his, hq0, hq, hi, rfl, rfl⟩
    by_cases hlt : j < n
    · obtain ⟨c, hc⟩ : ∃ c, n - j = c + 1 := ⟨n - j - 1, by omega⟩
      rw [hc, yY] at hi
      rw [if_pos rfl] at hi
      replace IHn := IHn q hq0 hq
      obtain ⟨m1, m2, m3⟩ := hn q
      generalize nm q = z at hi IHn m1 m2 m3
      obtain ⟨y, u⟩ := z
      have hTn := y.toT_full
      simp only at IHn hi m1 m2 m3
      rw [hTn] at IHn
      by_cases hu : u < 0 ∨ y.kind ≠ 3
      · rw [if_pos hu] at hi
        rw [hi]
        simp only
        rw [zJ]
        clear IHf hf
        repeat' (first | refine wC ?_ | refine wK ?_ | ((with_reducible refine zw ?_); refine zh rfl rfl rfl rfl rfl rfl rfl rfl rfl rfl ?_ ?_ ?_) | ((with_reducible refine ze ?_); refine wL IHn ?_) | refine zd rfl ?_ ?_ <;> intro hc | refine zS rfl ?_ ?_ <;> intro hc | refine zj rfl ?_ ?_ <;> intro hc)
        all_goals try (exfalso; omega)
        all_goals (refine zL (zp ?_ (by simp)); refine zF rfl rfl rfl inferInstance rfl inferInstance rfl ?_ ?_; exact TLe.av wT; exact AVLE.refl _)
      · rw [if_neg hu] at hi
        obtain ⟨t1, t2, _⟩ := m3 (by omega)
        obtain ⟨v, hv⟩ : ∃ v : Nat, u = v := ⟨u.toNat, by omega⟩
        subst hv
        rw [Int.toNat_natCast] at hi
        replace IHf := IHf v (by omega) (by omega)
        obtain ⟨g1, g2, g3⟩ := hf v
        generalize f v = w at hi IHf g1 g2 g3
        obtain ⟨x, r⟩ := w
        have hT0 := x.toT_full
        simp only at IHf hi g1 g2 g3
        rw [hT0] at IHf
        have hk3 : y.kind = 3 := by omega
        have hu0 : ¬ (v : Int) < 0 := by omega
        by_cases hr : r < 0
        · rw [if_pos hr] at hi
          rw [hi]
          simp only
          rw [zJ]
          repeat' (first | refine wC ?_ | (exfalso; omega) | refine wK ?_ | ((with_reducible refine zw ?_); refine zh rfl rfl rfl rfl rfl rfl rfl rfl rfl rfl ?_ ?_ ?_) | ((with_reducible refine ze ?_); first | refine wL IHn ?_ | refine wL IHf ?_) | refine zd rfl ?_ ?_ <;> intro hc | refine zS rfl ?_ ?_ <;> intro hc)
          all_goals try (simp only [List.length_map, List.length_cons, List.length_nil]; omega)
          refine zL (zp ?_ (by simp)); refine zF rfl rfl rfl inferInstance rfl inferInstance rfl ?_ ?_; exact TLe.av wT; exact AVLE.refl _
        · rw [if_neg hr] at hi
          obtain ⟨k1, k2, _, _⟩ := g3 (by omega)
          repeat' (first | refine wC ?_ | (exfalso; omega) | refine wK ?_ | ((with_reducible refine zw ?_); refine zh rfl rfl rfl rfl rfl rfl rfl rfl rfl rfl ?_ ?_ ?_) | ((with_reducible refine ze ?_); first | refine wL IHn ?_ | refine wL IHf ?_) | refine zd rfl ?_ ?_ <;> intro hc | refine zS rfl ?_ ?_ <;> intro hc)
          all_goals try (simp only [List.length_map, List.length_cons, List.length_nil]; omega)
          refine zI (n' := n - (j + 1)) (by omega) ((za [0, 1, 2, 3, 10, 12, 19, 20] [.loc 10, .loc 12, .loc 61, .loc 43] rfl rfl).trans ((zg (.loc 61) (.loc 900) rfl rfl rfl rfl).trans (zg (.loc 43) (.loc 901) rfl rfl rfl rfl))) ⟨j + 1, ns ++ [y.text], is ++ [x], r.toNat, by omega, rfl, by simp only [List.length_append, List.length_cons, List.length_nil]; omega, by simp only [List.length_append, List.length_cons, List.length_nil]; omega, by omega, by omega, by rw [hi, show n - (j + 1) = c by omega], ?_, ?_⟩
          · rw [zr (by omega) (by omega), show ((r.toNat : Nat) : Int) = r by omega]; rfl
          · rw [List.map_append, List.map_append, List.map_singleton, List.map_singleton, hT0]; rfl
    · have hje : j = n := by omega
      subst hje
      rw [Nat.sub_self, yY] at hi
      repeat' (first | refine wC ?_ | refine wK ?_ | refine zd rfl ?_ ?_ <;> intro hc)
      all_goals try (exfalso; omega)
      rw [hi]
      simp only
      rw [Nd.toT_eq]
      refine zv (za [10, 11] [.loc 10, .loc 900, .loc 901] rfl rfl) ?_
      refine zv (zB (id := .loc 900) rfl rfl rfl) ?_; refine zv (zB (id := .loc 901) rfl rfl rfl) ?_
      refine zL (zp ?_ (by simp)); refine zF rfl rfl rfl inferInstance rfl inferInstance rfl ?_ ?_; exact TLe.av wT; exact AVLE.refl _
end Go.AL
