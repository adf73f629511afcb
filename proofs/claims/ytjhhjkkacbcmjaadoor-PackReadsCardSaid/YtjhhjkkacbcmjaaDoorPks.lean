/- The document's reader of the third serialisation as plain functions, and that it reads what was written; no program in sight. -/
import Derived.Test.YtjhhjkkacbcmjaaDoorPka
set_option linter.unusedVariables false
namespace Go.AL
open Go Go.RowKit

def qFixed (s : ByteArray) (p k : Nat) : Int × Int :=
  if (s.size : Int) - p < k then (0, -1) else (((s.data.toList.drop p).take k).foldl u64Step 0, (p : Int) + k)
/-- The kind, the length and the place after it, or -1. -/
def qLen (s : ByteArray) (p : Nat) : (Int × Int) × Int :=
  let c := bAt s p
  if 160 ≤ c ∧ c < 192 then ((3, c - 160), (p : Int) + 1)
  else if 144 ≤ c ∧ c < 160 then ((4, c - 144), (p : Int) + 1)
  else if 128 ≤ c ∧ c < 144 then ((5, c - 128), (p : Int) + 1)
  else if 217 ≤ c ∧ c ≤ 219 then ((3, (qFixed s (p + 1) (2 ^ (c - 217).toNat)).1), (qFixed s (p + 1) (2 ^ (c - 217).toNat)).2)
  else if c = 220 then ((4, (qFixed s (p + 1) 2).1), (qFixed s (p + 1) 2).2)
  else if c = 222 then ((5, (qFixed s (p + 1) 2).1), (qFixed s (p + 1) 2).2)
  else ((0, 0), -1)
def qItems (nm f : Nat → Nd × Int) (k : Int) : Nat → List ByteArray → List Nd → Nat → Nd × Int
  | 0, ns, is, q => (.mk k false 0 eS ns is, q)
  | c + 1, ns, is, q =>
    if k = 5 then
      (if (nm q).2 < 0 ∨ (nm q).1.kind ≠ 3 then (Nd.zero, -1)
       else if (f (nm q).2.toNat).2 < 0 then (Nd.zero, -1)
       else qItems nm f k c (ns ++ [(nm q).1.text]) (is ++ [(f (nm q).2.toNat).1]) (f (nm q).2.toNat).2.toNat)
    else (if (f q).2 < 0 then (Nd.zero, -1) else qItems nm f k c ns (is ++ [(f q).1]) (f q).2.toNat)
def qNumb (n : Int) : Nd := .mk 2 false n eS [] []
def qVal (s : ByteArray) : Nat → Nat → Nat → Nd × Int
  | 0, d, p => (Nd.zero, -1)
  | u + 1, d, p =>
    if d < 1 ∨ s.size ≤ p then (Nd.zero, -1)
    else
      let c := bAt s p
      if c = 192 then (Nd.zero, (p : Int) + 1)
      else if c = 194 ∨ c = 195 then (.mk 1 (decide (c = 195)) 0 eS [] [], (p : Int) + 1)
      else if c < 128 then (qNumb c, (p : Int) + 1)
      else if 224 ≤ c then (qNumb (c - 256), (p : Int) + 1)
      else if 204 ≤ c ∧ c ≤ 207 then
        (if 9223372036854775807 < (qFixed s (p + 1) (2 ^ (c - 204).toNat)).1 then (Nd.zero, -1)
         else (qNumb (qFixed s (p + 1) (2 ^ (c - 204).toNat)).1, (qFixed s (p + 1) (2 ^ (c - 204).toNat)).2))
      else if 208 ≤ c ∧ c ≤ 211 then (qNumb (sx (2 ^ (c - 208).toNat) (qFixed s (p + 1) (2 ^ (c - 208).toNat)).1), (qFixed s (p + 1) (2 ^ (c - 208).toNat)).2)
      else
        let k := (qLen s p).1.1
        let n := (qLen s p).1.2
        let q := (qLen s p).2
        if q < 0 ∨ (k = 3 ∧ (s.size : Int) - q < n) ∨ (k ≠ 3 ∧ 256 < n) then (Nd.zero, -1)
        else if k = 3 then (.mk 3 false 0 (s.extract q.toNat (q + n).toNat) [] [], q + n)
        else qItems (qVal s u 1) (qVal s u (d - 1)) k n.toNat [] [] q.toNat

/-! ### it reads what was written -/
theorem qFixed_back (a b : List UInt8) (k n : Nat) (hk : 256 ^ k ≤ 18446744073709551616) : qFixed (ofL (a ++ (bigL k n ++ b))) a.length k = (((n % 256 ^ k : Nat) : Int), ((a ++ bigL k n).length : Int)) := by
  unfold qFixed
  rw [if_neg (by rw [ofL_size]; simp [bigL_len]; omega)]
  refine Prod.ext ?_ ?_
  · simp only [ofL_toList]
    rw [List.drop_left, List.take_append_of_le_length (by rw [bigL_len]; exact Nat.le_refl _), List.take_of_length_le (by rw [bigL_len]; exact Nat.le_refl _)]
    have hp : 0 < 256 ^ k := Nat.pos_of_ne_zero (by simp)
    have := big_fold k n 0 (by have := Nat.mod_lt n hp; omega)
    rw [Nat.zero_mul, Nat.zero_add] at this
    exact this
  · simp [bigL_len]
theorem bAt_midN (a : List UInt8) (x : Nat) (b : List UInt8) (h : x < 256) : bAt (ofL (a ++ UInt8.ofNat x :: b)) (a.length : Nat) = (x : Int) := by
  rw [bAt_mid, UInt8.toNat_ofNat', Nat.mod_eq_of_lt (by omega)]
theorem qFixed_next (a b : List UInt8) (x : UInt8) (k n : Nat) (hk : 256 ^ k ≤ 18446744073709551616) : qFixed (ofL (a ++ (x :: bigL k n ++ b))) (a.length + 1) k = (((n % 256 ^ k : Nat) : Int), ((a ++ x :: bigL k n).length : Int)) := by
  have := qFixed_back (a ++ [x]) b k n hk
  rw [show (a ++ [x]) ++ (bigL k n ++ b) = a ++ (x :: bigL k n ++ b) by simp, show (a ++ [x]).length = a.length + 1 by simp] at this
  rw [this]
  refine Prod.ext rfl ?_
  simp
/-- A text's head. -/
theorem qLen_text (a : List UInt8) (s : ByteArray) (b : List UInt8) (hs : s.size < 4294967296) : qLen (ofL (a ++ (pTx s ++ b))) a.length = ((3, (s.size : Int)), ((a ++ pTh s.size).length : Int)) ∧ (∃ c : Int, bAt (ofL (a ++ (pTx s ++ b))) (a.length : Nat) = c ∧ ((160 ≤ c ∧ c < 192) ∨ (217 ≤ c ∧ c ≤ 219))) := by
  unfold pTx pTh
  have big : ∀ i : Nat, i ≤ 2 → s.size < 256 ^ (2 ^ i) → qLen (ofL (a ++ (UInt8.ofNat (217 + i) :: bigL (2 ^ i) s.size ++ s.data.toList ++ b))) a.length = ((3, (s.size : Int)), ((a ++ UInt8.ofNat (217 + i) :: bigL (2 ^ i) s.size).length : Int)) ∧ (∃ c : Int, bAt (ofL (a ++ (UInt8.ofNat (217 + i) :: bigL (2 ^ i) s.size ++ s.data.toList ++ b))) (a.length : Nat) = c ∧ ((160 ≤ c ∧ c < 192) ∨ (217 ≤ c ∧ c ≤ 219))) := by
    intro i hi hlt
    have hk : 256 ^ (2 ^ i) ≤ 18446744073709551616 := by
      match i, hi with
      | 0, _ | 1, _ | 2, _ => decide
    have hb : bAt (ofL (a ++ (UInt8.ofNat (217 + i) :: bigL (2 ^ i) s.size ++ s.data.toList ++ b))) (a.length : Nat) = ((217 + i : Nat) : Int) := by
      rw [List.append_assoc, List.cons_append]; exact bAt_midN a (217 + i) _ (by omega)
    refine ⟨?_, _, hb, .inr (by omega)⟩
    unfold qLen
    simp only
    rw [hb, if_neg (by omega), if_neg (by omega), if_neg (by omega), if_pos (by omega), show (((217 + i : Nat) : Int) - 217).toNat = i by omega, List.append_assoc, qFixed_next a (s.data.toList ++ b) (UInt8.ofNat (217 + i)) (2 ^ i) s.size hk, Nat.mod_eq_of_lt hlt]
  split
  · have hb : bAt (ofL (a ++ ([UInt8.ofNat (160 + s.size)] ++ s.data.toList ++ b))) (a.length : Nat) = ((160 + s.size : Nat) : Int) := by
      rw [List.append_assoc, List.singleton_append]; exact bAt_midN a (160 + s.size) _ (by omega)
    refine ⟨?_, _, hb, .inl (by omega)⟩
    unfold qLen
    simp only
    rw [hb, if_pos (by omega)]
    refine Prod.ext (Prod.ext rfl ?_) ?_
    · simp only; omega
    · simp
  split
  · exact big 0 (by omega) (by simpa using ‹s.size < 256›)
  split
  · exact big 1 (by omega) (by simpa using ‹s.size < 65536›)
  · exact big 2 (by omega) (by simpa using hs)
theorem qVal_text (u d : Nat) (hd : 1 ≤ d) (a : List UInt8) (s : ByteArray) (b : List UInt8) (hs : s.size < 4294967296) : qVal (ofL (a ++ (pTx s ++ b))) (u + 1) d a.length = (.mk 3 false 0 s [] [], ((a ++ pTx s).length : Int)) := by
  obtain ⟨h1, c, h2, h3⟩ := qLen_text a s b hs
  have hl := toList_len s
  have hsz : (ofL (a ++ (pTx s ++ b))).size = a.length + (pTh s.size).length + s.size + b.length := by
    rw [ofL_size]; simp only [pTx, List.length_append]; omega
  have hp := (pTh_len (n := s.size)).2
  rw [qVal]
  rw [if_neg (by omega)]
  simp only
  rw [h2, if_neg (by omega), if_neg (by omega), if_neg (by omega), if_neg (by omega), if_neg (by omega), if_neg (by omega), h1]
  simp only [List.length_append]
  rw [if_neg (by omega), if_pos trivial]
  have e := extract_mid (a ++ pTh s.size) s.data.toList b
  rw [ofL_of] at e
  have e1 : ((a ++ pTh s.size) ++ (s.data.toList ++ b)) = a ++ (pTx s ++ b) := by simp [pTx, List.append_assoc]
  rw [e1] at e
  have e2 : ((((a.length + (pTh s.size).length : Nat)) : Int) + ((s.size : Nat) : Int)).toNat = ((a ++ pTh s.size) ++ s.data.toList).length := by
    rw [List.length_append (as := a ++ pTh s.size), hl, List.length_append]; omega
  rw [e2, Int.toNat_natCast, ← List.length_append, e]
  refine Prod.ext rfl ?_
  simp only [pTx, List.length_append]; omega
theorem qItems_list (nm f : Nat → Nd × Int) (s : ByteArray) : ∀ (xs : List Nd) (ns : List ByteArray) (acc : List Nd) (a b : List UInt8), s = ofL (a ++ (Nd.pbs xs ++ b)) → ∀ m, m ≤ a.length → (∀ x ∈ xs, ∀ a b : List UInt8, m ≤ a.length → s = ofL (a ++ (x.pb ++ b)) → f a.length = (x, ((a ++ x.pb).length : Int))) →
    qItems nm f 4 xs.length ns acc a.length = (.mk 4 false 0 eS ns (acc ++ xs), ((a ++ Nd.pbs xs).length : Int))
  | [], ns, acc, a, b, hs, m, hm, h => by simp [qItems, Nd.pbs]
  | x :: xs, ns, acc, a, b, hs, m, hm, h => by
    simp only [Nd.pbs, List.append_assoc] at hs
    have h1 := h x (by simp) a (Nd.pbs xs ++ b) hm hs
    have hs' : s = ofL ((a ++ x.pb) ++ (Nd.pbs xs ++ b)) := by rw [hs]; simp [List.append_assoc]
    have ih := qItems_list nm f s xs ns (acc ++ [x]) (a ++ x.pb) b hs' m (by rw [List.length_append]; omega) (fun y hy => h y (by simp [hy]))
    rw [List.length_cons, qItems, if_neg (by decide), h1]
    simp only
    rw [if_neg (by omega), Int.toNat_natCast, ih]
    simp [Nd.pbs, List.append_assoc]
theorem qItems_map (nm f : Nat → Nd × Int) (s : ByteArray) : ∀ (ss : List ByteArray) (xs : List Nd) (ns : List ByteArray) (acc : List Nd) (a b : List UInt8), ss.length = xs.length → s = ofL (a ++ (Nd.pbm ss xs ++ b)) → ∀ m, m ≤ a.length → (∀ t ∈ ss, ∀ a b : List UInt8, m ≤ a.length → s = ofL (a ++ (pTx t ++ b)) → nm a.length = (.mk 3 false 0 t [] [], ((a ++ pTx t).length : Int))) → (∀ x ∈ xs, ∀ a b : List UInt8, m ≤ a.length → s = ofL (a ++ (x.pb ++ b)) → f a.length = (x, ((a ++ x.pb).length : Int))) →
    qItems nm f 5 xs.length ns acc a.length = (.mk 5 false 0 eS (ns ++ ss) (acc ++ xs), ((a ++ Nd.pbm ss xs).length : Int))
  | [], [], ns, acc, a, b, _, hs, m, hm, _, h => by simp [qItems, Nd.pbm]
  | t :: ss, x :: xs, ns, acc, a, b, hl, hs, m, hm, hn, h => by
    simp only [Nd.pbm] at hs
    have e1 : s = ofL (a ++ (pTx t ++ (x.pb ++ (Nd.pbm ss xs ++ b)))) := by rw [hs]; simp [List.append_assoc]
    have ht := hn t (by simp) a _ hm e1
    have e2 : s = ofL ((a ++ pTx t) ++ (x.pb ++ (Nd.pbm ss xs ++ b))) := by rw [hs]; simp [List.append_assoc]
    have h1 := h x (by simp) _ _ (by rw [List.length_append]; omega) e2
    have e3 : s = ofL (((a ++ pTx t) ++ x.pb) ++ (Nd.pbm ss xs ++ b)) := by rw [hs]; simp [List.append_assoc]
    have ih := qItems_map nm f s ss xs (ns ++ [t]) (acc ++ [x]) ((a ++ pTx t) ++ x.pb) b (by simpa using hl) e3 m (by rw [List.length_append, List.length_append]; omega) (fun y hy => hn y (by simp [hy])) (fun y hy => h y (by simp [hy]))
    have hc : ¬ ((nm a.length).2 < 0 ∨ (nm a.length).1.kind ≠ 3) := by
      rw [ht]
      rintro (hx | hx)
      · simp only at hx; omega
      · exact hx rfl
    have hn' : (nm a.length).2.toNat = (a ++ pTx t).length := by rw [ht]; simp only [Int.toNat_natCast]
    have h1' : f (nm a.length).2.toNat = (x, (((a ++ pTx t) ++ x.pb).length : Int)) := by rw [hn']; exact h1
    have hc2 : ¬ (f (nm a.length).2.toNat).2 < 0 := by rw [h1']; simp only; omega
    rw [List.length_cons, qItems, if_pos rfl, if_neg hc, if_neg hc2, h1', ht]
    simp only [Nd.text, Int.toNat_natCast]
    rw [ih]
    simp [Nd.pbm, List.append_assoc]
  | [], _ :: _, _, _, _, _, hl, _, _, _, _, _ => by simp at hl
  | _ :: _, [], _, _, _, _, hl, _, _, _, _, _ => by simp at hl
/-- A list's or a map's head. -/
theorem qLen_cnt (a : List UInt8) (few many n : Nat) (k : Int) (b : List UInt8) (hk : (few = 144 ∧ many = 220 ∧ k = 4) ∨ (few = 128 ∧ many = 222 ∧ k = 5)) (hn : n < 65536) : qLen (ofL (a ++ (pCn few many n ++ b))) a.length = ((k, (n : Int)), ((a ++ pCn few many n).length : Int)) ∧ (∃ c : Int, bAt (ofL (a ++ (pCn few many n ++ b))) (a.length : Nat) = c ∧ ((128 ≤ c ∧ c < 160) ∨ c = 220 ∨ c = 222)) := by
  unfold pCn
  split
  · have hb : bAt (ofL (a ++ ([UInt8.ofNat (few + n)] ++ b))) (a.length : Nat) = ((few + n : Nat) : Int) := by
      rw [List.singleton_append]; exact bAt_midN a (few + n) _ (by omega)
    refine ⟨?_, _, hb, .inl (by omega)⟩
    unfold qLen
    simp only
    rw [hb]
    rcases hk with ⟨rfl, rfl, rfl⟩ | ⟨rfl, rfl, rfl⟩
    · rw [if_neg (by omega), if_pos (by omega)]
      refine Prod.ext (Prod.ext rfl ?_) ?_
      · simp only; omega
      · simp
    · rw [if_neg (by omega), if_neg (by omega), if_pos (by omega)]
      refine Prod.ext (Prod.ext rfl ?_) ?_
      · simp only; omega
      · simp
  · have hb : bAt (ofL (a ++ (UInt8.ofNat many :: bigL 2 n ++ b))) (a.length : Nat) = (many : Int) := by
      rw [List.cons_append]; exact bAt_midN a many _ (by omega)
    refine ⟨?_, _, hb, .inr (by omega)⟩
    have hf := qFixed_next a b (UInt8.ofNat many) 2 n (by decide)
    rw [Nat.mod_eq_of_lt (by simpa using hn)] at hf
    unfold qLen
    simp only
    rw [hb]
    rcases hk with ⟨rfl, rfl, rfl⟩ | ⟨rfl, rfl, rfl⟩
    · rw [if_neg (by omega), if_neg (by omega), if_neg (by omega), if_neg (by omega), if_pos (by omega), hf]
    · rw [if_neg (by omega), if_neg (by omega), if_neg (by omega), if_neg (by omega), if_neg (by omega), if_pos (by omega), hf]
theorem qVal_num (u d : Nat) (hd : 1 ≤ d) (a : List UInt8) (n : Int) (b : List UInt8) (h0 : -9223372036854775808 ≤ n) (h1 : n ≤ 9223372036854775807) : qVal (ofL (a ++ (pNum n ++ b))) (u + 1) d a.length = (qNumb n, ((a ++ pNum n).length : Int)) := by
  have up : ∀ i : Nat, i ≤ 3 → 0 ≤ n → n < ((256 ^ (2 ^ i) : Nat) : Int) → qVal (ofL (a ++ (UInt8.ofNat (204 + i) :: bigL (2 ^ i) (u64n n) ++ b))) (u + 1) d a.length = (qNumb n, ((a ++ UInt8.ofNat (204 + i) :: bigL (2 ^ i) (u64n n)).length : Int)) := by
    intro i hi hn hlt
    have hk : 256 ^ (2 ^ i) ≤ 18446744073709551616 := by
      match i, hi with
      | 0, _ | 1, _ | 2, _ | 3, _ => decide
    have hb : bAt (ofL (a ++ (UInt8.ofNat (204 + i) :: bigL (2 ^ i) (u64n n) ++ b))) (a.length : Nat) = ((204 + i : Nat) : Int) := by
      rw [List.cons_append]; exact bAt_midN a (204 + i) _ (by omega)
    have hf := qFixed_next a b (UInt8.ofNat (204 + i)) (2 ^ i) (u64n n) hk
    have hu : u64n n < 256 ^ (2 ^ i) := by unfold u64n; omega
    rw [Nat.mod_eq_of_lt hu] at hf
    rw [qVal, if_neg (by rw [ofL_size]; simp; omega)]
    simp only
    rw [hb, if_neg (by omega), if_neg (by omega), if_neg (by omega), if_neg (by omega), if_pos (by omega), show (((204 + i : Nat) : Int) - 204).toNat = i by omega, hf]
    simp only
    have hun : ((u64n n : Nat) : Int) = n := by unfold u64n; omega
    rw [hun, if_neg (by omega)]
  have dn : ∀ i : Nat, i ≤ 3 → n < 0 → -((256 ^ (2 ^ i) / 2 : Nat) : Int) ≤ n → qVal (ofL (a ++ (UInt8.ofNat (208 + i) :: bigL (2 ^ i) (u64n n) ++ b))) (u + 1) d a.length = (qNumb n, ((a ++ UInt8.ofNat (208 + i) :: bigL (2 ^ i) (u64n n)).length : Int)) := by
    intro i hi hn hlt
    have hk : 256 ^ (2 ^ i) ≤ 18446744073709551616 := by
      match i, hi with
      | 0, _ | 1, _ | 2, _ | 3, _ => decide
    have hb : bAt (ofL (a ++ (UInt8.ofNat (208 + i) :: bigL (2 ^ i) (u64n n) ++ b))) (a.length : Nat) = ((208 + i : Nat) : Int) := by
      rw [List.cons_append]; exact bAt_midN a (208 + i) _ (by omega)
    have hf := qFixed_next a b (UInt8.ofNat (208 + i)) (2 ^ i) (u64n n) hk
    rw [qVal, if_neg (by rw [ofL_size]; simp; omega)]
    simp only
    rw [hb, if_neg (by omega), if_neg (by omega), if_neg (by omega), if_neg (by omega), if_neg (by omega), if_pos (by omega), show (((208 + i : Nat) : Int) - 208).toNat = i by omega, hf]
    simp only
    have hsx : sx (2 ^ i) ((u64n n % 256 ^ (2 ^ i) : Nat) : Int) = n := by
      unfold u64n sx
      match i, hi with
      | 0, _ => simp at hlt ⊢; omega
      | 1, _ => simp at hlt ⊢; omega
      | 2, _ => simp at hlt ⊢; omega
      | 3, _ => simp at hlt ⊢; omega
    rw [hsx]
  unfold pNum
  split
  · have hb : bAt (ofL (a ++ ([UInt8.ofNat (n % 256).toNat] ++ b))) (a.length : Nat) = (((n % 256).toNat : Nat) : Int) := by
      rw [List.singleton_append]; exact bAt_midN a (n % 256).toNat _ (by omega)
    rw [qVal, if_neg (by rw [ofL_size]; simp; omega)]
    simp only
    by_cases hn : 0 ≤ n
    · rw [hb, if_neg (by omega), if_neg (by omega), if_pos (by omega), show (((n % 256).toNat : Nat) : Int) = n by omega]
      simp
    · rw [hb, if_neg (by omega), if_neg (by omega), if_neg (by omega), if_pos (by omega), show (((n % 256).toNat : Nat) : Int) - 256 = n by omega]
      simp
  split
  · split
    · exact up 0 (by omega) (by omega) (by simpa using ‹n < 256›)
    split
    · exact up 1 (by omega) (by omega) (by simpa using ‹n < 65536›)
    split
    · exact up 2 (by omega) (by omega) (by simpa using ‹n < 4294967296›)
    · exact up 3 (by omega) (by omega) (by simp; omega)
  split
  · exact dn 0 (by omega) (by omega) (by simpa using ‹-128 ≤ n›)
  split
  · exact dn 1 (by omega) (by omega) (by simpa using ‹-32768 ≤ n›)
  split
  · exact dn 2 (by omega) (by omega) (by simpa using ‹-2147483648 ≤ n›)
  · exact dn 3 (by omega) (by omega) (by simp; omega)
theorem qVal_back {V : ByteArray → Bool} {s : ByteArray} : ∀ (x : Nd) (u d : Nat), x.validB V d = true → x.In → ∀ a b : List UInt8, s = ofL (a ++ (x.pb ++ b)) → s.size < u + a.length → qVal s u d a.length = (x, ((a ++ x.pb).length : Int))
  | .mk k b n tx ns is, u, 0, hv, _, _, _, _, _ => by
    rw [valid_mk] at hv
    have := hv.1
    simp at this
  | .mk k b n tx ns is, 0, d + 1, hv, hin, A, B, hs, hu => by
    exfalso
    rw [hs, ofL_size] at hu
    simp at hu; omega
  | .mk k b n tx ns is, u + 1, d + 1, hv, hin, A, B, hs, hu => by
    rw [valid_mk] at hv
    obtain ⟨_, h2, h3, h4, h5, h6, h7, h8⟩ := hv
    cases hin with
    | mk i1 i2 i3 =>
    simp only [Nd.fieldsOK, Bool.and_eq_true, Bool.or_eq_true, decide_eq_true_eq, Bool.not_eq_true'] at h4
    obtain ⟨⟨⟨⟨f1, f2⟩, f3⟩, f4⟩, f5⟩ := h4
    have hk : k = 0 ∨ k = 1 ∨ k = 2 ∨ k = 3 ∨ k = 4 ∨ k = 5 := by omega
    have hi : ∀ y ∈ is, ∀ a b : List UInt8, A.length + 1 ≤ a.length → s = ofL (a ++ (y.pb ++ b)) → qVal s u d a.length = (y, ((a ++ y.pb).length : Int)) := fun y hy a b hm h =>
      qVal_back y u d (by have := h8 y hy; rwa [show ((d + 1 : Nat) : Int) - 1 = d by omega] at this) (i3 y hy) a b h (by omega)
    have e0 : k ≠ 1 → b = false := fun h => f1.resolve_left h
    have e1 : k ≠ 2 → n = 0 := fun h => f2.resolve_left h
    have e2 : k ≠ 3 → tx = eS := fun h => f3.resolve_left h
    have e3 : k ≠ 4 → k ≠ 5 → is = [] := fun h h' => List.eq_nil_of_length_eq_zero (by rcases f4 with (h'' | h'') | h'' <;> first | (exact absurd h'' h) | (exact absurd h'' h') | omega)
    have e4 : k ≠ 5 → ns = [] := fun h => List.eq_nil_of_length_eq_zero (by rcases f5 with h' | h'; exact absurd h' h; omega)
    have simple : ∀ (j : Nat), j < 256 → s = ofL (A ++ ([UInt8.ofNat j] ++ B)) → bAt s (A.length : Nat) = j ∧ ¬ (d + 1 < 1 ∨ s.size ≤ A.length) := fun j hj h => by
      rw [h, List.singleton_append, bAt_midN A j B hj, ofL_size]
      exact ⟨rfl, by simp⟩
    rcases hk with rfl | rfl | rfl | rfl | rfl | rfl
    · rw [e0 (by decide), e1 (by decide), e2 (by decide), e3 (by decide) (by decide), e4 (by decide)] at hs ⊢
      rw [show (Nd.mk 0 false 0 eS [] []).pb = [UInt8.ofNat 192] by simp [Nd.pb]] at hs ⊢
      obtain ⟨h1, h2⟩ := simple 192 (by omega) hs
      rw [qVal, if_neg h2]
      simp only
      rw [h1, if_pos (by decide)]
      simp [Nd.zero, eS]
    · rw [e1 (by decide), e2 (by decide), e3 (by decide) (by decide), e4 (by decide)] at hs ⊢
      cases b with
      | true =>
        rw [show (Nd.mk 1 true 0 eS [] []).pb = [UInt8.ofNat 195] by simp [Nd.pb]] at hs ⊢
        obtain ⟨h1, h2⟩ := simple 195 (by omega) hs
        rw [qVal, if_neg h2]
        simp only
        rw [h1, if_neg (by decide), if_pos (by decide)]
        simp
      | false =>
        rw [show (Nd.mk 1 false 0 eS [] []).pb = [UInt8.ofNat 194] by simp [Nd.pb]] at hs ⊢
        obtain ⟨h1, h2⟩ := simple 194 (by omega) hs
        rw [qVal, if_neg h2]
        simp only
        rw [h1, if_neg (by decide), if_pos (by decide)]
        simp
    · rw [e0 (by decide), e2 (by decide), e3 (by decide) (by decide), e4 (by decide)] at hs ⊢
      rw [show (Nd.mk 2 false n eS [] []).pb = pNum n by simp [Nd.pb]] at hs ⊢
      rw [hs]
      exact qVal_num u (d + 1) (by omega) A n B i1 i2
    · rw [e0 (by decide), e1 (by decide), e3 (by decide) (by decide), e4 (by decide)] at hs ⊢
      have ht : tx.size ≤ 65536 := by simp only [textB, Bool.and_eq_true, decide_eq_true_eq] at h5; omega
      rw [show (Nd.mk 3 false 0 tx [] []).pb = pTx tx by simp [Nd.pb]] at hs ⊢
      rw [hs]
      exact qVal_text u (d + 1) (by omega) A tx B (by omega)
    · rw [e0 (by decide), e1 (by decide), e2 (by decide), e4 (by decide)] at hs ⊢
      rw [show (Nd.mk 4 false 0 eS [] is).pb = pCn 144 220 is.length ++ Nd.pbs is by simp [Nd.pb]] at hs ⊢
      rw [List.append_assoc] at hs
      obtain ⟨g1, c, g2, g3⟩ := qLen_cnt A 144 220 is.length 4 (Nd.pbs is ++ B) (.inl ⟨rfl, rfl, rfl⟩) (by omega)
      rw [← hs] at g1 g2
      have hcp := (pCn_pos 144 220 is.length).1
      have hsz : s.size = A.length + (pCn 144 220 is.length).length + (Nd.pbs is).length + B.length := by rw [hs, ofL_size]; simp only [List.length_append]; omega
      rw [qVal, if_neg (by omega)]
      simp only
      rw [g2, if_neg (by omega), if_neg (by omega), if_neg (by omega), if_neg (by omega), if_neg (by omega), if_neg (by omega), g1]
      simp only [Int.toNat_natCast]
      rw [if_neg (by omega), if_neg (by decide)]
      have := qItems_list (qVal s u 1) (qVal s u d) s is [] [] (A ++ pCn 144 220 is.length) B (by rw [hs]; simp [List.append_assoc]) (A.length + 1) (by rw [List.length_append]; omega) hi
      rw [show d + 1 - 1 = d by omega, this]
      simp [List.append_assoc]
    · rw [e0 (by decide), e1 (by decide), e2 (by decide)] at hs ⊢
      have hl := (h7 rfl).2
      rw [show (Nd.mk 5 false 0 eS ns is).pb = pCn 128 222 is.length ++ Nd.pbm ns is by simp [Nd.pb]] at hs ⊢
      rw [List.append_assoc] at hs
      obtain ⟨g1, c, g2, g3⟩ := qLen_cnt A 128 222 is.length 5 (Nd.pbm ns is ++ B) (.inr ⟨rfl, rfl, rfl⟩) (by omega)
      rw [← hs] at g1 g2
      have hcp := (pCn_pos 128 222 is.length).1
      have hsz : s.size = A.length + (pCn 128 222 is.length).length + (Nd.pbm ns is).length + B.length := by rw [hs, ofL_size]; simp only [List.length_append]; omega
      have hnm : ∀ t ∈ ns, ∀ a b : List UInt8, A.length + 1 ≤ a.length → s = ofL (a ++ (pTx t ++ b)) → qVal s u 1 a.length = (.mk 3 false 0 t [] [], ((a ++ pTx t).length : Int)) := fun t ht a b hm h => by
        have := (((namesOk_iff (textB V) ns []).1 (h7 rfl).1).2 t ht).2
        simp only [textB, Bool.and_eq_true, decide_eq_true_eq] at this
        have hlen : a.length ≤ s.size := by rw [h, ofL_size]; simp
        obtain ⟨u', rfl⟩ : ∃ u', u = u' + 1 := ⟨u - 1, by omega⟩
        rw [h]
        exact qVal_text u' 1 (by omega) a t b (by omega)
      rw [qVal, if_neg (by omega)]
      simp only
      rw [g2, if_neg (by omega), if_neg (by omega), if_neg (by omega), if_neg (by omega), if_neg (by omega), if_neg (by omega), g1]
      simp only [Int.toNat_natCast]
      rw [if_neg (by omega), if_neg (by decide)]
      have := qItems_map (qVal s u 1) (qVal s u d) s ns is [] [] (A ++ pCn 128 222 is.length) B hl (by rw [hs]; simp [List.append_assoc]) (A.length + 1) (by rw [List.length_append]; omega) hnm hi
      rw [show d + 1 - 1 = d by omega, this]
      simp [List.append_assoc]
termination_by x => SizeOf.sizeOf x
decreasing_by
  have := List.sizeOf_lt_of_mem hy
  simp only [Nd.mk.sizeOf_spec]
  omega
end Go.AL
/- What the document's reader of the third serialisation takes, and that both readers take the same; no program in sight. -/
set_option linter.unusedVariables false
namespace Go.AL
open Go Go.RowKit

theorem qFixed_good {s : ByteArray} {p i : Nat} (hi : i ≤ 3) : 0 ≤ (qFixed s p (2 ^ i)).1 ∧ (qFixed s p (2 ^ i)).1 < (256 : Int) ^ (2 ^ i) ∧ ((qFixed s p (2 ^ i)).2 = -1 ∨ ((qFixed s p (2 ^ i)).2 = (p : Int) + 2 ^ i ∧ (qFixed s p (2 ^ i)).2 ≤ s.size)) := by
  have e2 : ((2 ^ i : Nat) : Int) = 2 ^ i := by simp
  have h8 : 2 ^ i ≤ 8 := by
    match i, hi with
    | 0, _ | 1, _ | 2, _ | 3, _ => decide
  unfold qFixed
  split
  · refine ⟨by simp, ?_, .inl rfl⟩
    simp only
    exact Int.pow_pos (by decide)
  · rename_i hc
    have hl : ((s.data.toList.drop p).take (2 ^ i)).length = 2 ^ i := by
      rw [List.length_take, List.length_drop, toList_len]; omega
    have hf := fold_range ((s.data.toList.drop p).take (2 ^ i)) 0 0 (by omega) (by decide) (by rw [hl]; omega)
    rw [hl, Nat.zero_add] at hf
    exact ⟨hf.1, hf.2, .inr ⟨by simp only; rw [e2], by simp only; omega⟩⟩
def PGood (s : ByteArray) (p : Nat) (r : Nd × Int) : Prop := r.1.Ok ∧ -1 ≤ r.2 ∧ (r.2 ≠ -1 → (p : Int) < r.2 ∧ r.2 ≤ s.size ∧ (r.1.pb.length : Int) + p ≤ r.2 ∧ r.1.In)
theorem PGood.fail (s : ByteArray) (p : Nat) : PGood s p (Nd.zero, -1) := ⟨zero_ok, by decide, fun h => absurd rfl h⟩
theorem numb_pb (n : Int) : (qNumb n).pb = pNum n := by simp [qNumb, Nd.pb]
theorem numb_ok (n : Int) : (qNumb n).Ok := .mk (by simp) (by simp) (by simp)
theorem numb_in {n : Int} (h0 : -9223372036854775808 ≤ n) (h1 : n ≤ 9223372036854775807) : (qNumb n).In := .mk h0 h1 (by simp)
theorem text_pb (t : ByteArray) : (Nd.mk 3 false 0 t [] []).pb = pTx t := by simp [Nd.pb]
/-- A node that a text was read as: its text is what stands there. -/
theorem kind3_pb {x : Nd} (h : x.kind = 3) : x.pb = pTx x.text := by
  cases x with
  | mk k b n t ns is =>
  simp only [Nd.kind] at h
  subst h
  simp [Nd.pb, Nd.text]
theorem qItems_good (nm f : Nat → Nd × Int) (s : ByteArray) (hn : ∀ p, PGood s p (nm p)) (hf : ∀ p, PGood s p (f p)) (k : Int) (hk : k = 4 ∨ k = 5) : ∀ (c : Nat) (ns : List ByteArray) (is : List Nd) (q : Nat), ns.length + c ≤ 1000000000 → is.length + c ≤ 1000000000 → (∀ x ∈ is, x.Ok) →
    (qItems nm f k c ns is q).1.Ok ∧ -1 ≤ (qItems nm f k c ns is q).2 ∧ ((qItems nm f k c ns is q).2 ≠ -1 → (q : Int) ≤ s.size → (q : Int) ≤ (qItems nm f k c ns is q).2 ∧ (qItems nm f k c ns is q).2 ≤ s.size ∧
      ∃ (ss : List ByteArray) (xs : List Nd), xs.length = c ∧ (qItems nm f k c ns is q).1 = .mk k false 0 eS (ns ++ ss) (is ++ xs) ∧ (((if k = 5 then Nd.pbm ss xs else Nd.pbs xs).length : Nat) : Int) + q ≤ (qItems nm f k c ns is q).2 ∧ ∀ x ∈ xs, x.In)
  | 0, ns, is, q, h1, h2, h3 => ⟨.mk (by omega) (by omega) h3, by simp only [qItems]; omega, fun _ hq => ⟨by simp [qItems], by simp only [qItems]; exact hq, [], [], rfl, by simp [qItems], by simp [qItems, Nd.pbs, Nd.pbm], by simp⟩⟩
  | c + 1, ns, is, q, h1, h2, h3 => by
    have fail : (Nd.zero, (-1 : Int)).1.Ok ∧ -1 ≤ (Nd.zero, (-1 : Int)).2 := ⟨zero_ok, by decide⟩
    have key : ∀ (y : Nd), y.Ok → ∀ x ∈ is ++ [y], x.Ok := fun y hy x hx => by
      rcases List.mem_append.1 hx with h | h
      · exact h3 x h
      · rw [List.mem_singleton.1 h]; exact hy
    rw [qItems]
    rcases hk with rfl | rfl
    · rw [if_neg (by decide)]
      obtain ⟨f1, f2, f3⟩ := hf q
      split
      · exact ⟨fail.1, fail.2, fun h => absurd rfl h⟩
      · rename_i hn'
        obtain ⟨g1, g2, g3, g4⟩ := f3 (by omega)
        obtain ⟨i1, i2, i3⟩ := qItems_good nm f s hn hf 4 (.inl rfl) c ns (is ++ [(f q).1]) (f q).2.toNat (by omega) (by simp; omega) (key _ f1)
        refine ⟨i1, i2, fun h hq => ?_⟩
        replace i3 := i3 h (by clear i3 f3; omega)
        clear f3
        obtain ⟨j1, j2, ss, xs, j3, j6, j7, j8⟩ := i3
        refine ⟨by omega, j2, ss, (f q).1 :: xs, by simp [j3], by rw [j6]; simp, ?_, fun x hx => ?_⟩
        · rw [if_neg (by decide)] at j7 ⊢
          simp only [Nd.pbs, List.length_append]; omega
        · rcases List.mem_cons.1 hx with rfl | hx
          · exact g4
          · exact j8 x hx
    · rw [if_pos rfl]
      split
      · exact ⟨fail.1, fail.2, fun h => absurd rfl h⟩
      · rename_i ht
        simp only [not_or, Int.not_lt, ne_eq, Decidable.not_not] at ht
        obtain ⟨n1, n2, n3⟩ := hn q
        obtain ⟨t1, t2, t3, _⟩ := n3 (by clear n3; omega)
        clear n3
        rw [kind3_pb ht.2] at t3
        obtain ⟨f1, f2, f3⟩ := hf (nm q).2.toNat
        split
        · exact ⟨fail.1, fail.2, fun h => absurd rfl h⟩
        · rename_i hn'
          obtain ⟨g1, g2, g3, g4⟩ := f3 (by clear f3; omega)
          clear f3
          obtain ⟨i1, i2, i3⟩ := qItems_good nm f s hn hf 5 (.inr rfl) c (ns ++ [(nm q).1.text]) (is ++ [(f (nm q).2.toNat).1]) (f (nm q).2.toNat).2.toNat (by simp; omega) (by simp; omega) (key _ f1)
          refine ⟨i1, i2, fun h hq => ?_⟩
          replace i3 := i3 h (by clear i3; omega)
          obtain ⟨j1, j2, ss, xs, j3, j6, j7, j8⟩ := i3
          refine ⟨by omega, j2, (nm q).1.text :: ss, (f (nm q).2.toNat).1 :: xs, by simp [j3], by rw [j6]; simp, ?_, fun x hx => ?_⟩
          · rw [if_pos rfl] at j7 ⊢
            simp only [Nd.pbm, List.length_append]; omega
          · rcases List.mem_cons.1 hx with rfl | hx
            · exact g4
            · exact j8 x hx
theorem qLen_good {s : ByteArray} {p : Nat} (hp : p < s.size) (h : 0 ≤ (qLen s p).2) : (p : Int) < (qLen s p).2 ∧ (qLen s p).2 ≤ s.size ∧ 0 ≤ (qLen s p).1.2 ∧ (qLen s p).1.2 < 4294967296 ∧ ((qLen s p).1.1 = 3 ∨ (qLen s p).1.1 = 4 ∨ (qLen s p).1.1 = 5) ∧
    ((qLen s p).1.1 = 3 → ∀ n : Nat, (n : Int) = (qLen s p).1.2 → ((pTh n).length : Int) + p ≤ (qLen s p).2) ∧ ((qLen s p).1.1 = 4 → ∀ n : Nat, (n : Int) = (qLen s p).1.2 → ((pCn 144 220 n).length : Int) + p ≤ (qLen s p).2) ∧ ((qLen s p).1.1 = 5 → ∀ n : Nat, (n : Int) = (qLen s p).1.2 → ((pCn 128 222 n).length : Int) + p ≤ (qLen s p).2) := by
  have hb := bAt_range s p
  have pcnt : ∀ a b n, n < 16 → (pCn a b n).length = 1 := fun a b n h => by unfold pCn; rw [if_pos h]; rfl
  have pth : ∀ n, n < 32 → (pTh n).length = 1 := fun n h => by unfold pTh; rw [if_pos h]; rfl
  unfold qLen at h ⊢
  simp only at h ⊢
  split at h
  · rename_i e; rw [if_pos e]
    refine ⟨by simp only; omega, by simp only; omega, by simp only; omega, by simp only; omega, .inl rfl, fun _ n hn => ?_, fun h => absurd (show (3 : Int) = 4 from h) (by decide), fun h => absurd (show (3 : Int) = 5 from h) (by decide)⟩
    simp only at hn ⊢
    rw [pth n (by omega)]; omega
  rename_i n1; rw [if_neg n1]
  split at h
  · rename_i e; rw [if_pos e]
    refine ⟨by simp only; omega, by simp only; omega, by simp only; omega, by simp only; omega, .inr (.inl rfl), fun h => absurd (show (4 : Int) = 3 from h) (by decide), fun _ n hn => ?_, fun h => absurd (show (4 : Int) = 5 from h) (by decide)⟩
    simp only at hn ⊢
    rw [pcnt _ _ n (by omega)]; omega
  rename_i n2; rw [if_neg n2]
  split at h
  · rename_i e; rw [if_pos e]
    refine ⟨by simp only; omega, by simp only; omega, by simp only; omega, by simp only; omega, .inr (.inr rfl), fun h => absurd (show (5 : Int) = 3 from h) (by decide), fun h => absurd (show (5 : Int) = 4 from h) (by decide), fun _ n hn => ?_⟩
    simp only at hn ⊢
    rw [pcnt _ _ n (by omega)]; omega
  rename_i n3; rw [if_neg n3]
  split at h
  · rename_i e; rw [if_pos e]
    obtain ⟨i, hi, hi2⟩ : ∃ i : Nat, (bAt s p - 217).toNat = i ∧ i ≤ 2 := ⟨_, rfl, by omega⟩
    rw [hi] at h ⊢
    simp only at h ⊢
    obtain ⟨q1, q2, q3⟩ := qFixed_good (s := s) (p := p + 1) (i := i) (by omega)
    have q4 := q3.resolve_left (by omega)
    have h256 : (256 : Int) ^ (2 ^ i) ≤ 4294967296 := by
      match i, hi2 with
      | 0, _ | 1, _ | 2, _ => decide +kernel
    have e2 : ((2 ^ i : Nat) : Int) = 2 ^ i := by simp
    have e3 : ((256 ^ (2 ^ i) : Nat) : Int) = (256 : Int) ^ (2 ^ i) := by simp
    have hp2 : 1 ≤ 2 ^ i := Nat.one_le_two_pow
    refine ⟨by omega, by omega, q1, by omega, .inl trivial, fun _ n hn => ?_, fun h => absurd h (by decide), fun h => absurd h (by decide)⟩
    have := pTh_pow (n := n) hi2 (by omega)
    omega
  rename_i n4; rw [if_neg n4]
  have two : qFixed s (p + 1) 2 = qFixed s (p + 1) (2 ^ 1) := rfl
  have h2i : (2 : Int) ^ 1 = 2 := rfl
  have h256 : (256 : Int) ^ (2 ^ 1) = 65536 := by decide
  obtain ⟨q1, q2, q3⟩ := qFixed_good (s := s) (p := p + 1) (i := 1) (by omega)
  rw [← two] at q1 q2 q3
  split at h
  · rename_i e; rw [if_pos e]
    simp only at h ⊢
    have q4 := q3.resolve_left (by omega)
    refine ⟨by omega, by omega, q1, by omega, .inr (.inl trivial), fun h => absurd h (by decide), fun _ n hn => ?_, fun h => absurd h (by decide)⟩
    have := (pCn_pos 144 220 n).2
    omega
  rename_i n5; rw [if_neg n5]
  split at h
  · rename_i e; rw [if_pos e]
    simp only at h ⊢
    have q4 := q3.resolve_left (by omega)
    refine ⟨by omega, by omega, q1, by omega, .inr (.inr trivial), fun h => absurd h (by decide), fun h => absurd h (by decide), fun _ n hn => ?_⟩
    have := (pCn_pos 128 222 n).2
    omega
  · simp at h
theorem qVal_good (s : ByteArray) : ∀ (u d p : Nat), PGood s p (qVal s u d p)
  | 0, d, p => PGood.fail s p
  | u + 1, d, p => by
    have hbr := bAt_range s p
    have one : ∀ v : Int, -32 ≤ v → v < 128 → (pNum v).length = 1 := fun v h h' => by unfold pNum; rw [if_pos ⟨h, h'⟩]; rfl
    rw [qVal]
    split
    · exact PGood.fail s p
    rename_i h0
    simp only
    split
    · refine ⟨zero_ok, by simp only; omega, fun _ => ⟨by simp only; omega, by simp only; omega, ?_, zero_in⟩⟩
      simp [Nd.zero, Nd.pb]; omega
    split
    · refine ⟨.mk (by simp) (by simp) (by simp), by simp only; omega, fun _ => ⟨by simp only; omega, by simp only; omega, ?_, .mk (by omega) (by omega) (by simp)⟩⟩
      simp [Nd.pb]; omega
    split
    · refine ⟨numb_ok _, by simp only; omega, fun _ => ⟨by simp only; omega, by simp only; omega, ?_, numb_in (by omega) (by omega)⟩⟩
      simp only [numb_pb]
      rw [one _ (by omega) (by omega)]; omega
    split
    · refine ⟨numb_ok _, by simp only; omega, fun _ => ⟨by simp only; omega, by simp only; omega, ?_, numb_in (by omega) (by omega)⟩⟩
      simp only [numb_pb]
      rw [one _ (by omega) (by omega)]; omega
    split
    · split
      · exact PGood.fail s p
      · rename_i e hc
        obtain ⟨i, hi, hi3⟩ : ∃ i : Nat, (bAt s p - 204).toNat = i ∧ i ≤ 3 := ⟨_, rfl, by omega⟩
        rw [hi] at hc ⊢
        obtain ⟨q1, q2, q3⟩ := qFixed_good (s := s) (p := p + 1) (i := i) hi3
        have e2 : ((2 ^ i : Nat) : Int) = 2 ^ i := by simp
        have e3 : ((256 ^ (2 ^ i) : Nat) : Int) = (256 : Int) ^ (2 ^ i) := by simp
        have hp2 : 1 ≤ 2 ^ i := Nat.one_le_two_pow
        refine ⟨numb_ok _, by simp only; omega, fun h => ?_⟩
        simp only at h
        have q4 := q3.resolve_left h
        have := pNum_pow (n := (qFixed s (p + 1) (2 ^ i)).1) hi3 (by omega) (by omega)
        refine ⟨by simp only; omega, by simp only; omega, ?_, numb_in (by omega) (by omega)⟩
        simp only [numb_pb]; omega
    split
    · rename_i e
      obtain ⟨i, hi, hi3⟩ : ∃ i : Nat, (bAt s p - 208).toNat = i ∧ i ≤ 3 := ⟨_, rfl, by omega⟩
      rw [hi]
      obtain ⟨q1, q2, q3⟩ := qFixed_good (s := s) (p := p + 1) (i := i) hi3
      have e2 : ((2 ^ i : Nat) : Int) = 2 ^ i := by simp
      have hp2 : 1 ≤ 2 ^ i := Nat.one_le_two_pow
      refine ⟨numb_ok _, by simp only; omega, fun h => ?_⟩
      simp only at h
      have q4 := q3.resolve_left h
      generalize (qFixed s (p + 1) (2 ^ i)).1 = v at *
      have hs : -((256 ^ (2 ^ i) / 2 : Nat) : Int) ≤ sx (2 ^ i) v ∧ sx (2 ^ i) v < ((256 ^ (2 ^ i) / 2 : Nat) : Int) := by
        unfold sx
        match i, hi3 with
        | 0, _ => simp at q2 ⊢; omega
        | 1, _ => simp at q2 ⊢; omega
        | 2, _ => simp at q2 ⊢; omega
        | 3, _ => simp at q2 ⊢; omega
      have hpw := pNum_pow hi3 hs.1 (by omega)
      have h63 : ((256 ^ (2 ^ i) / 2 : Nat) : Int) ≤ 9223372036854775808 := by
        match i, hi3 with
        | 0, _ | 1, _ | 2, _ | 3, _ => decide +kernel
      refine ⟨by simp only; omega, by simp only; omega, ?_, numb_in (by omega) (by omega)⟩
      simp only [numb_pb]; omega
    split
    · exact PGood.fail s p
    rename_i hc
    simp only [not_or, not_and, Int.not_lt] at hc
    obtain ⟨c0, c3, c256⟩ := hc
    obtain ⟨g1, g2, g3, g4, g5, gt, gl, gm⟩ := qLen_good (s := s) (p := p) (by omega) c0
    split
    · rename_i hk
      have hcc := c3 hk
      have hsz : ((s.extract (qLen s p).2.toNat ((qLen s p).2 + (qLen s p).1.2).toNat).size : Int) = (qLen s p).1.2 := by
        simp only [ByteArray.size_extract]; omega
      have := gt hk _ hsz
      refine ⟨.mk (by simp) (by simp) (by simp), by simp only; omega, fun _ => ⟨by simp only; omega, by simp only; omega, ?_, .mk (by omega) (by omega) (by simp)⟩⟩
      simp only [text_pb, pTx, List.length_append, toList_len]
      omega
    · rename_i hk
      have hk45 : (qLen s p).1.1 = 4 ∨ (qLen s p).1.1 = 5 := by omega
      have hn := c256 hk
      obtain ⟨i1, i2, i3⟩ := qItems_good (qVal s u 1) (qVal s u (d - 1)) s (qVal_good s u 1) (qVal_good s u (d - 1)) (qLen s p).1.1 hk45 (qLen s p).1.2.toNat [] [] (qLen s p).2.toNat (by simp; omega) (by simp; omega) (by simp)
      refine ⟨i1, i2, fun h => ?_⟩
      replace i3 := i3 h (by clear i3; omega)
      obtain ⟨j1, j2, ss, xs, j3, j6, j7, j8⟩ := i3
      refine ⟨by omega, j2, ?_, ?_⟩
      · rw [j6]
        rcases hk45 with hk | hk
        · have e := gl hk xs.length (by omega)
          rw [hk] at j7 ⊢
          rw [if_neg (by decide)] at j7
          simp only [Nd.pb, List.nil_append]
          rw [if_neg (by decide), if_neg (by decide), if_neg (by decide), if_neg (by decide), if_pos trivial, List.length_append]
          omega
        · have e := gm hk xs.length (by omega)
          rw [hk] at j7 ⊢
          rw [if_pos rfl] at j7
          simp only [Nd.pb, List.nil_append]
          rw [if_neg (by decide), if_neg (by decide), if_neg (by decide), if_neg (by decide), if_neg (by decide), List.length_append]
          omega
      · rw [j6]
        exact .mk (by omega) (by omega) (by simpa using j8)
def qDec (V : ByteArray → Bool) (s : ByteArray) : Nd × Int :=
  if 65536 < s.size then (Nd.zero, 4)
  else if (qVal s (s.size + 1) 8 0).2 = s.size ∧ (qVal s (s.size + 1) 8 0).1.validB V 8 = true ∧ ofL (qVal s (s.size + 1) 8 0).1.pb = s then ((qVal s (s.size + 1) 8 0).1, 0) else (Nd.zero, 4)
theorem qDec_eq (V : ByteArray → Bool) (s : ByteArray) : qDec V s = gDec pkC V s := by
  unfold qDec
  by_cases hg : gGood pkC V s
  · obtain ⟨x, h1, h2, h3, h4⟩ := gDec_iff.1 hg
    have hD : gDec pkC V s = (x, 0) := by rw [h4]; exact gDec_back h1 h2 h3
    have h3' : x.pb.length ≤ 65536 := h3
    have h4' : s = ofL x.pb := h4
    have hz : s.size = x.pb.length := by rw [h4', ofL_size]
    have hr := qVal_back (s := s) x (s.size + 1) 8 h1 h2 [] [] (by rw [h4']; simp) (by simp)
    simp only [List.nil_append, List.length_nil] at hr
    rw [hD, if_neg (by omega), hr]
    simp only
    rw [if_pos ⟨by rw [hz], h1, h4'.symm⟩]
  · rw [gDec_zero hg]
    split
    · rfl
    · rename_i hs
      rw [if_neg]
      rintro ⟨h1, h2, h3⟩
      obtain ⟨g1, g2, g3⟩ := qVal_good s (s.size + 1) 8 0
      obtain ⟨_, _, g5, g6⟩ := g3 (by omega)
      have g5' : (pkC.E (qVal s (s.size + 1) 8 0).1).length ≤ 65536 := by
        show (qVal s (s.size + 1) 8 0).1.pb.length ≤ 65536
        omega
      exact hg (gDec_iff.2 ⟨_, h2, g6, g5', h3.symm⟩)
end Go.AL
