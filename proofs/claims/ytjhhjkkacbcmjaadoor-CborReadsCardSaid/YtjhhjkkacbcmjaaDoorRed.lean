/- The reader's rest never grows, and what it reads is not too large; no program in sight. -/
import Derived.Test.YtjhhjkkacbcmjaaDoorNod1
set_option linter.unusedVariables false
namespace Go.AL
open Go Go.RowKit

theorem take_le (r : Rs) (n : Int) : (r.take n).2.s.size ≤ r.s.size := by
  unfold Rs.take
  split
  · exact Nat.le_refl _
  · simp only [ByteArray.size_extract]; omega
theorem byte_le (r : Rs) : r.byte.2.s.size ≤ r.s.size := take_le r 1
theorem uint_le (r : Rs) (k : Int) : (r.uint k).2.s.size ≤ r.s.size := take_le r k
theorem fits_le (r : Rs) (n : Int) : (r.fits n).2.s.size ≤ r.s.size ∧ ((r.fits n).1 ≤ r.s.size) := by
  unfold Rs.fits
  split
  · exact ⟨Nat.le_refl _, by omega⟩
  · exact ⟨Nat.le_refl _, by omega⟩
theorem cHead_le (r : Rs) : (cHead r).2.s.size ≤ r.s.size := by
  have h1 := byte_le r
  unfold cHead
  split
  · exact h1
  · split
    · exact h1
    · exact Nat.le_trans (uint_le _ _) h1
theorem uint_range {r : Rs} {i : Nat} (hi : i ≤ 3) : 0 ≤ (r.uint (2 ^ i)).1 ∧ (r.uint (2 ^ i)).1 < 18446744073709551616 := by
  by_cases h : (r.uint (2 ^ i)).2.bad = false
  · have h256 : (256 : Int) ^ (2 ^ i) ≤ 18446744073709551616 := by
      match i, hi with
      | 0, _ | 1, _ | 2, _ | 3, _ => decide +kernel
    have := uint_good hi h
    omega
  · have hb : (r.take (2 ^ i)).2.bad = true := by
      have : (r.uint (2 ^ i)).2 = (r.take (2 ^ i)).2 := rfl
      rw [this] at h; simpa using h
    have he : (r.take (2 ^ i)).1 = eS := by
      unfold Rs.take at hb ⊢
      split
      · rfl
      · rename_i hn; rw [if_neg hn] at hb; simp at hb
    unfold Rs.uint
    rw [he]
    exact ⟨Int.le_refl 0, show (0 : Int) < 18446744073709551616 by decide⟩
theorem cHead_range (r : Rs) : 0 ≤ (cHead r).1.1 ∧ (cHead r).1.1 < 8 ∧ 0 ≤ (cHead r).1.2 ∧ (cHead r).1.2 < 18446744073709551616 := by
  have hb := byte_range r
  unfold cHead
  split
  · refine ⟨?_, ?_, ?_, ?_⟩ <;> (simp only; omega)
  · split
    · refine ⟨?_, ?_, ?_, ?_⟩ <;> (simp only; omega)
    · rename_i h1 h2
      have hu := uint_range (r := r.byte.2) (i := (r.byte.1 % 32 - 24).toNat) (by omega)
      exact ⟨by simp only; omega, by simp only; omega, hu.1, hu.2⟩
theorem cText_le (r : Rs) (n : Int) : (cText r n).2.s.size ≤ r.s.size := Nat.le_trans (take_le _ _) (fits_le r n).1
theorem cText_size (r : Rs) (n : Int) : (cText r n).1.size ≤ r.s.size := by
  unfold cText Rs.take
  have := (fits_le r n).1
  split
  · exact Nat.zero_le _
  · simp only [ByteArray.size_extract]; omega
theorem cName_le (r : Rs) : (cName r).2.s.size ≤ r.s.size ∧ (cName r).1.size ≤ r.s.size := by
  have h := cHead_le r
  unfold cName
  split
  · exact ⟨Nat.le_trans (cText_le _ _) h, Nat.le_trans (cText_size _ _) h⟩
  · exact ⟨Nat.le_trans (cText_le _ _) h, Nat.le_trans (cText_size _ _) h⟩
theorem cItems_le (f : Rs → Nd × Rs) (k : Int) (B : Nat) (hf : ∀ r : Rs, r.s.size ≤ B → (f r).2.s.size ≤ B ∧ (f r).1.Ok) : ∀ (c : Nat) (ns : List ByteArray) (is : List Nd) (r : Rs), r.s.size ≤ B → ns.length + c ≤ 1000000000 → is.length + c ≤ 1000000000 → (∀ x ∈ is, x.Ok) → (cItems f k c ns is r).2.s.size ≤ B ∧ (cItems f k c ns is r).1.Ok
  | 0, ns, is, r, hr, h1, h2, h3 => ⟨hr, .mk (by omega) (by omega) h3⟩
  | c + 1, ns, is, r, hr, h1, h2, h3 => by
    unfold cItems
    have key : ∀ (y : Nd), y.Ok → ∀ x ∈ is ++ [y], x.Ok := fun y hy x hx => by
      rcases List.mem_append.1 hx with h | h
      · exact h3 x h
      · rw [List.mem_singleton.1 h]; exact hy
    split
    · exact ⟨hr, .mk (by omega) (by omega) h3⟩
    · split
      · have h := hf (cName r).2 (Nat.le_trans (cName_le r).1 hr)
        exact cItems_le f k B hf c _ _ _ h.1 (by simp; omega) (by simp; omega) (key _ h.2)
      · have h := hf r hr
        exact cItems_le f k B hf c _ _ _ h.1 (by omega) (by simp; omega) (key _ h.2)
theorem zero_ok : Nd.zero.Ok := .mk (by simp) (by simp) (by simp)
theorem cNode_le (B : Nat) (hB : B ≤ 1000000000) : ∀ (d : Nat) (r : Rs), r.s.size ≤ B → (cNode d r).2.s.size ≤ B ∧ (cNode d r).1.Ok
  | 0, r, hr => ⟨Nat.le_trans (cHead_le r) hr, zero_ok⟩
  | d + 1, r, hr => by
    obtain ⟨m, n, q, hh⟩ : ∃ m n q, cHead r = ((m, n), q) := ⟨_, _, _, rfl⟩
    have hq : q.s.size ≤ B := by have := cHead_le r; rw [hh] at this; exact Nat.le_trans this hr
    have hf := fits_le q n
    rw [cNode_hd hh]
    split
    · exact ⟨hq, .mk (by simp) (by simp) (by simp)⟩
    split
    · exact ⟨hq, .mk (by simp) (by simp) (by simp)⟩
    split
    · exact ⟨Nat.le_trans (cText_le q n) hq, .mk (by simp) (by simp) (by simp)⟩
    split
    · exact cItems_le (cNode d) 4 B (cNode_le B hB d) _ _ _ _ (Nat.le_trans hf.1 hq) (by simp; omega) (by simp; omega) (by simp)
    split
    · exact cItems_le (cNode d) 5 B (cNode_le B hB d) _ _ _ _ (Nat.le_trans hf.1 hq) (by simp; omega) (by simp; omega) (by simp)
    split
    · exact ⟨hq, .mk (by simp) (by simp) (by simp)⟩
    · exact ⟨hq, zero_ok⟩
end Go.AL
/- The document's reader of the second serialisation as plain functions, and that it reads what was written; no program in sight. -/
set_option linter.unusedVariables false
namespace Go.AL
open Go Go.RowKit

/-- A head at a place: its type, its number, and the place after it, or -1. -/
def rRead (s : ByteArray) (p : Nat) : (Int × Int) × Int :=
  if s.size ≤ p then ((0, 0), -1)
  else if bAt s p % 32 < 24 then ((bAt s p / 32, bAt s p % 32), (p : Int) + 1)
  else if 27 < bAt s p % 32 then ((0, 0), -1)
  else if (s.size : Int) - p - 1 < 2 ^ (bAt s p % 32 - 24).toNat then ((0, 0), -1)
  else ((bAt s p / 32, ((s.data.toList.drop (p + 1)).take (2 ^ (bAt s p % 32 - 24).toNat)).foldl u64Step 0), (p : Int) + 1 + 2 ^ (bAt s p % 32 - 24).toNat)
def rText (s : ByteArray) (p : Nat) : ByteArray × Int :=
  if (rRead s p).2 < 0 ∨ (rRead s p).1.1 ≠ 3 ∨ (s.size : Int) - (rRead s p).2 < (rRead s p).1.2 then (eS, -1)
  else (s.extract (rRead s p).2.toNat ((rRead s p).2 + (rRead s p).1.2).toNat, (rRead s p).2 + (rRead s p).1.2)
def rItems (f : Nat → Nd × Int) (s : ByteArray) (k : Int) : Nat → List ByteArray → List Nd → Nat → Nd × Int
  | 0, ns, is, q => (.mk k false 0 eS ns is, q)
  | c + 1, ns, is, q =>
    if k = 5 then
      (if (rText s q).2 < 0 then (Nd.zero, -1)
       else if (f (rText s q).2.toNat).2 < 0 then (Nd.zero, -1)
       else rItems f s k c (ns ++ [(rText s q).1]) (is ++ [(f (rText s q).2.toNat).1]) (f (rText s q).2.toNat).2.toNat)
    else (if (f q).2 < 0 then (Nd.zero, -1) else rItems f s k c ns (is ++ [(f q).1]) (f q).2.toNat)
def rVal (s : ByteArray) : Nat → Nat → Nd × Int
  | 0, p => (Nd.zero, -1)
  | d + 1, p =>
    if s.size ≤ p then (Nd.zero, -1)
    else if bAt s p = 244 ∨ bAt s p = 245 then (.mk 1 (decide (bAt s p = 245)) 0 eS [] [], (p : Int) + 1)
    else if bAt s p = 246 then (Nd.zero, (p : Int) + 1)
    else
      let m := (rRead s p).1.1
      let n := (rRead s p).1.2
      let q := (rRead s p).2
      if q < 0 ∨ 5 < m ∨ m = 2 ∨ (m < 2 ∧ 9223372036854775807 < n) ∨ (3 < m ∧ 256 < n) then (Nd.zero, -1)
      else if m = 0 then (.mk 2 false (i64 n) eS [] [], q)
      else if m = 1 then (.mk 2 false (i64 (-1 - i64 n)) eS [] [], q)
      else if m = 3 then (.mk 3 false 0 (rText s p).1 [] [], (rText s p).2)
      else rItems (rVal s d) s m n.toNat [] [] q.toNat

/-! ### it reads what was written -/
theorem bAt_mid (a : List UInt8) (x : UInt8) (b : List UInt8) : bAt (ofL (a ++ x :: b)) (a.length : Nat) = (x.toNat : Int) := by
  simp [bAt, ofL]
theorem bAt_ofLn (l : List UInt8) (p : Nat) (h : p < l.length) : bAt (ofL l) (p : Nat) = (l[p].toNat : Int) := by
  simp [bAt, ofL, h]
theorem rRead_back (a b : List UInt8) (m n : Nat) (hm : m < 8) (hn : n < 18446744073709551616) : rRead (ofL (a ++ (hdL m n ++ b))) a.length = (((m : Int), (n : Int)), ((a ++ hdL m n).length : Int)) := by
  have hb : ∀ j, j < 32 → (UInt8.ofNat (32 * m + j)).toNat = 32 * m + j := fun j hj => by
    rw [UInt8.toNat_ofNat']; omega
  unfold hdL
  split
  · rename_i h
    rw [List.singleton_append]
    unfold rRead
    rw [bAt_mid, hb n (by omega), if_neg (by rw [ofL_size]; simp), if_pos (by omega)]
    refine Prod.ext (Prod.ext ?_ ?_) ?_
    · simp only; omega
    · simp only; omega
    · simp
  · have key : ∀ (i : Nat), i < 4 → n < 256 ^ (2 ^ i) → rRead (ofL (a ++ (UInt8.ofNat (32 * m + (24 + i)) :: (bigL (2 ^ i) n ++ b)))) a.length = (((m : Int), (n : Int)), ((a ++ UInt8.ofNat (32 * m + (24 + i)) :: bigL (2 ^ i) n).length : Int)) := by
      intro i hi hlt
      have hk : 256 ^ (2 ^ i) ≤ 18446744073709551616 := by
        match i, hi with
        | 0, _ | 1, _ | 2, _ | 3, _ => decide
      have e : (((32 * m + (24 + i) : Nat) : Int) % 32 - 24).toNat = i := by omega
      have e2 : ((2 ^ i : Nat) : Int) = 2 ^ i := by simp
      unfold rRead
      rw [bAt_mid, hb _ (by omega), if_neg (by rw [ofL_size]; simp), if_neg (by omega), if_neg (by omega), e, if_neg (by rw [ofL_size, ← e2]; simp [bigL_len]; omega)]
      refine Prod.ext (Prod.ext ?_ ?_) ?_
      · simp only; omega
      · simp only [ofL_toList]
        have hd : (a ++ (UInt8.ofNat (32 * m + (24 + i)) :: (bigL (2 ^ i) n ++ b))).drop (a.length + 1) = bigL (2 ^ i) n ++ b := by
          rw [List.drop_append]; simp
        rw [hd, List.take_append_of_le_length (by rw [bigL_len]; exact Nat.le_refl _), List.take_of_length_le (by rw [bigL_len]; exact Nat.le_refl _)]
        have := big_fold (2 ^ i) n 0 (by rw [Nat.mod_eq_of_lt hlt]; omega)
        rw [Nat.mod_eq_of_lt hlt, Nat.zero_mul, Nat.zero_add] at this
        exact this
      · simp only [List.length_append, List.length_cons, bigL_len]; rw [← e2]; omega
    split
    · exact key 0 (by omega) (by simpa using ‹n < 256›)
    · split
      · exact key 1 (by omega) (by simpa using ‹n < 65536›)
      · split
        · exact key 2 (by omega) (by simpa using ‹n < 4294967296›)
        · exact key 3 (by omega) (by simpa using hn)
theorem extract_mid (a s b : List UInt8) : (ofL (a ++ (s ++ b))).extract a.length (a ++ s).length = ofL s := by
  rw [ofL_extract]
  simp
theorem rText_back (a : List UInt8) (s : ByteArray) (b : List UInt8) (hs : s.size < 18446744073709551616) : rText (ofL (a ++ (hdL 3 s.size ++ s.data.toList ++ b))) a.length = (s, ((a ++ (hdL 3 s.size ++ s.data.toList)).length : Int)) := by
  have h := rRead_back a (s.data.toList ++ b) 3 s.size (by omega) hs
  rw [← List.append_assoc (hdL 3 s.size)] at h
  have hl := toList_len s
  unfold rText
  rw [h]
  simp only
  rw [if_neg (by rw [ofL_size]; simp only [List.length_append]; omega)]
  refine Prod.ext ?_ ?_
  · simp only
    have e := extract_mid (a ++ hdL 3 s.size) s.data.toList b
    rw [ofL_of] at e
    have e1 : ((a ++ hdL 3 s.size) ++ (s.data.toList ++ b)) = a ++ (hdL 3 s.size ++ s.data.toList ++ b) := by simp [List.append_assoc]
    rw [e1] at e
    have e2 : ((((a ++ hdL 3 s.size).length : Nat) : Int) + ((s.size : Nat) : Int)).toNat = ((a ++ hdL 3 s.size) ++ s.data.toList).length := by
      rw [List.length_append (as := a ++ hdL 3 s.size), hl]; omega
    rw [e2, Int.toNat_natCast]
    exact e
  · simp only [List.length_append]; omega
theorem rItems_list (f : Nat → Nd × Int) (s : ByteArray) : ∀ (xs : List Nd) (ns : List ByteArray) (acc : List Nd) (a b : List UInt8), s = ofL (a ++ (Nd.cbs xs ++ b)) → (∀ x ∈ xs, ∀ a b : List UInt8, s = ofL (a ++ (x.cb ++ b)) → f a.length = (x, ((a ++ x.cb).length : Int))) →
    rItems f s 4 xs.length ns acc a.length = (.mk 4 false 0 eS ns (acc ++ xs), ((a ++ Nd.cbs xs).length : Int))
  | [], ns, acc, a, b, hs, h => by simp [rItems, Nd.cbs]
  | x :: xs, ns, acc, a, b, hs, h => by
    simp only [Nd.cbs, List.append_assoc] at hs
    have h1 := h x (by simp) a (Nd.cbs xs ++ b) hs
    have hs' : s = ofL ((a ++ x.cb) ++ (Nd.cbs xs ++ b)) := by rw [hs]; simp [List.append_assoc]
    have ih := rItems_list f s xs ns (acc ++ [x]) (a ++ x.cb) b hs' (fun y hy => h y (by simp [hy]))
    rw [List.length_cons, rItems, if_neg (by decide), h1]
    simp only
    rw [if_neg (by omega), Int.toNat_natCast, ih]
    simp [Nd.cbs, List.append_assoc]
theorem rItems_map (f : Nat → Nd × Int) (s : ByteArray) : ∀ (ss : List ByteArray) (xs : List Nd) (ns : List ByteArray) (acc : List Nd) (a b : List UInt8), ss.length = xs.length → (∀ t ∈ ss, t.size ≤ 65536) → s = ofL (a ++ (Nd.cbm ss xs ++ b)) → (∀ x ∈ xs, ∀ a b : List UInt8, s = ofL (a ++ (x.cb ++ b)) → f a.length = (x, ((a ++ x.cb).length : Int))) →
    rItems f s 5 xs.length ns acc a.length = (.mk 5 false 0 eS (ns ++ ss) (acc ++ xs), ((a ++ Nd.cbm ss xs).length : Int))
  | [], [], ns, acc, a, b, _, _, hs, h => by simp [rItems, Nd.cbm]
  | t :: ss, x :: xs, ns, acc, a, b, hl, hsz, hs, h => by
    simp only [Nd.cbm] at hs
    have ht := rText_back a t (x.cb ++ (Nd.cbm ss xs ++ b)) (by have := hsz t (by simp); omega)
    have e1 : s = ofL (a ++ (hdL 3 t.size ++ t.data.toList ++ (x.cb ++ (Nd.cbm ss xs ++ b)))) := by rw [hs]; simp [List.append_assoc]
    rw [← e1] at ht
    have e2 : s = ofL ((a ++ (hdL 3 t.size ++ t.data.toList)) ++ (x.cb ++ (Nd.cbm ss xs ++ b))) := by rw [hs]; simp [List.append_assoc]
    have h1 := h x (by simp) _ _ e2
    have e3 : s = ofL (((a ++ (hdL 3 t.size ++ t.data.toList)) ++ x.cb) ++ (Nd.cbm ss xs ++ b)) := by rw [hs]; simp [List.append_assoc]
    have ih := rItems_map f s ss xs (ns ++ [t]) (acc ++ [x]) ((a ++ (hdL 3 t.size ++ t.data.toList)) ++ x.cb) b (by simpa using hl) (fun y hy => hsz y (by simp [hy])) e3 (fun y hy => h y (by simp [hy]))
    rw [List.length_cons, rItems, if_pos rfl, ht]
    simp only
    rw [if_neg (by omega), Int.toNat_natCast, h1]
    simp only
    rw [if_neg (by omega), Int.toNat_natCast, ih]
    simp [Nd.cbm, List.append_assoc]
  | [], _ :: _, _, _, _, _, hl, _, _, _ => by simp at hl
  | _ :: _, [], _, _, _, _, hl, _, _, _ => by simp at hl
theorem hd_byte (m n : Nat) (hm : m < 8) : ∃ (x : UInt8) (t : List UInt8), hdL m n = x :: t ∧ x.toNat / 32 = m ∧ (x.toNat % 32 = n ∨ 24 ≤ x.toNat % 32) := by
  have hb : ∀ j, j < 32 → (UInt8.ofNat (32 * m + j)).toNat = 32 * m + j := fun j hj => by
    rw [UInt8.toNat_ofNat']; omega
  unfold hdL
  repeat' split
  · exact ⟨_, _, rfl, by rw [hb n (by omega)]; omega, .inl (by rw [hb n (by omega)]; omega)⟩
  · exact ⟨_, _, rfl, by rw [hb 24 (by omega)]; omega, .inr (by rw [hb 24 (by omega)]; omega)⟩
  · exact ⟨_, _, rfl, by rw [hb 25 (by omega)]; omega, .inr (by rw [hb 25 (by omega)]; omega)⟩
  · exact ⟨_, _, rfl, by rw [hb 26 (by omega)]; omega, .inr (by rw [hb 26 (by omega)]; omega)⟩
  · exact ⟨_, _, rfl, by rw [hb 27 (by omega)]; omega, .inr (by rw [hb 27 (by omega)]; omega)⟩
theorem rVal_hd {s : ByteArray} {a b : List UInt8} {m n d : Nat} (hm : m < 6) (hn : n < 18446744073709551616) (hs : s = ofL (a ++ (hdL m n ++ b))) : rVal s (d + 1) a.length =
    if m = 2 ∨ (m < 2 ∧ 9223372036854775807 < n) ∨ (3 < m ∧ 256 < n) then (Nd.zero, -1)
    else if m = 0 then (.mk 2 false (i64 n) eS [] [], ((a ++ hdL m n).length : Int))
    else if m = 1 then (.mk 2 false (i64 (-1 - i64 n)) eS [] [], ((a ++ hdL m n).length : Int))
    else if m = 3 then (.mk 3 false 0 (rText s a.length).1 [] [], (rText s a.length).2)
    else rItems (rVal s d) s m n [] [] (a ++ hdL m n).length := by
  obtain ⟨x, t, e, e1, e2⟩ := hd_byte m n (by omega)
  have hB : bAt s (a.length : Nat) = (x.toNat : Int) := by rw [hs, e, List.cons_append, bAt_mid]
  have hR := rRead_back a b m n (by omega) hn
  rw [← hs] at hR
  have hsz : ¬ s.size ≤ a.length := by rw [hs, ofL_size, e]; simp
  rw [rVal, if_neg hsz, hB, if_neg (by omega), if_neg (by omega), hR]
  simp only
  by_cases c : m = 2 ∨ (m < 2 ∧ 9223372036854775807 < n) ∨ (3 < m ∧ 256 < n)
  · rw [if_pos c, if_pos (by omega)]
  · rw [if_neg c, if_neg (by omega)]
    have q0 : ((m : Int) = 0) = (m = 0) := propext ⟨fun h => by omega, fun h => by omega⟩
    have q1 : ((m : Int) = 1) = (m = 1) := propext ⟨fun h => by omega, fun h => by omega⟩
    have q3 : ((m : Int) = 3) = (m = 3) := propext ⟨fun h => by omega, fun h => by omega⟩
    simp only [q0, q1, q3, Int.toNat_natCast]
theorem rVal_back {V : ByteArray → Bool} {s : ByteArray} : ∀ (x : Nd) (d : Nat), x.validB V d = true → x.In → ∀ a b : List UInt8, s = ofL (a ++ (x.cb ++ b)) → rVal s d a.length = (x, ((a ++ x.cb).length : Int))
  | .mk k b n tx ns is, 0, hv, _, _, _, _ => by
    rw [valid_mk] at hv
    have := hv.1
    simp at this
  | .mk k b n tx ns is, d + 1, hv, hin, A, B, hs => by
    rw [valid_mk] at hv
    obtain ⟨_, h2, h3, h4, h5, h6, h7, h8⟩ := hv
    cases hin with
    | mk i1 i2 i3 =>
    simp only [Nd.fieldsOK, Bool.and_eq_true, Bool.or_eq_true, decide_eq_true_eq, Bool.not_eq_true'] at h4
    obtain ⟨⟨⟨⟨f1, f2⟩, f3⟩, f4⟩, f5⟩ := h4
    have hk : k = 0 ∨ k = 1 ∨ k = 2 ∨ k = 3 ∨ k = 4 ∨ k = 5 := by omega
    have hi : ∀ y ∈ is, ∀ a b : List UInt8, s = ofL (a ++ (y.cb ++ b)) → rVal s d a.length = (y, ((a ++ y.cb).length : Int)) := fun y hy a b h =>
      rVal_back y d (by have := h8 y hy; rwa [show ((d + 1 : Nat) : Int) - 1 = d by omega] at this) (i3 y hy) a b h
    have e0 : k ≠ 1 → b = false := fun h => f1.resolve_left h
    have e1 : k ≠ 2 → n = 0 := fun h => f2.resolve_left h
    have e2 : k ≠ 3 → tx = eS := fun h => f3.resolve_left h
    have e3 : k ≠ 4 → k ≠ 5 → is = [] := fun h h' => List.eq_nil_of_length_eq_zero (by rcases f4 with (h'' | h'') | h'' <;> first | (exact absurd h'' h) | (exact absurd h'' h') | omega)
    have e4 : k ≠ 5 → ns = [] := fun h => List.eq_nil_of_length_eq_zero (by rcases f5 with h' | h'; exact absurd h' h; omega)
    have simple : ∀ (j : Nat), j < 24 → s = ofL (A ++ (hdL 7 j ++ B)) → bAt s (A.length : Nat) = 224 + j ∧ ¬ s.size ≤ A.length := fun j hj h => by
      have : hdL 7 j = [UInt8.ofNat (32 * 7 + j)] := by simp [hdL, hj]
      rw [this] at h
      rw [h, List.singleton_append, bAt_mid, UInt8.toNat_ofNat', ofL_size]
      refine ⟨by omega, by simp⟩
    rcases hk with rfl | rfl | rfl | rfl | rfl | rfl
    · rw [e0 (by decide), e1 (by decide), e2 (by decide), e3 (by decide) (by decide), e4 (by decide)] at hs ⊢
      rw [show (Nd.mk 0 false 0 eS [] []).cb = hdL 7 22 by simp [Nd.cb]] at hs ⊢
      obtain ⟨h1, h2⟩ := simple 22 (by omega) hs
      rw [rVal, if_neg h2, h1, if_neg (by decide), if_pos (by decide)]
      simp [Nd.zero, eS, hdL]
    · rw [e1 (by decide), e2 (by decide), e3 (by decide) (by decide), e4 (by decide)] at hs ⊢
      cases b with
      | true =>
        rw [show (Nd.mk 1 true 0 eS [] []).cb = hdL 7 21 by simp [Nd.cb]] at hs ⊢
        obtain ⟨h1, h2⟩ := simple 21 (by omega) hs
        rw [rVal, if_neg h2, h1, if_pos (by decide)]
        simp [hdL]
      | false =>
        rw [show (Nd.mk 1 false 0 eS [] []).cb = hdL 7 20 by simp [Nd.cb]] at hs ⊢
        obtain ⟨h1, h2⟩ := simple 20 (by omega) hs
        rw [rVal, if_neg h2, h1, if_pos (by decide)]
        simp [hdL]
    · rw [e0 (by decide), e2 (by decide), e3 (by decide) (by decide), e4 (by decide)] at hs ⊢
      by_cases hn : n < 0
      · rw [show (Nd.mk 2 false n eS [] []).cb = hdL 1 (-1 - n).toNat by simp [Nd.cb, hn]] at hs ⊢
        rw [rVal_hd (by omega) (by omega) hs, if_neg (by omega), if_neg (by decide), if_pos rfl, show (((-1 - n).toNat : Nat) : Int) = -1 - n by omega, i64_id (n := -1 - n) (by omega) (by omega), show -1 - (-1 - n) = n by omega, i64_id (by omega) (by omega)]
      · rw [show (Nd.mk 2 false n eS [] []).cb = hdL 0 n.toNat by simp [Nd.cb, hn]] at hs ⊢
        rw [rVal_hd (by omega) (by omega) hs, if_neg (by omega), if_pos rfl, show ((n.toNat : Nat) : Int) = n by omega, i64_id (by omega) (by omega)]
    · rw [e0 (by decide), e1 (by decide), e3 (by decide) (by decide), e4 (by decide)] at hs ⊢
      have ht : tx.size ≤ 65536 := by simp only [textB, Bool.and_eq_true, decide_eq_true_eq] at h5; omega
      rw [show (Nd.mk 3 false 0 tx [] []).cb = hdL 3 tx.size ++ tx.data.toList by simp [Nd.cb]] at hs ⊢
      have htx := rText_back A tx B (by omega)
      rw [← hs] at htx
      rw [List.append_assoc] at hs
      rw [rVal_hd (by omega) (by omega) hs, if_neg (by omega), if_neg (by decide), if_neg (by decide), if_pos rfl, htx]
    · rw [e0 (by decide), e1 (by decide), e2 (by decide), e4 (by decide)] at hs ⊢
      rw [show (Nd.mk 4 false 0 eS [] is).cb = hdL 4 is.length ++ Nd.cbs is by simp [Nd.cb]] at hs ⊢
      rw [List.append_assoc] at hs
      rw [rVal_hd (by omega) (by omega) hs, if_neg (by omega), if_neg (by decide), if_neg (by decide), if_neg (by decide)]
      have := rItems_list (rVal s d) s is [] [] (A ++ hdL 4 is.length) B (by rw [hs]; simp [List.append_assoc]) hi
      rw [show ((4 : Nat) : Int) = 4 from rfl, this]
      simp [List.append_assoc]
    · rw [e0 (by decide), e1 (by decide), e2 (by decide)] at hs ⊢
      have hl := (h7 rfl).2
      have hsz : ∀ s ∈ ns, s.size ≤ 65536 := fun s hs => by
        have := (((namesOk_iff (textB V) ns []).1 (h7 rfl).1).2 s hs).2
        simp only [textB, Bool.and_eq_true, decide_eq_true_eq] at this; omega
      rw [show (Nd.mk 5 false 0 eS ns is).cb = hdL 5 is.length ++ Nd.cbm ns is by simp [Nd.cb]] at hs ⊢
      rw [List.append_assoc] at hs
      rw [rVal_hd (by omega) (by omega) hs, if_neg (by omega), if_neg (by decide), if_neg (by decide), if_neg (by decide)]
      have := rItems_map (rVal s d) s ns is [] [] (A ++ hdL 5 is.length) B hl hsz (by rw [hs]; simp [List.append_assoc]) hi
      rw [show ((5 : Nat) : Int) = 5 from rfl, this]
      simp [List.append_assoc]
termination_by x => SizeOf.sizeOf x
decreasing_by
  have := List.sizeOf_lt_of_mem hy
  simp only [Nd.mk.sizeOf_spec]
  omega
end Go.AL
/- What the document's reader of the second serialisation takes, and that both readers take the same; no program in sight. -/
set_option linter.unusedVariables false
namespace Go.AL
open Go Go.RowKit

theorem rRead_good {s : ByteArray} {p : Nat} (h : (rRead s p).2 ≠ -1) : (p : Int) < (rRead s p).2 ∧ (rRead s p).2 ≤ s.size ∧ 0 ≤ (rRead s p).1.1 ∧ (rRead s p).1.1 < 8 ∧ 0 ≤ (rRead s p).1.2 ∧ (rRead s p).1.2 < 18446744073709551616 ∧
    ∀ m n' : Nat, (n' : Int) ≤ (rRead s p).1.2 → ((hdL m n').length : Int) + p ≤ (rRead s p).2 := by
  have hb := bAt_range s p
  unfold rRead at h ⊢
  split at h
  · simp at h
  · rename_i h0
    rw [if_neg h0]
    split at h
    · rename_i hc
      rw [if_pos hc]
      refine ⟨by simp only; omega, by simp only; omega, by simp only; omega, by simp only; omega, by simp only; omega, by simp only; omega, fun m n' hn => ?_⟩
      simp only at hn ⊢
      rw [hdL_len1 (by omega)]; omega
    · rename_i hc
      rw [if_neg hc]
      split at h
      · simp at h
      · rename_i hc2
        rw [if_neg hc2]
        split at h
        · simp at h
        · rename_i hc3
          rw [if_neg hc3]
          obtain ⟨i, hi, hi3⟩ : ∃ i : Nat, (bAt s p % 32 - 24).toNat = i ∧ i ≤ 3 := ⟨_, rfl, by omega⟩
          rw [hi] at h hc3 ⊢
          have e2 : ((2 ^ i : Nat) : Int) = 2 ^ i := by simp
          have hp : 1 ≤ 2 ^ i := Nat.one_le_two_pow
          have h8 : 2 ^ i ≤ 8 := by
            match i, hi3 with
            | 0, _ | 1, _ | 2, _ | 3, _ => decide
          have h256 : (256 : Int) ^ (2 ^ i) ≤ 18446744073709551616 := by
            match i, hi3 with
            | 0, _ | 1, _ | 2, _ | 3, _ => decide +kernel
          have hl : ((s.data.toList.drop (p + 1)).take (2 ^ i)).length = 2 ^ i := by
            rw [List.length_take, List.length_drop, toList_len]; omega
          have hf := fold_range ((s.data.toList.drop (p + 1)).take (2 ^ i)) 0 0 (by omega) (by decide) (by rw [hl]; omega)
          rw [hl, Nat.zero_add] at hf
          refine ⟨by simp only; omega, by simp only; omega, by simp only; omega, by simp only; omega, hf.1, Int.lt_of_lt_of_le hf.2 h256, fun m n' hn => ?_⟩
          simp only at hn ⊢
          have : (hdL m n').length ≤ 1 + 2 ^ i := by
            refine hdL_len_pow hi3 ?_
            have h1 : ((n' : Nat) : Int) < ((256 ^ (2 ^ i) : Nat) : Int) := by
              rw [show ((256 ^ (2 ^ i) : Nat) : Int) = (256 : Int) ^ (2 ^ i) by simp]
              exact Int.lt_of_le_of_lt hn hf.2
            omega
          omega
theorem rRead_low (s : ByteArray) (p : Nat) : -1 ≤ (rRead s p).2 := by
  by_cases h : (rRead s p).2 = -1
  · omega
  · have := rRead_good h; omega
theorem rText_good {s : ByteArray} {p : Nat} (h : (rText s p).2 ≠ -1) : (p : Int) < (rText s p).2 ∧ (rText s p).2 ≤ s.size ∧ ((hdL 3 (rText s p).1.size).length : Int) + (rText s p).1.size + p ≤ (rText s p).2 := by
  unfold rText at h ⊢
  split at h
  · simp at h
  · rename_i hc
    rw [if_neg hc]
    simp only [not_or, Int.not_lt, ne_eq, Decidable.not_not] at hc
    obtain ⟨g1, g2, g3, g4, g5, g6, g7⟩ := rRead_good (s := s) (p := p) (by omega)
    have hsz : ((s.extract (rRead s p).2.toNat ((rRead s p).2 + (rRead s p).1.2).toNat).size : Int) = (rRead s p).1.2 := by
      simp only [ByteArray.size_extract]; omega
    have := g7 3 (s.extract (rRead s p).2.toNat ((rRead s p).2 + (rRead s p).1.2).toNat).size (by omega)
    refine ⟨?_, ?_, ?_⟩ <;> (simp only; omega)
theorem rText_low (s : ByteArray) (p : Nat) : -1 ≤ (rText s p).2 := by
  by_cases h : (rText s p).2 = -1
  · omega
  · have := rText_good h; omega

def VGood (s : ByteArray) (p : Nat) (r : Nd × Int) : Prop := r.1.Ok ∧ -1 ≤ r.2 ∧ (r.2 ≠ -1 → (p : Int) < r.2 ∧ r.2 ≤ s.size ∧ (r.1.cb.length : Int) + p ≤ r.2 ∧ r.1.In)
theorem VGood.fail (s : ByteArray) (p : Nat) : VGood s p (Nd.zero, -1) := ⟨zero_ok, by decide, fun h => absurd rfl h⟩

theorem rItems_good (f : Nat → Nd × Int) (s : ByteArray) (hf : ∀ p, VGood s p (f p)) (k : Int) (hk : k = 4 ∨ k = 5) : ∀ (c : Nat) (ns : List ByteArray) (is : List Nd) (q : Nat), ns.length + c ≤ 1000000000 → is.length + c ≤ 1000000000 → (∀ x ∈ is, x.Ok) →
    (rItems f s k c ns is q).1.Ok ∧ -1 ≤ (rItems f s k c ns is q).2 ∧ ((rItems f s k c ns is q).2 ≠ -1 → (q : Int) ≤ s.size → (q : Int) ≤ (rItems f s k c ns is q).2 ∧ (rItems f s k c ns is q).2 ≤ s.size ∧
      ∃ (ss : List ByteArray) (xs : List Nd), xs.length = c ∧ (k = 5 → ss.length = c) ∧ (k = 4 → ss = []) ∧ (rItems f s k c ns is q).1 = .mk k false 0 eS (ns ++ ss) (is ++ xs) ∧ (((if k = 5 then Nd.cbm ss xs else Nd.cbs xs).length : Nat) : Int) + q ≤ (rItems f s k c ns is q).2 ∧ ∀ x ∈ xs, x.In)
  | 0, ns, is, q, h1, h2, h3 => ⟨.mk (by omega) (by omega) h3, by simp only [rItems]; omega, fun _ hq => ⟨by simp [rItems], by simp only [rItems]; exact hq, [], [], rfl, fun _ => rfl, fun _ => rfl, by simp [rItems], by simp [rItems, Nd.cbs, Nd.cbm], by simp⟩⟩
  | c + 1, ns, is, q, h1, h2, h3 => by
    have fail : (Nd.zero, (-1 : Int)).1.Ok ∧ -1 ≤ (Nd.zero, (-1 : Int)).2 := ⟨zero_ok, by decide⟩
    have key : ∀ (y : Nd), y.Ok → ∀ x ∈ is ++ [y], x.Ok := fun y hy x hx => by
      rcases List.mem_append.1 hx with h | h
      · exact h3 x h
      · rw [List.mem_singleton.1 h]; exact hy
    rw [rItems]
    rcases hk with rfl | rfl
    · rw [if_neg (by decide)]
      obtain ⟨f1, f2, f3⟩ := hf q
      split
      · exact ⟨fail.1, fail.2, fun h => absurd rfl h⟩
      · rename_i hn
        obtain ⟨g1, g2, g3, g4⟩ := f3 (by omega)
        obtain ⟨i1, i2, i3⟩ := rItems_good f s hf 4 (.inl rfl) c ns (is ++ [(f q).1]) (f q).2.toNat (by omega) (by simp; omega) (key _ f1)
        refine ⟨i1, i2, fun h hq => ?_⟩
        replace i3 := i3 h (by clear i3 f3; omega)
        clear f3
        obtain ⟨j1, j2, ss, xs, j3, j4, j5, j6, j7, j8⟩ := i3
        refine ⟨by omega, j2, ss, (f q).1 :: xs, by simp [j3], fun h => absurd h (by decide), j5, by rw [j6]; simp, ?_, fun x hx => ?_⟩
        · rw [if_neg (by decide)] at j7 ⊢
          simp only [Nd.cbs, List.length_append]; omega
        · rcases List.mem_cons.1 hx with rfl | hx
          · exact g4
          · exact j8 x hx
    · rw [if_pos rfl]
      split
      · exact ⟨fail.1, fail.2, fun h => absurd rfl h⟩
      · rename_i ht
        obtain ⟨t1, t2, t3⟩ := rText_good (s := s) (p := q) (by omega)
        obtain ⟨f1, f2, f3⟩ := hf (rText s q).2.toNat
        split
        · exact ⟨fail.1, fail.2, fun h => absurd rfl h⟩
        · rename_i hn
          obtain ⟨g1, g2, g3, g4⟩ := f3 (by omega)
          obtain ⟨i1, i2, i3⟩ := rItems_good f s hf 5 (.inr rfl) c (ns ++ [(rText s q).1]) (is ++ [(f (rText s q).2.toNat).1]) (f (rText s q).2.toNat).2.toNat (by simp; omega) (by simp; omega) (key _ f1)
          refine ⟨i1, i2, fun h hq => ?_⟩
          replace i3 := i3 h (by clear i3 f3; omega)
          clear f3
          obtain ⟨j1, j2, ss, xs, j3, j4, j5, j6, j7, j8⟩ := i3
          refine ⟨by omega, j2, (rText s q).1 :: ss, (f (rText s q).2.toNat).1 :: xs, by simp [j3], fun h => by simp [j4 h], fun h => absurd h (by decide), by rw [j6]; simp, ?_, fun x hx => ?_⟩
          · rw [if_pos rfl] at j7 ⊢
            simp only [Nd.cbm, List.length_append, toList_len]; omega
          · rcases List.mem_cons.1 hx with rfl | hx
            · exact g4
            · exact j8 x hx
theorem rVal_good (s : ByteArray) : ∀ (d p : Nat), VGood s p (rVal s d p)
  | 0, p => VGood.fail s p
  | d + 1, p => by
    rw [rVal]
    split
    · exact VGood.fail s p
    rename_i h0
    split
    · refine ⟨.mk (by simp) (by simp) (by simp), by simp only; omega, fun _ => ⟨by simp only; omega, by simp only; omega, ?_, .mk (by omega) (by omega) (by simp)⟩⟩
      simp only [Nd.cb, if_neg (show ¬ (1 : Int) = 0 by decide), if_true]
      rw [hdL_len1 (by split <;> omega)]; omega
    split
    · refine ⟨zero_ok, by simp only; omega, fun _ => ⟨by simp only; omega, by simp only; omega, ?_, zero_in⟩⟩
      simp only [zero_cb]; omega
    simp only
    split
    · exact VGood.fail s p
    rename_i hc
    simp only [not_or, not_and, Int.not_lt] at hc
    obtain ⟨c0, c5, c2, c63, c256⟩ := hc
    obtain ⟨g1, g2, g3, g4, g5, g6, g7⟩ := rRead_good (s := s) (p := p) (by omega)
    split
    · rename_i hm
      have hn := c63 (by omega)
      rw [i64_id (by omega) (by omega)]
      refine ⟨.mk (by simp) (by simp) (by simp), by simp only; omega, fun _ => ⟨g1, g2, ?_, .mk (by omega) (by omega) (by simp)⟩⟩
      simp only [num_cb_eq]
      rw [if_neg (by omega)]
      exact g7 0 _ (by omega)
    split
    · rename_i hm
      have hn := c63 (by omega)
      rw [i64_id (n := (rRead s p).1.2) (by omega) (by omega), i64_id (by omega) (by omega)]
      refine ⟨.mk (by simp) (by simp) (by simp), by simp only; omega, fun _ => ⟨g1, g2, ?_, .mk (by omega) (by omega) (by simp)⟩⟩
      simp only [num_cb_eq]
      rw [if_pos (by omega)]
      exact g7 1 _ (by omega)
    split
    · refine ⟨.mk (by simp) (by simp) (by simp), rText_low s p, fun h => ?_⟩
      obtain ⟨t1, t2, t3⟩ := rText_good h
      refine ⟨t1, t2, ?_, .mk (by omega) (by omega) (by simp)⟩
      simp only [Nd.cb]
      rw [if_neg (by decide), if_neg (by decide), if_neg (by decide), if_pos trivial, List.length_append, toList_len]
      omega
    · rename_i m0 m1 m3
      have hk : (rRead s p).1.1 = 4 ∨ (rRead s p).1.1 = 5 := by omega
      have hn := c256 (by omega)
      obtain ⟨i1, i2, i3⟩ := rItems_good (rVal s d) s (rVal_good s d) (rRead s p).1.1 hk (rRead s p).1.2.toNat [] [] (rRead s p).2.toNat (by simp; omega) (by simp; omega) (by simp)
      refine ⟨i1, i2, fun h => ?_⟩
      replace i3 := i3 h (by clear i3; omega)
      obtain ⟨j1, j2, ss, xs, j3, j4, j5, j6, j7, j8⟩ := i3
      have e := g7 (rRead s p).1.1.toNat xs.length (by omega)
      refine ⟨by omega, j2, ?_, ?_⟩
      · rw [j6]
        rcases hk with hk | hk
        · rw [hk] at j7 e ⊢
          rw [if_neg (by decide)] at j7
          simp only [Nd.cb, List.nil_append]
          rw [if_neg (by decide), if_neg (by decide), if_neg (by decide), if_neg (by decide), if_pos trivial, List.length_append]
          have e : ((hdL 4 xs.length).length : Int) + p ≤ (rRead s p).2 := e
          omega
        · rw [hk] at j7 e ⊢
          rw [if_pos rfl] at j7
          simp only [Nd.cb, List.nil_append]
          rw [if_neg (by decide), if_neg (by decide), if_neg (by decide), if_neg (by decide), if_neg (by decide), List.length_append]
          have e : ((hdL 5 xs.length).length : Int) + p ≤ (rRead s p).2 := e
          omega
      · rw [j6]
        exact .mk (by omega) (by omega) (by simpa using j8)

def rDec (V : ByteArray → Bool) (s : ByteArray) : Nd × Int :=
  if 65536 < s.size then (Nd.zero, 4)
  else if (rVal s 8 0).2 = s.size ∧ (rVal s 8 0).1.validB V 8 = true ∧ ofL (rVal s 8 0).1.cb = s then ((rVal s 8 0).1, 0) else (Nd.zero, 4)
theorem rDec_eq (V : ByteArray → Bool) (s : ByteArray) : rDec V s = cDec V s := by
  unfold rDec
  by_cases hg : cGood V s
  · obtain ⟨x, h1, h2, h3, rfl⟩ := cDec_iff.1 hg
    have hr := rVal_back (s := ofL x.cb) x 8 h1 h2 [] [] (by simp)
    simp only [List.nil_append, List.length_nil] at hr
    rw [cDec_back h1 h2 h3, if_neg (by rw [ofL_size]; omega), hr]
    simp only
    rw [if_pos ⟨by rw [ofL_size], h1, trivial⟩]
  · rw [cDec_zero hg]
    split
    · rfl
    · rename_i hs
      rw [if_neg]
      rintro ⟨h1, h2, h3⟩
      obtain ⟨g1, g2, g3⟩ := rVal_good s 8 0
      obtain ⟨_, _, g5, g6⟩ := g3 (by omega)
      exact hg (cDec_iff.2 ⟨_, h2, g6, by omega, h3.symm⟩)
end Go.AL
