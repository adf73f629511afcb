/- What functions of the program and of the document answer, and the plain laws behind it; each under the conditions that its own theorem names. -/
import Derived.Test.YtmidabiehblekaaGreatDoorTc
import Derived.Test.YtmidabiehblekaaGreatDoorAl3
set_option linter.unusedVariables false
namespace Go.AL
open Go Go.RowKit
def yN (s : ByteArray) (p : Nat) : (Int × Int) × Int :=
  if s.size ≤ p then ((0, 0), -1)
  else if bAt s p % 32 < 24 then ((bAt s p / 32, bAt s p % 32), (p : Int) + 1)
  else if 27 < bAt s p % 32 then ((0, 0), -1)
  else if (s.size : Int) - p - 1 < 2 ^ (bAt s p % 32 - 24).toNat then ((0, 0), -1)
  else ((bAt s p / 32, ((s.data.toList.drop (p + 1)).take (2 ^ (bAt s p % 32 - 24).toNat)).foldl xe 0), (p : Int) + 1 + 2 ^ (bAt s p % 32 - 24).toNat)
def xG (s : ByteArray) (p : Nat) : ByteArray × Int :=
  if (yN s p).2 < 0 ∨ (yN s p).1.1 ≠ 3 ∨ (s.size : Int) - (yN s p).2 < (yN s p).1.2 then (eS, -1)
  else (s.extract (yN s p).2.toNat ((yN s p).2 + (yN s p).1.2).toNat, (yN s p).2 + (yN s p).1.2)
def yZ (f : Nat → Nd × Int) (s : ByteArray) (k : Int) : Nat → List ByteArray → List Nd → Nat → Nd × Int
  | 0, ns, is, q => (.mk k false 0 eS ns is, q)
  | c + 1, ns, is, q =>
    if k = 5 then
      (if (xG s q).2 < 0 then (Nd.zero, -1)
       else if (f (xG s q).2.toNat).2 < 0 then (Nd.zero, -1)
       else yZ f s k c (ns ++ [(xG s q).1]) (is ++ [(f (xG s q).2.toNat).1]) (f (xG s q).2.toNat).2.toNat)
    else (if (f q).2 < 0 then (Nd.zero, -1) else yZ f s k c ns (is ++ [(f q).1]) (f q).2.toNat)
def jY (s : ByteArray) : Nat → Nat → Nd × Int
  | 0, p => (Nd.zero, -1)
  | d + 1, p =>
    if s.size ≤ p then (Nd.zero, -1)
    else if bAt s p = 244 ∨ bAt s p = 245 then (.mk 1 (decide (bAt s p = 245)) 0 eS [] [], (p : Int) + 1)
    else if bAt s p = 246 then (Nd.zero, (p : Int) + 1)
    else
      let m := (yN s p).1.1
      let n := (yN s p).1.2
      let q := (yN s p).2
      if q < 0 ∨ 5 < m ∨ m = 2 ∨ (m < 2 ∧ 9223372036854775807 < n) ∨ (3 < m ∧ 256 < n) then (Nd.zero, -1)
      else if m = 0 then (.mk 2 false (i64 n) eS [] [], q)
      else if m = 1 then (.mk 2 false (i64 (-1 - i64 n)) eS [] [], q)
      else if m = 3 then (.mk 3 false 0 (xG s p).1 [] [], (xG s p).2)
      else yZ (jY s d) s m n.toNat [] [] q.toNat
theorem yD (a : List UInt8) (x : UInt8) (b : List UInt8) : bAt (ofL (a ++ x :: b)) (a.length : Nat) = (x.toNat : Int) := by
  simp [bAt, ofL]
theorem zdK (a b : List UInt8) (m n : Nat) (hm : m < 8) (hn : n < 18446744073709551616) : yN (ofL (a ++ (hdL m n ++ b))) a.length = (((m : Int), (n : Int)), ((a ++ hdL m n).length : Int)) := by
  have hb : ∀ j, j < 32 → (UInt8.ofNat (32 * m + j)).toNat = 32 * m + j := fun j hj => by
    rw [UInt8.toNat_ofNat']; omega
  unfold hdL
  split
  · rename_i h
    rw [List.singleton_append]
    unfold yN
    rw [yD, hb n (by omega), if_neg (by rw [zx]; simp), if_pos (by omega)]
    refine Prod.ext (Prod.ext ?_ ?_) ?_
    · simp only; omega
    · simp only; omega
    · simp
  · have key : ∀ (i : Nat), i < 4 → n < 256 ^ (2 ^ i) → yN (ofL (a ++ (UInt8.ofNat (32 * m + (24 + i)) :: (yr (2 ^ i) n ++ b)))) a.length = (((m : Int), (n : Int)), ((a ++ UInt8.ofNat (32 * m + (24 + i)) :: yr (2 ^ i) n).length : Int)) := by
      intro i hi hlt
      have hk : 256 ^ (2 ^ i) ≤ 18446744073709551616 := by
        match i, hi with
        | 0, _ | 1, _ | 2, _ | 3, _ => decide
      have e : (((32 * m + (24 + i) : Nat) : Int) % 32 - 24).toNat = i := by omega
      have e2 : ((2 ^ i : Nat) : Int) = 2 ^ i := by simp
      unfold yN
      rw [yD, hb _ (by omega), if_neg (by rw [zx]; simp), if_neg (by omega), if_neg (by omega), e, if_neg (by rw [zx, ← e2]; simp [zO]; omega)]
      refine Prod.ext (Prod.ext ?_ ?_) ?_
      · simp only; omega
      · simp only [yV]
        have hd : (a ++ (UInt8.ofNat (32 * m + (24 + i)) :: (yr (2 ^ i) n ++ b))).drop (a.length + 1) = yr (2 ^ i) n ++ b := by
          rw [List.drop_append]; simp
        rw [hd, List.take_append_of_le_length (by rw [zO]; exact Nat.le_refl _), List.take_of_length_le (by rw [zO]; exact Nat.le_refl _)]
        have := jl (2 ^ i) n 0 (by rw [Nat.mod_eq_of_lt hlt]; omega)
        rw [Nat.mod_eq_of_lt hlt, Nat.zero_mul, Nat.zero_add] at this
        exact this
      · simp only [List.length_append, List.length_cons, zO]; rw [← e2]; omega
    split
    · exact key 0 (by omega) (by simpa using ‹n < 256›)
    · split
      · exact key 1 (by omega) (by simpa using ‹n < 65536›)
      · split
        · exact key 2 (by omega) (by simpa using ‹n < 4294967296›)
        · exact key 3 (by omega) (by simpa using hn)
theorem zcm (a s b : List UInt8) : (ofL (a ++ (s ++ b))).extract a.length (a ++ s).length = ofL s := by
  rw [we]
  simp
theorem zdR (a : List UInt8) (s : ByteArray) (b : List UInt8) (hs : s.size < 18446744073709551616) : xG (ofL (a ++ (hdL 3 s.size ++ s.data.toList ++ b))) a.length = (s, ((a ++ (hdL 3 s.size ++ s.data.toList)).length : Int)) := by
  have h := zdK a (s.data.toList ++ b) 3 s.size (by omega) hs
  rw [← List.append_assoc (hdL 3 s.size)] at h
  have hl := ya s
  unfold xG
  rw [h]
  simp only
  rw [if_neg (by rw [zx]; simp only [List.length_append]; omega)]
  refine Prod.ext ?_ ?_
  · simp only
    have e := zcm (a ++ hdL 3 s.size) s.data.toList b
    rw [vI] at e
    have e1 : ((a ++ hdL 3 s.size) ++ (s.data.toList ++ b)) = a ++ (hdL 3 s.size ++ s.data.toList ++ b) := by simp [List.append_assoc]
    rw [e1] at e
    have e2 : ((((a ++ hdL 3 s.size).length : Nat) : Int) + ((s.size : Nat) : Int)).toNat = ((a ++ hdL 3 s.size) ++ s.data.toList).length := by
      rw [@List.length_append _ (a ++ hdL 3 s.size) _, hl]; omega
    rw [e2, Int.toNat_natCast]
    exact e
  · simp only [List.length_append]; omega
theorem zcu (f : Nat → Nd × Int) (s : ByteArray) : ∀ (xs : List Nd) (ns : List ByteArray) (acc : List Nd) (a b : List UInt8), s = ofL (a ++ (Nd.cbs xs ++ b)) → (∀ x ∈ xs, ∀ a b : List UInt8, s = ofL (a ++ (x.cb ++ b)) → f a.length = (x, ((a ++ x.cb).length : Int))) →
    yZ f s 4 xs.length ns acc a.length = (.mk 4 false 0 eS ns (acc ++ xs), ((a ++ Nd.cbs xs).length : Int))
  | [], ns, acc, a, b, hs, h => by simp [yZ, Nd.cbs]
  | x :: xs, ns, acc, a, b, hs, h => by
    simp only [Nd.cbs, List.append_assoc] at hs
    have h1 := h x (by simp) a (Nd.cbs xs ++ b) hs
    have hs' : s = ofL ((a ++ x.cb) ++ (Nd.cbs xs ++ b)) := by rw [hs]; simp [List.append_assoc]
    have ih := zcu f s xs ns (acc ++ [x]) (a ++ x.cb) b hs' (fun y hy => h y (by simp [hy]))
    rw [List.length_cons, yZ, if_neg (by decide), h1]
    simp only
    rw [if_neg (by omega), Int.toNat_natCast, ih]
    simp [Nd.cbs, List.append_assoc]
theorem zdL (f : Nat → Nd × Int) (s : ByteArray) : ∀ (ss : List ByteArray) (xs : List Nd) (ns : List ByteArray) (acc : List Nd) (a b : List UInt8), ss.length = xs.length → (∀ t ∈ ss, t.size ≤ 65536) → s = ofL (a ++ (Nd.cbm ss xs ++ b)) → (∀ x ∈ xs, ∀ a b : List UInt8, s = ofL (a ++ (x.cb ++ b)) → f a.length = (x, ((a ++ x.cb).length : Int))) →
    yZ f s 5 xs.length ns acc a.length = (.mk 5 false 0 eS (ns ++ ss) (acc ++ xs), ((a ++ Nd.cbm ss xs).length : Int))
  | [], [], ns, acc, a, b, _, _, hs, h => by simp [yZ, Nd.cbm]
  | t :: ss, x :: xs, ns, acc, a, b, hl, hsz, hs, h => by
    simp only [Nd.cbm] at hs
    have ht := zdR a t (x.cb ++ (Nd.cbm ss xs ++ b)) (by have := hsz t (by simp); omega)
    have e1 : s = ofL (a ++ (hdL 3 t.size ++ t.data.toList ++ (x.cb ++ (Nd.cbm ss xs ++ b)))) := by rw [hs]; simp [List.append_assoc]
    rw [← e1] at ht
    have e2 : s = ofL ((a ++ (hdL 3 t.size ++ t.data.toList)) ++ (x.cb ++ (Nd.cbm ss xs ++ b))) := by rw [hs]; simp [List.append_assoc]
    have h1 := h x (by simp) _ _ e2
    have e3 : s = ofL (((a ++ (hdL 3 t.size ++ t.data.toList)) ++ x.cb) ++ (Nd.cbm ss xs ++ b)) := by rw [hs]; simp [List.append_assoc]
    have ih := zdL f s ss xs (ns ++ [t]) (acc ++ [x]) ((a ++ (hdL 3 t.size ++ t.data.toList)) ++ x.cb) b (by simpa using hl) (fun y hy => hsz y (by simp [hy])) e3 (fun y hy => h y (by simp [hy]))
    rw [List.length_cons, yZ, if_pos rfl, ht]
    simp only
    rw [if_neg (by omega), Int.toNat_natCast, h1]
    simp only
    rw [if_neg (by omega), Int.toNat_natCast, ih]
    simp [Nd.cbm, List.append_assoc]
  | [], _ :: _, _, _, _, _, hl, _, _, _ => by simp at hl
  | _ :: _, [], _, _, _, _, hl, _, _, _ => by simp at hl
theorem znb (m n : Nat) (hm : m < 8) : ∃ (x : UInt8) (t : List UInt8), hdL m n = x :: t ∧ x.toNat / 32 = m ∧ (x.toNat % 32 = n ∨ 24 ≤ x.toNat % 32) := by
  have hb : ∀ j, j < 32 → (UInt8.ofNat (32 * m + j)).toNat = 32 * m + j := fun j hj => by
    rw [UInt8.toNat_ofNat']; omega
  unfold hdL
  repeat' split
  · exact ⟨_, _, rfl, by rw [hb n (by omega)]; omega, .inl (by rw [hb n (by omega)]; omega)⟩
  · exact ⟨_, _, rfl, by rw [hb 24 (by omega)]; omega, .inr (by rw [hb 24 (by omega)]; omega)⟩
  · exact ⟨_, _, rfl, by rw [hb 25 (by omega)]; omega, .inr (by rw [hb 25 (by omega)]; omega)⟩
  · exact ⟨_, _, rfl, by rw [hb 26 (by omega)]; omega, .inr (by rw [hb 26 (by omega)]; omega)⟩
  · exact ⟨_, _, rfl, by rw [hb 27 (by omega)]; omega, .inr (by rw [hb 27 (by omega)]; omega)⟩
theorem zcq {s : ByteArray} {a b : List UInt8} {m n d : Nat} (hm : m < 6) (hn : n < 18446744073709551616) (hs : s = ofL (a ++ (hdL m n ++ b))) : jY s (d + 1) a.length =
    if m = 2 ∨ (m < 2 ∧ 9223372036854775807 < n) ∨ (3 < m ∧ 256 < n) then (Nd.zero, -1)
    else if m = 0 then (.mk 2 false (i64 n) eS [] [], ((a ++ hdL m n).length : Int))
    else if m = 1 then (.mk 2 false (i64 (-1 - i64 n)) eS [] [], ((a ++ hdL m n).length : Int))
    else if m = 3 then (.mk 3 false 0 (xG s a.length).1 [] [], (xG s a.length).2)
    else yZ (jY s d) s m n [] [] (a ++ hdL m n).length := by
  obtain ⟨x, t, e, e1, e2⟩ := znb m n (by omega)
  have hB : bAt s (a.length : Nat) = (x.toNat : Int) := by rw [hs, e, List.cons_append, yD]
  have hR := zdK a b m n (by omega) hn
  rw [← hs] at hR
  have hsz : ¬ s.size ≤ a.length := by rw [hs, zx, e]; simp
  rw [jY, if_neg hsz, hB, if_neg (by omega), if_neg (by omega), hR]
  simp only
  by_cases c : m = 2 ∨ (m < 2 ∧ 9223372036854775807 < n) ∨ (3 < m ∧ 256 < n)
  · rw [if_pos c, if_pos (by omega)]
  · rw [if_neg c, if_neg (by omega)]
    have q0 : ((m : Int) = 0) = (m = 0) := propext ⟨fun h => by omega, fun h => by omega⟩
    have q1 : ((m : Int) = 1) = (m = 1) := propext ⟨fun h => by omega, fun h => by omega⟩
    have q3 : ((m : Int) = 3) = (m = 3) := propext ⟨fun h => by omega, fun h => by omega⟩
    simp only [q0, q1, q3, Int.toNat_natCast]
theorem zfM {V : ByteArray → Bool} {s : ByteArray} : ∀ (x : Nd) (d : Nat), x.validB V d = true → x.In → ∀ a b : List UInt8, s = ofL (a ++ (x.cb ++ b)) → jY s d a.length = (x, ((a ++ x.cb).length : Int))
  | .mk k b n tx ns is, 0, hv, _, _, _, _ => by
    rw [yo] at hv
    have := hv.1
    simp at this
  | .mk k b n tx ns is, d + 1, hv, hin, A, B, hs => by
    rw [yo] at hv
    obtain ⟨_, h2, h3, h4, h5, h6, h7, h8⟩ := hv
    cases hin with
    | mk i1 i2 i3 =>
    simp only [Nd.fieldsOK, Bool.and_eq_true, Bool.or_eq_true, decide_eq_true_eq, Bool.not_eq_true'] at h4
    obtain ⟨⟨⟨⟨f1, f2⟩, f3⟩, f4⟩, f5⟩ := h4
    have hk : k = 0 ∨ k = 1 ∨ k = 2 ∨ k = 3 ∨ k = 4 ∨ k = 5 := by omega
    have hi : ∀ y ∈ is, ∀ a b : List UInt8, s = ofL (a ++ (y.cb ++ b)) → jY s d a.length = (y, ((a ++ y.cb).length : Int)) := fun y hy a b h =>
      zfM y d (by have := h8 y hy; rwa [show ((d + 1 : Nat) : Int) - 1 = d by omega] at this) (i3 y hy) a b h
    have e0 : k ≠ 1 → b = false := fun h => f1.resolve_left h
    have e1 : k ≠ 2 → n = 0 := fun h => f2.resolve_left h
    have e2 : k ≠ 3 → tx = eS := fun h => f3.resolve_left h
    have e3 : k ≠ 4 → k ≠ 5 → is = [] := fun h h' => List.eq_nil_of_length_eq_zero (by rcases f4 with (h'' | h'') | h'' <;> first | (exact absurd h'' h) | (exact absurd h'' h') | omega)
    have e4 : k ≠ 5 → ns = [] := fun h => List.eq_nil_of_length_eq_zero (by rcases f5 with h' | h'; exact absurd h' h; omega)
    have simple : ∀ (j : Nat), j < 24 → s = ofL (A ++ (hdL 7 j ++ B)) → bAt s (A.length : Nat) = 224 + j ∧ ¬ s.size ≤ A.length := fun j hj h => by
      have : hdL 7 j = [UInt8.ofNat (32 * 7 + j)] := by simp [hdL, hj]
      rw [this] at h
      rw [h, List.singleton_append, yD, UInt8.toNat_ofNat', zx]
      refine ⟨by omega, by simp⟩
    rcases hk with rfl | rfl | rfl | rfl | rfl | rfl
    · rw [e0 (by decide), e1 (by decide), e2 (by decide), e3 (by decide) (by decide), e4 (by decide)] at hs ⊢
      rw [show (Nd.mk 0 false 0 eS [] []).cb = hdL 7 22 by simp [Nd.cb]] at hs ⊢
      obtain ⟨h1, h2⟩ := simple 22 (by omega) hs
      rw [jY, if_neg h2, h1, if_neg (by decide), if_pos (by decide)]
      simp [Nd.zero, eS, hdL]
    · rw [e1 (by decide), e2 (by decide), e3 (by decide) (by decide), e4 (by decide)] at hs ⊢
      cases b with
      | true =>
        rw [show (Nd.mk 1 true 0 eS [] []).cb = hdL 7 21 by simp [Nd.cb]] at hs ⊢
        obtain ⟨h1, h2⟩ := simple 21 (by omega) hs
        rw [jY, if_neg h2, h1, if_pos (by decide)]
        simp [hdL]
      | false =>
        rw [show (Nd.mk 1 false 0 eS [] []).cb = hdL 7 20 by simp [Nd.cb]] at hs ⊢
        obtain ⟨h1, h2⟩ := simple 20 (by omega) hs
        rw [jY, if_neg h2, h1, if_pos (by decide)]
        simp [hdL]
    · rw [e0 (by decide), e2 (by decide), e3 (by decide) (by decide), e4 (by decide)] at hs ⊢
      by_cases hn : n < 0
      · rw [show (Nd.mk 2 false n eS [] []).cb = hdL 1 (-1 - n).toNat by simp [Nd.cb, hn]] at hs ⊢
        rw [zcq (by omega) (by omega) hs, if_neg (by omega), if_neg (by decide), if_pos rfl, show (((-1 - n).toNat : Nat) : Int) = -1 - n by omega, vl (n := -1 - n) (by omega) (by omega), show -1 - (-1 - n) = n by omega, vl (by omega) (by omega)]
      · rw [show (Nd.mk 2 false n eS [] []).cb = hdL 0 n.toNat by simp [Nd.cb, hn]] at hs ⊢
        rw [zcq (by omega) (by omega) hs, if_neg (by omega), if_pos rfl, show ((n.toNat : Nat) : Int) = n by omega, vl (by omega) (by omega)]
    · rw [e0 (by decide), e1 (by decide), e3 (by decide) (by decide), e4 (by decide)] at hs ⊢
      have ht : tx.size ≤ 65536 := by simp only [yh, Bool.and_eq_true, decide_eq_true_eq] at h5; omega
      rw [show (Nd.mk 3 false 0 tx [] []).cb = hdL 3 tx.size ++ tx.data.toList by simp [Nd.cb]] at hs ⊢
      have htx := zdR A tx B (by omega)
      rw [← hs] at htx
      rw [List.append_assoc] at hs
      rw [zcq (by omega) (by omega) hs, if_neg (by omega), if_neg (by decide), if_neg (by decide), if_pos rfl, htx]
    · rw [e0 (by decide), e1 (by decide), e2 (by decide), e4 (by decide)] at hs ⊢
      rw [show (Nd.mk 4 false 0 eS [] is).cb = hdL 4 is.length ++ Nd.cbs is by simp [Nd.cb]] at hs ⊢
      rw [List.append_assoc] at hs
      rw [zcq (by omega) (by omega) hs, if_neg (by omega), if_neg (by decide), if_neg (by decide), if_neg (by decide)]
      have := zcu (jY s d) s is [] [] (A ++ hdL 4 is.length) B (by rw [hs]; simp [List.append_assoc]) hi
      rw [show ((4 : Nat) : Int) = 4 from rfl, this]
      simp [List.append_assoc]
    · rw [e0 (by decide), e1 (by decide), e2 (by decide)] at hs ⊢
      have hl := (h7 rfl).2
      have hsz : ∀ s ∈ ns, s.size ≤ 65536 := fun s hs => by
        have := (((yF (yh V) ns []).1 (h7 rfl).1).2 s hs).2
        simp only [yh, Bool.and_eq_true, decide_eq_true_eq] at this; omega
      rw [show (Nd.mk 5 false 0 eS ns is).cb = hdL 5 is.length ++ Nd.cbm ns is by simp [Nd.cb]] at hs ⊢
      rw [List.append_assoc] at hs
      rw [zcq (by omega) (by omega) hs, if_neg (by omega), if_neg (by decide), if_neg (by decide), if_neg (by decide)]
      have := zdL (jY s d) s ns is [] [] (A ++ hdL 5 is.length) B hl hsz (by rw [hs]; simp [List.append_assoc]) hi
      rw [show ((5 : Nat) : Int) = 5 from rfl, this]
      simp [List.append_assoc]
termination_by x => SizeOf.sizeOf x
decreasing_by
  have := List.sizeOf_lt_of_mem hy
  simp only [Nd.mk.sizeOf_spec]
  omega
theorem vM {s : ByteArray} {p : Nat} (h : (yN s p).2 ≠ -1) : (p : Int) < (yN s p).2 ∧ (yN s p).2 ≤ s.size ∧ 0 ≤ (yN s p).1.1 ∧ (yN s p).1.1 < 8 ∧ 0 ≤ (yN s p).1.2 ∧ (yN s p).1.2 < 18446744073709551616 ∧
    ∀ m n' : Nat, (n' : Int) ≤ (yN s p).1.2 → ((hdL m n').length : Int) + p ≤ (yN s p).2 := by
  have hb := xj s p
  unfold yN at h ⊢
  split at h
  · simp at h
  · rename_i h0
    rw [if_neg h0]
    split at h
    · rename_i hc
      rw [if_pos hc]
      refine ⟨by simp only; omega, by simp only; omega, by simp only; omega, by simp only; omega, by simp only; omega, by simp only; omega, fun m n' hn => ?_⟩
      simp only at hn ⊢
      rw [ki (by omega)]; omega
    · rename_i hc
      rw [if_neg hc]
      split at h
      · simp at h
      · rename_i hc2
        rw [if_neg hc2]
        split at h
        · simp at h
        · rename_i hc3
          rw [if_neg hc3]
          obtain ⟨i, hi, hi3⟩ : ∃ i : Nat, (bAt s p % 32 - 24).toNat = i ∧ i ≤ 3 := ⟨_, rfl, by omega⟩
          rw [hi] at h hc3 ⊢
          have e2 : ((2 ^ i : Nat) : Int) = 2 ^ i := by simp
          have hp : 1 ≤ 2 ^ i := Nat.one_le_two_pow
          have h8 : 2 ^ i ≤ 8 := by
            match i, hi3 with
            | 0, _ | 1, _ | 2, _ | 3, _ => decide
          have h256 : (256 : Int) ^ (2 ^ i) ≤ 18446744073709551616 := by
            match i, hi3 with
            | 0, _ | 1, _ | 2, _ | 3, _ => decide +kernel
          have hl : ((s.data.toList.drop (p + 1)).take (2 ^ i)).length = 2 ^ i := by
            rw [List.length_take, List.length_drop, ya]; omega
          have hf := kw ((s.data.toList.drop (p + 1)).take (2 ^ i)) 0 0 (by omega) (by decide) (by rw [hl]; omega)
          rw [hl, Nat.zero_add] at hf
          refine ⟨by simp only; omega, by simp only; omega, by simp only; omega, by simp only; omega, hf.1, Int.lt_of_lt_of_le hf.2 h256, fun m n' hn => ?_⟩
          simp only at hn ⊢
          have : (hdL m n').length ≤ 1 + 2 ^ i := by
            refine zcx hi3 ?_
            have h1 : ((n' : Nat) : Int) < ((256 ^ (2 ^ i) : Nat) : Int) := by
              rw [show ((256 ^ (2 ^ i) : Nat) : Int) = (256 : Int) ^ (2 ^ i) by simp]
              exact Int.lt_of_le_of_lt hn hf.2
            omega
          omega
theorem zfs (s : ByteArray) (p : Nat) : -1 ≤ (yN s p).2 := by
  by_cases h : (yN s p).2 = -1
  · omega
  · have := vM h; omega
theorem kn {s : ByteArray} {p : Nat} (h : (xG s p).2 ≠ -1) : (p : Int) < (xG s p).2 ∧ (xG s p).2 ≤ s.size ∧ ((hdL 3 (xG s p).1.size).length : Int) + (xG s p).1.size + p ≤ (xG s p).2 := by
  unfold xG at h ⊢
  split at h
  · simp at h
  · rename_i hc
    rw [if_neg hc]
    simp only [not_or, Int.not_lt, ne_eq, Decidable.not_not] at hc
    obtain ⟨g1, g2, g3, g4, g5, g6, g7⟩ := vM (s := s) (p := p) (by omega)
    have hsz : ((s.extract (yN s p).2.toNat ((yN s p).2 + (yN s p).1.2).toNat).size : Int) = (yN s p).1.2 := by
      simp only [ByteArray.size_extract]; omega
    have := g7 3 (s.extract (yN s p).2.toNat ((yN s p).2 + (yN s p).1.2).toNat).size (by omega)
    refine ⟨?_, ?_, ?_⟩ <;> (simp only; omega)
theorem zfK (s : ByteArray) (p : Nat) : -1 ≤ (xG s p).2 := by
  by_cases h : (xG s p).2 = -1
  · omega
  · have := kn h; omega
def VGood (s : ByteArray) (p : Nat) (r : Nd × Int) : Prop := r.1.Ok ∧ -1 ≤ r.2 ∧ (r.2 ≠ -1 → (p : Int) < r.2 ∧ r.2 ≤ s.size ∧ (r.1.cb.length : Int) + p ≤ r.2 ∧ r.1.In)
theorem VGood.fail (s : ByteArray) (p : Nat) : VGood s p (Nd.zero, -1) := ⟨xw, by decide, fun h => absurd rfl h⟩
theorem kS (f : Nat → Nd × Int) (s : ByteArray) (hf : ∀ p, VGood s p (f p)) (k : Int) (hk : k = 4 ∨ k = 5) : ∀ (c : Nat) (ns : List ByteArray) (is : List Nd) (q : Nat), ns.length + c ≤ 1000000000 → is.length + c ≤ 1000000000 → (∀ x ∈ is, x.Ok) →
    (yZ f s k c ns is q).1.Ok ∧ -1 ≤ (yZ f s k c ns is q).2 ∧ ((yZ f s k c ns is q).2 ≠ -1 → (q : Int) ≤ s.size → (q : Int) ≤ (yZ f s k c ns is q).2 ∧ (yZ f s k c ns is q).2 ≤ s.size ∧
      ∃ (ss : List ByteArray) (xs : List Nd), xs.length = c ∧ (k = 5 → ss.length = c) ∧ (k = 4 → ss = []) ∧ (yZ f s k c ns is q).1 = .mk k false 0 eS (ns ++ ss) (is ++ xs) ∧ (((if k = 5 then Nd.cbm ss xs else Nd.cbs xs).length : Nat) : Int) + q ≤ (yZ f s k c ns is q).2 ∧ ∀ x ∈ xs, x.In)
  | 0, ns, is, q, h1, h2, h3 => ⟨.mk (by omega) (by omega) h3, by simp only [yZ]; omega, fun _ hq => ⟨by simp [yZ], by simp only [yZ]; exact hq, [], [], rfl, fun _ => rfl, fun _ => rfl, by simp [yZ], by simp [yZ, Nd.cbs, Nd.cbm], by simp⟩⟩
  | c + 1, ns, is, q, h1, h2, h3 => by
    have fail : (Nd.zero, (-1 : Int)).1.Ok ∧ -1 ≤ (Nd.zero, (-1 : Int)).2 := ⟨xw, by decide⟩
    have key : ∀ (y : Nd), y.Ok → ∀ x ∈ is ++ [y], x.Ok := fun y hy x hx => by
      rcases List.mem_append.1 hx with h | h
      · exact h3 x h
      · rw [List.mem_singleton.1 h]; exact hy
    rw [yZ]
    rcases hk with rfl | rfl
    · rw [if_neg (by decide)]
      obtain ⟨f1, f2, f3⟩ := hf q
      split
      · exact ⟨fail.1, fail.2, fun h => absurd rfl h⟩
      · rename_i hn
        obtain ⟨g1, g2, g3, g4⟩ := f3 (by omega)
        obtain ⟨i1, i2, i3⟩ := kS f s hf 4 (.inl rfl) c ns (is ++ [(f q).1]) (f q).2.toNat (by omega) (by simp; omega) (key _ f1)
        refine ⟨i1, i2, fun h hq => ?_⟩
        replace i3 := i3 h (by clear i3 f3; omega)
        clear f3
        obtain ⟨j1, j2, ss, xs, j3, j4, j5, j6, j7, j8⟩ := i3
        refine ⟨by omega, j2, ss, (f q).1 :: xs, by simp [j3], fun h => absurd h (by decide), j5, by rw [j6]; simp, ?_, fun x hx => ?_⟩
        · rw [if_neg (by decide)] at j7 ⊢
          simp only [Nd.cbs, List.length_append]; omega
        · rcases List.mem_cons.1 hx with rfl | hx
          · exact g4
          · exact j8 x hx
    · rw [if_pos rfl]
      split
      · exact ⟨fail.1, fail.2, fun h => absurd rfl h⟩
      · rename_i ht
        obtain ⟨t1, t2, t3⟩ := kn (s := s) (p := q) (by omega)
        obtain ⟨f1, f2, f3⟩ := hf (xG s q).2.toNat
        split
        · exact ⟨fail.1, fail.2, fun h => absurd rfl h⟩
        · rename_i hn
          obtain ⟨g1, g2, g3, g4⟩ := f3 (by omega)
          obtain ⟨i1, i2, i3⟩ := kS f s hf 5 (.inr rfl) c (ns ++ [(xG s q).1]) (is ++ [(f (xG s q).2.toNat).1]) (f (xG s q).2.toNat).2.toNat (by simp; omega) (by simp; omega) (key _ f1)
          refine ⟨i1, i2, fun h hq => ?_⟩
          replace i3 := i3 h (by clear i3 f3; omega)
          clear f3
          obtain ⟨j1, j2, ss, xs, j3, j4, j5, j6, j7, j8⟩ := i3
          refine ⟨by omega, j2, (xG s q).1 :: ss, (f (xG s q).2.toNat).1 :: xs, by simp [j3], fun h => by simp [j4 h], fun h => absurd h (by decide), by rw [j6]; simp, ?_, fun x hx => ?_⟩
          · rw [if_pos rfl] at j7 ⊢
            simp only [Nd.cbm, List.length_append, ya]; omega
          · rcases List.mem_cons.1 hx with rfl | hx
            · exact g4
            · exact j8 x hx
theorem jo (s : ByteArray) : ∀ (d p : Nat), VGood s p (jY s d p)
  | 0, p => VGood.fail s p
  | d + 1, p => by
    rw [jY]
    split
    · exact VGood.fail s p
    rename_i h0
    split
    · refine ⟨.mk (by simp) (by simp) (by simp), by simp only; omega, fun _ => ⟨by simp only; omega, by simp only; omega, ?_, .mk (by omega) (by omega) (by simp)⟩⟩
      simp only [Nd.cb, if_neg (show ¬ (1 : Int) = 0 by decide), if_true]
      rw [ki (by split <;> omega)]; omega
    split
    · refine ⟨xw, by simp only; omega, fun _ => ⟨by simp only; omega, by simp only; omega, ?_, kX⟩⟩
      simp only [zed]; omega
    simp only
    split
    · exact VGood.fail s p
    rename_i hc
    simp only [not_or, not_and, Int.not_lt] at hc
    obtain ⟨c0, c5, c2, c63, c256⟩ := hc
    obtain ⟨g1, g2, g3, g4, g5, g6, g7⟩ := vM (s := s) (p := p) (by omega)
    split
    · rename_i hm
      have hn := c63 (by omega)
      rw [vl (by omega) (by omega)]
      refine ⟨.mk (by simp) (by simp) (by simp), by simp only; omega, fun _ => ⟨g1, g2, ?_, .mk (by omega) (by omega) (by simp)⟩⟩
      simp only [jT]
      rw [if_neg (by omega)]
      exact g7 0 _ (by omega)
    split
    · rename_i hm
      have hn := c63 (by omega)
      rw [vl (n := (yN s p).1.2) (by omega) (by omega), vl (by omega) (by omega)]
      refine ⟨.mk (by simp) (by simp) (by simp), by simp only; omega, fun _ => ⟨g1, g2, ?_, .mk (by omega) (by omega) (by simp)⟩⟩
      simp only [jT]
      rw [if_pos (by omega)]
      exact g7 1 _ (by omega)
    split
    · refine ⟨.mk (by simp) (by simp) (by simp), zfK s p, fun h => ?_⟩
      obtain ⟨t1, t2, t3⟩ := kn h
      refine ⟨t1, t2, ?_, .mk (by omega) (by omega) (by simp)⟩
      simp only [Nd.cb]
      rw [if_neg (by decide), if_neg (by decide), if_neg (by decide), if_pos trivial, List.length_append, ya]
      omega
    · rename_i m0 m1 m3
      have hk : (yN s p).1.1 = 4 ∨ (yN s p).1.1 = 5 := by omega
      have hn := c256 (by omega)
      obtain ⟨i1, i2, i3⟩ := kS (jY s d) s (jo s d) (yN s p).1.1 hk (yN s p).1.2.toNat [] [] (yN s p).2.toNat (by simp; omega) (by simp; omega) (by simp)
      refine ⟨i1, i2, fun h => ?_⟩
      replace i3 := i3 h (by clear i3; omega)
      obtain ⟨j1, j2, ss, xs, j3, j4, j5, j6, j7, j8⟩ := i3
      have e := g7 (yN s p).1.1.toNat xs.length (by omega)
      refine ⟨by omega, j2, ?_, ?_⟩
      · rw [j6]
        rcases hk with hk | hk
        · rw [hk] at j7 e ⊢
          rw [if_neg (by decide)] at j7
          simp only [Nd.cb, List.nil_append]
          rw [if_neg (by decide), if_neg (by decide), if_neg (by decide), if_neg (by decide), if_pos trivial, List.length_append]
          have e : ((hdL 4 xs.length).length : Int) + p ≤ (yN s p).2 := e
          omega
        · rw [hk] at j7 e ⊢
          rw [if_pos rfl] at j7
          simp only [Nd.cb, List.nil_append]
          rw [if_neg (by decide), if_neg (by decide), if_neg (by decide), if_neg (by decide), if_neg (by decide), List.length_append]
          have e : ((hdL 5 xs.length).length : Int) + p ≤ (yN s p).2 := e
          omega
      · rw [j6]
        exact .mk (by omega) (by omega) (by simpa using j8)
def zoq (V : ByteArray → Bool) (s : ByteArray) : Nd × Int :=
  if 65536 < s.size then (Nd.zero, 4)
  else if (jY s 8 0).2 = s.size ∧ (jY s 8 0).1.validB V 8 = true ∧ ofL (jY s 8 0).1.cb = s then ((jY s 8 0).1, 0) else (Nd.zero, 4)
theorem zmP (V : ByteArray → Bool) (s : ByteArray) : zoq V s = zeG V s := by
  unfold zoq
  by_cases hg : zcI V s
  · obtain ⟨x, h1, h2, h3, rfl⟩ := zec.1 hg
    have hr := zfM (s := ofL x.cb) x 8 h1 h2 [] [] (by simp)
    simp only [List.nil_append, List.length_nil] at hr
    rw [zbW h1 h2 h3, if_neg (by rw [zx]; omega), hr]
    simp only
    rw [if_pos ⟨by rw [zx], h1, trivial⟩]
  · rw [zeP hg]
    split
    · rfl
    · rename_i hs
      rw [if_neg]
      rintro ⟨h1, h2, h3⟩
      obtain ⟨g1, g2, g3⟩ := jo s 8 0
      obtain ⟨_, _, g5, g6⟩ := g3 (by omega)
      exact hg (zec.2 ⟨_, h2, g6, by omega, h3.symm⟩)
def xP (n : Int) : Nat := (n % 18446744073709551616).toNat
def qI (n : Int) : List UInt8 :=
  if -32 ≤ n ∧ n < 128 then [UInt8.ofNat (n % 256).toNat]
  else if 0 ≤ n then
    (if n < 256 then UInt8.ofNat 204 :: yr 1 (xP n) else if n < 65536 then UInt8.ofNat 205 :: yr 2 (xP n) else if n < 4294967296 then UInt8.ofNat 206 :: yr 4 (xP n) else UInt8.ofNat 207 :: yr 8 (xP n))
  else if -128 ≤ n then UInt8.ofNat 208 :: yr 1 (xP n) else if -32768 ≤ n then UInt8.ofNat 209 :: yr 2 (xP n) else if -2147483648 ≤ n then UInt8.ofNat 210 :: yr 4 (xP n) else UInt8.ofNat 211 :: yr 8 (xP n)
def pTh (n : Nat) : List UInt8 := if n < 32 then [UInt8.ofNat (160 + n)] else if n < 256 then UInt8.ofNat 217 :: yr 1 n else if n < 65536 then UInt8.ofNat 218 :: yr 2 n else UInt8.ofNat 219 :: yr 4 n
def pTx (s : ByteArray) : List UInt8 := pTh s.size ++ s.data.toList
def pCn (few many n : Nat) : List UInt8 := if n < 16 then [UInt8.ofNat (few + n)] else UInt8.ofNat many :: yr 2 n
mutual
def Nd.pb : Nd → List UInt8
  | .mk k b n t ns is =>
    if k = 0 then [UInt8.ofNat 192] else if k = 1 then [UInt8.ofNat (if b then 195 else 194)] else if k = 2 then qI n
    else if k = 3 then pTx t else if k = 4 then pCn 144 220 is.length ++ Nd.pbs is else pCn 128 222 is.length ++ Nd.pbm ns is
def Nd.pbs : List Nd → List UInt8
  | [] => []
  | x :: xs => x.pb ++ Nd.pbs xs
def Nd.pbm : List ByteArray → List Nd → List UInt8
  | s :: ns, x :: xs => pTx s ++ x.pb ++ Nd.pbm ns xs
  | _, _ => []
end
def Rs.count (r : Rs) (k : Int) : Int × Rs := (r.uint k).2.fits (r.uint k).1
def wU (r : Rs) (c : Int) : ByteArray × Rs :=
  if 160 ≤ c ∧ c < 192 then r.take (c - 160)
  else if 217 ≤ c ∧ c ≤ 219 then (r.count (2 ^ (c - 217).toNat)).2.take (r.count (2 ^ (c - 217).toNat)).1
  else (eS, ⟨r.s, true⟩)
def sx (b : Nat) (u : Int) : Int := if u < 256 ^ b / 2 then u else u - 256 ^ b
def wX (r : Rs) (c : Int) : Int × Rs :=
  if c < 128 then (c, r) else if 224 ≤ c then (c - 256, r)
  else if 204 ≤ c ∧ c ≤ 207 then (i64 (r.uint (2 ^ (c - 204).toNat)).1, (r.uint (2 ^ (c - 204).toNat)).2)
  else if 208 ≤ c ∧ c ≤ 211 then (sx (2 ^ (c - 208).toNat) (r.uint (2 ^ (c - 208).toNat)).1, (r.uint (2 ^ (c - 208).toNat)).2)
  else (0, ⟨r.s, true⟩)
def yg (nm : Rs → ByteArray × Rs) (f : Rs → Nd × Rs) (k : Int) : Nat → List ByteArray → List Nd → Rs → Nd × Rs
  | 0, ns, is, r => (.mk k false 0 eS ns is, r)
  | c + 1, ns, is, r => if r.bad = true then (.mk k false 0 eS ns is, r)
    else if k = 5 then yg nm f k c (ns ++ [(nm r).1]) (is ++ [(f (nm r).2).1]) (f (nm r).2).2
    else yg nm f k c ns (is ++ [(f r).1]) (f r).2
def yK (r : Rs) : ByteArray × Rs := wU r.byte.2 r.byte.1
def yL : Nat → Rs → Nd × Rs
  | 0, r => (Nd.zero, ⟨r.byte.2.s, true⟩)
  | d + 1, r =>
    let c := r.byte.1
    let q := r.byte.2
    if c = 192 then (Nd.zero, q)
    else if c = 194 ∨ c = 195 then (.mk 1 (decide (c = 195)) 0 eS [] [], q)
    else if 128 ≤ c ∧ c < 144 then yg yK (yL d) 5 (c - 128).toNat [] [] q
    else if c = 222 then yg yK (yL d) 5 (q.count 2).1.toNat [] [] (q.count 2).2
    else if 144 ≤ c ∧ c < 160 then yg yK (yL d) 4 (c - 144).toNat [] [] q
    else if c = 220 then yg yK (yL d) 4 (q.count 2).1.toNat [] [] (q.count 2).2
    else if (160 ≤ c ∧ c < 192) ∨ (217 ≤ c ∧ c ≤ 219) then (.mk 3 false 0 (wU q c).1 [] [], (wU q c).2)
    else (.mk 2 false (wX q c).1 eS [] [], (wX q c).2)
theorem xE {d : Nat} {r q : Rs} {c : Int} (h : r.byte = (c, q)) : yL (d + 1) r =
    if c = 192 then (Nd.zero, q)
    else if c = 194 ∨ c = 195 then (.mk 1 (decide (c = 195)) 0 eS [] [], q)
    else if 128 ≤ c ∧ c < 144 then yg yK (yL d) 5 (c - 128).toNat [] [] q
    else if c = 222 then yg yK (yL d) 5 (q.count 2).1.toNat [] [] (q.count 2).2
    else if 144 ≤ c ∧ c < 160 then yg yK (yL d) 4 (c - 144).toNat [] [] q
    else if c = 220 then yg yK (yL d) 4 (q.count 2).1.toNat [] [] (q.count 2).2
    else if (160 ≤ c ∧ c < 192) ∨ (217 ≤ c ∧ c ≤ 219) then (.mk 3 false 0 (wU q c).1 [] [], (wU q c).2)
    else (.mk 2 false (wX q c).1 eS [] [], (wX q c).2) := by simp only [yL, h]
theorem zck (k n : Nat) (b : List UInt8) (hk : 256 ^ k ≤ 18446744073709551616) : (Rs.mk (ofL (yr k n ++ b)) false).uint k = (((n % 256 ^ k : Nat) : Int), ⟨ofL b, false⟩) := by
  have ht := qu (yr k n) b
  rw [zO] at ht
  unfold Rs.uint
  rw [ht]
  simp only [yV]
  have hp : 0 < 256 ^ k := Nat.pos_of_ne_zero (by simp)
  have := jl k n 0 (by have := Nat.mod_lt n hp; omega)
  simp only [Nat.zero_mul, Nat.zero_add] at this
  rw [← this]; rfl
theorem wm (a : Nat) (b : List UInt8) (h : a < 256) : (Rs.mk (ofL (UInt8.ofNat a :: b)) false).byte = ((a : Int), ⟨ofL b, false⟩) := by
  rw [w6, UInt8.toNat_ofNat', Nat.mod_eq_of_lt (by omega)]
theorem zlj (n : Nat) (b : List UInt8) (h : n ≤ b.length) : (Rs.mk (ofL b) false).fits n = ((n : Int), ⟨ofL b, false⟩) := by
  unfold Rs.fits
  rw [if_neg (by rw [zx]; omega)]
theorem zeY (k n : Nat) (b : List UInt8) (hk : 256 ^ k ≤ 18446744073709551616) (hn : n < 256 ^ k) (h : n ≤ b.length) : (Rs.mk (ofL (yr k n ++ b)) false).count k = ((n : Int), ⟨ofL b, false⟩) := by
  unfold Rs.count
  rw [zck k n b hk]
  simp only
  rw [Nat.mod_eq_of_lt hn]
  exact zlj n b h
theorem zda (s : ByteArray) (t : List UInt8) (hs : s.size < 4294967296) : yK ⟨ofL (pTx s ++ t), false⟩ = (s, ⟨ofL t, false⟩) ∧ ∃ (c : Int) (q : Rs), (Rs.mk (ofL (pTx s ++ t)) false).byte = (c, q) ∧ wU q c = (s, ⟨ofL t, false⟩) ∧ ((160 ≤ c ∧ c < 192) ∨ (217 ≤ c ∧ c ≤ 219)) := by
  have hl := ya s
  have tk : (Rs.mk (ofL (s.data.toList ++ t)) false).take s.size = (s, ⟨ofL t, false⟩) := by
    have := qu s.data.toList t
    rw [vI, hl] at this
    exact this
  have key : ∃ (c : Int) (q : Rs), (Rs.mk (ofL (pTx s ++ t)) false).byte = (c, q) ∧ wU q c = (s, ⟨ofL t, false⟩) ∧ ((160 ≤ c ∧ c < 192) ∨ (217 ≤ c ∧ c ≤ 219)) := by
    unfold pTx pTh
    have big : ∀ i : Nat, i ≤ 2 → s.size < 256 ^ (2 ^ i) → ∃ (c : Int) (q : Rs), (Rs.mk (ofL (UInt8.ofNat (217 + i) :: yr (2 ^ i) s.size ++ s.data.toList ++ t)) false).byte = (c, q) ∧ wU q c = (s, ⟨ofL t, false⟩) ∧ ((160 ≤ c ∧ c < 192) ∨ (217 ≤ c ∧ c ≤ 219)) := by
      intro i hi hlt
      refine ⟨((217 + i : Nat) : Int), ⟨ofL (yr (2 ^ i) s.size ++ s.data.toList ++ t), false⟩, by rw [List.cons_append, List.cons_append]; exact wm (217 + i) _ (by omega), ?_, .inr (by omega)⟩
      have hk : 256 ^ (2 ^ i) ≤ 18446744073709551616 := by
        match i, hi with
        | 0, _ | 1, _ | 2, _ => decide
      have hc := zeY (2 ^ i) s.size (s.data.toList ++ t) hk hlt (by simp)
      unfold wU
      rw [if_neg (by omega), if_pos (by omega), show (((217 + i : Nat) : Int) - 217).toNat = i by omega]
      rw [show ((2 ^ i : Nat) : Int) = 2 ^ i by simp] at hc
      rw [List.append_assoc, hc]
      exact tk
    split
    · rename_i h
      refine ⟨((160 + s.size : Nat) : Int), ⟨ofL (s.data.toList ++ t), false⟩, by rw [List.append_assoc, List.singleton_append]; exact wm (160 + s.size) _ (by omega), ?_, .inl (by omega)⟩
      unfold wU
      rw [if_pos (by omega), show ((160 + s.size : Nat) : Int) - 160 = (s.size : Int) by omega]
      exact tk
    split
    · exact big 0 (by omega) (by simpa using ‹s.size < 256›)
    split
    · exact big 1 (by omega) (by simpa using ‹s.size < 65536›)
    · exact big 2 (by omega) (by simpa using hs)
  obtain ⟨c, q, h1, h2, h3⟩ := key
  refine ⟨?_, c, q, h1, h2, h3⟩
  unfold yK
  rw [h1]
  exact h2
theorem zkU (n : Int) (t : List UInt8) (h0 : -9223372036854775808 ≤ n) (h1 : n ≤ 9223372036854775807) : ∃ (c : Int) (q : Rs), (Rs.mk (ofL (qI n ++ t)) false).byte = (c, q) ∧ wX q c = (n, ⟨ofL t, false⟩) ∧ 0 ≤ c ∧ (c < 128 ∨ 224 ≤ c ∨ (204 ≤ c ∧ c ≤ 211)) := by
  have up : ∀ i : Nat, i ≤ 3 → 0 ≤ n → n < ((256 ^ (2 ^ i) : Nat) : Int) → ∃ (c : Int) (q : Rs), (Rs.mk (ofL (UInt8.ofNat (204 + i) :: yr (2 ^ i) (xP n) ++ t)) false).byte = (c, q) ∧ wX q c = (n, ⟨ofL t, false⟩) ∧ 0 ≤ c ∧ (c < 128 ∨ 224 ≤ c ∨ (204 ≤ c ∧ c ≤ 211)) := by
    intro i hi hn hlt
    refine ⟨((204 + i : Nat) : Int), ⟨ofL (yr (2 ^ i) (xP n) ++ t), false⟩, by rw [List.cons_append]; exact wm (204 + i) _ (by omega), ?_, by omega, .inr (.inr (by omega))⟩
    have hk : 256 ^ (2 ^ i) ≤ 18446744073709551616 := by
      match i, hi with
      | 0, _ | 1, _ | 2, _ | 3, _ => decide
    have hc := zck (2 ^ i) (xP n) t hk
    unfold wX
    rw [if_neg (by omega), if_neg (by omega), if_pos (by omega), show (((204 + i : Nat) : Int) - 204).toNat = i by omega]
    rw [show ((2 ^ i : Nat) : Int) = 2 ^ i by simp] at hc
    rw [hc]
    have hu : xP n < 256 ^ (2 ^ i) := by unfold xP; omega
    rw [Nat.mod_eq_of_lt hu]
    refine Prod.ext ?_ rfl
    simp only
    unfold xP
    rw [vl (by omega) (by omega)]; omega
  have dn : ∀ i : Nat, i ≤ 3 → n < 0 → -((256 ^ (2 ^ i) / 2 : Nat) : Int) ≤ n → ∃ (c : Int) (q : Rs), (Rs.mk (ofL (UInt8.ofNat (208 + i) :: yr (2 ^ i) (xP n) ++ t)) false).byte = (c, q) ∧ wX q c = (n, ⟨ofL t, false⟩) ∧ 0 ≤ c ∧ (c < 128 ∨ 224 ≤ c ∨ (204 ≤ c ∧ c ≤ 211)) := by
    intro i hi hn hlt
    refine ⟨((208 + i : Nat) : Int), ⟨ofL (yr (2 ^ i) (xP n) ++ t), false⟩, by rw [List.cons_append]; exact wm (208 + i) _ (by omega), ?_, by omega, .inr (.inr (by omega))⟩
    have hk : 256 ^ (2 ^ i) ≤ 18446744073709551616 := by
      match i, hi with
      | 0, _ | 1, _ | 2, _ | 3, _ => decide
    have hc := zck (2 ^ i) (xP n) t hk
    unfold wX
    rw [if_neg (by omega), if_neg (by omega), if_neg (by omega), if_pos (by omega), show (((208 + i : Nat) : Int) - 208).toNat = i by omega]
    rw [show ((2 ^ i : Nat) : Int) = 2 ^ i by simp] at hc
    rw [hc]
    refine Prod.ext ?_ rfl
    simp only
    unfold xP sx
    match i, hi with
    | 0, _ => simp at hlt ⊢; omega
    | 1, _ => simp at hlt ⊢; omega
    | 2, _ => simp at hlt ⊢; omega
    | 3, _ => simp at hlt ⊢; omega
  unfold qI
  split
  · rename_i h
    refine ⟨(((n % 256).toNat : Nat) : Int), ⟨ofL t, false⟩, by rw [List.singleton_append]; exact wm (n % 256).toNat _ (by omega), ?_, by omega, by omega⟩
    unfold wX
    by_cases hn : 0 ≤ n
    · rw [if_pos (by omega)]
      refine Prod.ext ?_ rfl
      simp only; omega
    · rw [if_neg (by omega), if_pos (by omega)]
      refine Prod.ext ?_ rfl
      simp only; omega
  split
  · split
    · exact up 0 (by omega) (by omega) (by simpa using ‹n < 256›)
    split
    · exact up 1 (by omega) (by omega) (by simpa using ‹n < 65536›)
    split
    · exact up 2 (by omega) (by omega) (by simpa using ‹n < 4294967296›)
    · exact up 3 (by omega) (by omega) (by simp; omega)
  split
  · exact dn 0 (by omega) (by omega) (by simpa using ‹-128 ≤ n›)
  split
  · exact dn 1 (by omega) (by omega) (by simpa using ‹-32768 ≤ n›)
  split
  · exact dn 2 (by omega) (by omega) (by simpa using ‹-2147483648 ≤ n›)
  · exact dn 3 (by omega) (by omega) (by simp; omega)
theorem zcp (nm : Rs → ByteArray × Rs) (f : Rs → Nd × Rs) (E : Nd → List UInt8) (Es : List Nd → List UInt8) (e0 : Es [] = []) (e1 : ∀ x xs, Es (x :: xs) = E x ++ Es xs) : ∀ (xs : List Nd) (ns : List ByteArray) (acc : List Nd) (t : List UInt8), (∀ x ∈ xs, ∀ t : List UInt8, f ⟨ofL (E x ++ t), false⟩ = (x, ⟨ofL t, false⟩)) →
    yg nm f 4 xs.length ns acc ⟨ofL (Es xs ++ t), false⟩ = (.mk 4 false 0 eS ns (acc ++ xs), ⟨ofL t, false⟩)
  | [], ns, acc, t, _ => by simp [yg, e0]
  | x :: xs, ns, acc, t, h => by
    have h1 := h x (by simp) (Es xs ++ t)
    have ih := zcp nm f E Es e0 e1 xs ns (acc ++ [x]) t (fun y hy => h y (by simp [hy]))
    simp only [List.length_cons, yg, Bool.false_eq_true, if_false, e1, List.append_assoc]
    rw [if_neg (by decide), h1]
    simp only
    rw [ih]; simp
theorem zdE (nm : Rs → ByteArray × Rs) (f : Rs → Nd × Rs) (E : Nd → List UInt8) (H : ByteArray → List UInt8) (Em : List ByteArray → List Nd → List UInt8) (e0 : Em [] [] = []) (e1 : ∀ s ss x xs, Em (s :: ss) (x :: xs) = H s ++ E x ++ Em ss xs) : ∀ (ss : List ByteArray) (xs : List Nd) (ns : List ByteArray) (acc : List Nd) (t : List UInt8), ss.length = xs.length → (∀ s ∈ ss, ∀ t : List UInt8, nm ⟨ofL (H s ++ t), false⟩ = (s, ⟨ofL t, false⟩)) → (∀ x ∈ xs, ∀ t : List UInt8, f ⟨ofL (E x ++ t), false⟩ = (x, ⟨ofL t, false⟩)) →
    yg nm f 5 xs.length ns acc ⟨ofL (Em ss xs ++ t), false⟩ = (.mk 5 false 0 eS (ns ++ ss) (acc ++ xs), ⟨ofL t, false⟩)
  | [], [], ns, acc, t, _, _, _ => by simp [yg, e0]
  | s :: ss, x :: xs, ns, acc, t, hl, hs, h => by
    have h1 := h x (by simp) (Em ss xs ++ t)
    have h2 := hs s (by simp) (E x ++ (Em ss xs ++ t))
    have ih := zdE nm f E H Em e0 e1 ss xs (ns ++ [s]) (acc ++ [x]) t (by simpa using hl) (fun y hy => hs y (by simp [hy])) (fun y hy => h y (by simp [hy]))
    simp only [List.length_cons, yg, Bool.false_eq_true, if_false, e1, List.append_assoc] at h2 ⊢
    rw [if_pos trivial, h2]
    simp only
    rw [h1]
    simp only
    rw [ih]; simp
  | [], _ :: _, _, _, _, hl, _, _ => by simp at hl
  | _ :: _, [], _, _, _, hl, _, _ => by simp at hl
theorem zkT {n : Nat} : (pTh n).length ≤ 5 ∧ 1 ≤ (pTh n).length := by
  unfold pTh; repeat' split
  all_goals simp [zO]
theorem qz (a b n : Nat) : 1 ≤ (pCn a b n).length ∧ (pCn a b n).length ≤ 3 := by
  unfold pCn; split <;> simp [zO]
theorem zhv (n : Int) : 1 ≤ (qI n).length ∧ (qI n).length ≤ 9 := by
  unfold qI; repeat' split
  all_goals simp [zO]
theorem zmj (x : Nd) : 1 ≤ x.pb.length := by
  cases x with
  | mk k b n t ns is =>
  simp only [Nd.pb]
  repeat' split
  · simp
  · simp
  · simp
  · exact (zhv _).1
  · unfold pTx; rw [List.length_append]; have := (zkT (n := t.size)).2; omega
  · rw [List.length_append]; have := (qz 144 220 is.length).1; omega
  · rw [List.length_append]; have := (qz 128 222 is.length).1; omega
theorem zkc : ∀ is : List Nd, is.length ≤ (Nd.pbs is).length
  | [] => by simp
  | x :: xs => by
    have := zmj x
    have := zkc xs
    simp only [Nd.pbs, List.length_append, List.length_cons]; omega
theorem zj6 : ∀ (ns : List ByteArray) (is : List Nd), ns.length = is.length → is.length ≤ (Nd.pbm ns is).length
  | [], [], _ => by simp
  | s :: ns, x :: xs, h => by
    have := zmj x
    have := zj6 ns xs (by simpa using h)
    simp only [Nd.pbm, List.length_append, List.length_cons]; omega
  | [], _ :: _, h => by simp at h
  | _ :: _, [], h => by simp at h
theorem zhK (few many n : Nat) (b : List UInt8) (hf : few < 240) (hm : many < 256) (hn : n < 65536) (hb : n ≤ b.length) : (n < 16 ∧ (Rs.mk (ofL (pCn few many n ++ b)) false).byte = (((few + n : Nat) : Int), ⟨ofL b, false⟩)) ∨
    (16 ≤ n ∧ ∃ q : Rs, (Rs.mk (ofL (pCn few many n ++ b)) false).byte = ((many : Int), q) ∧ q.count 2 = ((n : Int), ⟨ofL b, false⟩)) := by
  unfold pCn
  split
  · exact .inl ⟨by omega, by rw [List.singleton_append]; exact wm (few + n) _ (by omega)⟩
  · refine .inr ⟨by omega, ⟨ofL (yr 2 n ++ b), false⟩, by rw [List.cons_append]; exact wm many _ hm, ?_⟩
    exact zeY 2 n b (by decide) (by simpa using hn) hb
theorem zcW {V : ByteArray → Bool} : ∀ (x : Nd) (d : Nat), x.validB V d = true → x.In → ∀ t : List UInt8, yL d ⟨ofL (x.pb ++ t), false⟩ = (x, ⟨ofL t, false⟩)
  | .mk k b n tx ns is, 0, hv, _, t => by
    rw [yo] at hv
    have := hv.1
    simp at this
  | .mk k b n tx ns is, d + 1, hv, hin, t => by
    rw [yo] at hv
    obtain ⟨_, h2, h3, h4, h5, h6, h7, h8⟩ := hv
    cases hin with
    | mk i1 i2 i3 =>
    simp only [Nd.fieldsOK, Bool.and_eq_true, Bool.or_eq_true, decide_eq_true_eq, Bool.not_eq_true'] at h4
    obtain ⟨⟨⟨⟨f1, f2⟩, f3⟩, f4⟩, f5⟩ := h4
    have hk : k = 0 ∨ k = 1 ∨ k = 2 ∨ k = 3 ∨ k = 4 ∨ k = 5 := by omega
    have hi : ∀ y ∈ is, ∀ t : List UInt8, yL d ⟨ofL (y.pb ++ t), false⟩ = (y, ⟨ofL t, false⟩) := fun y hy t =>
      zcW y d (by have := h8 y hy; rwa [show ((d + 1 : Nat) : Int) - 1 = d by omega] at this) (i3 y hy) t
    have e0 : k ≠ 1 → b = false := fun h => f1.resolve_left h
    have e1 : k ≠ 2 → n = 0 := fun h => f2.resolve_left h
    have e2 : k ≠ 3 → tx = eS := fun h => f3.resolve_left h
    have e3 : k ≠ 4 → k ≠ 5 → is = [] := fun h h' => List.eq_nil_of_length_eq_zero (by rcases f4 with (h'' | h'') | h'' <;> first | (exact absurd h'' h) | (exact absurd h'' h') | omega)
    have e4 : k ≠ 5 → ns = [] := fun h => List.eq_nil_of_length_eq_zero (by rcases f5 with h' | h'; exact absurd h' h; omega)
    rcases hk with rfl | rfl | rfl | rfl | rfl | rfl
    · rw [e0 (by decide), e1 (by decide), e2 (by decide), e3 (by decide) (by decide), e4 (by decide)]
      rw [show (Nd.mk 0 false 0 eS [] []).pb = [UInt8.ofNat 192] by simp [Nd.pb], List.singleton_append, xE (wm 192 t (by omega)), if_pos (by decide)]
      simp [Nd.zero, eS]
    · rw [e1 (by decide), e2 (by decide), e3 (by decide) (by decide), e4 (by decide)]
      cases b with
      | true =>
        rw [show (Nd.mk 1 true 0 eS [] []).pb = [UInt8.ofNat 195] by simp [Nd.pb], List.singleton_append, xE (wm 195 t (by omega)), if_neg (by decide), if_pos (by decide)]
        simp
      | false =>
        rw [show (Nd.mk 1 false 0 eS [] []).pb = [UInt8.ofNat 194] by simp [Nd.pb], List.singleton_append, xE (wm 194 t (by omega)), if_neg (by decide), if_pos (by decide)]
        simp
    · rw [e0 (by decide), e2 (by decide), e3 (by decide) (by decide), e4 (by decide)]
      rw [show (Nd.mk 2 false n eS [] []).pb = qI n by simp [Nd.pb]]
      obtain ⟨c, q, g1, g2, g3, g4⟩ := zkU n t i1 i2
      rw [xE g1, if_neg (by omega), if_neg (by omega), if_neg (by omega), if_neg (by omega), if_neg (by omega), if_neg (by omega), if_neg (by omega), g2]
    · rw [e0 (by decide), e1 (by decide), e3 (by decide) (by decide), e4 (by decide)]
      have ht : tx.size ≤ 65536 := by simp only [yh, Bool.and_eq_true, decide_eq_true_eq] at h5; omega
      rw [show (Nd.mk 3 false 0 tx [] []).pb = pTx tx by simp [Nd.pb]]
      obtain ⟨c, q, g1, g2, g3⟩ := (zda tx t (by omega)).2
      rw [xE g1, if_neg (by omega), if_neg (by omega), if_neg (by omega), if_neg (by omega), if_neg (by omega), if_neg (by omega), if_pos g3, g2]
    · rw [e0 (by decide), e1 (by decide), e2 (by decide), e4 (by decide)]
      rw [show (Nd.mk 4 false 0 eS [] is).pb = pCn 144 220 is.length ++ Nd.pbs is by simp [Nd.pb], List.append_assoc]
      have hb := zkc is
      have hg := zcp yK (yL d) Nd.pb Nd.pbs rfl (fun _ _ => rfl) is [] [] t hi
      rcases zhK 144 220 is.length (Nd.pbs is ++ t) (by omega) (by omega) (by omega) (by rw [List.length_append]; omega) with ⟨g0, g1⟩ | ⟨g0, q, g1, g2⟩
      · rw [xE g1, if_neg (by omega), if_neg (by omega), if_neg (by omega), if_neg (by omega), if_pos (by omega), show (((144 + is.length : Nat) : Int) - 144).toNat = is.length by omega, hg]
        simp
      · rw [xE g1, if_neg (by omega), if_neg (by omega), if_neg (by omega), if_neg (by omega), if_neg (by omega), if_pos (by omega), g2]
        simp only [Int.toNat_natCast]
        rw [hg]; simp
    · rw [e0 (by decide), e1 (by decide), e2 (by decide)]
      have hl := (h7 rfl).2
      have hs : ∀ s ∈ ns, ∀ t : List UInt8, yK ⟨ofL (pTx s ++ t), false⟩ = (s, ⟨ofL t, false⟩) := fun s hs t => by
        have := (((yF (yh V) ns []).1 (h7 rfl).1).2 s hs).2
        simp only [yh, Bool.and_eq_true, decide_eq_true_eq] at this
        exact (zda s t (by omega)).1
      rw [show (Nd.mk 5 false 0 eS ns is).pb = pCn 128 222 is.length ++ Nd.pbm ns is by simp [Nd.pb], List.append_assoc]
      have hb := zj6 ns is hl
      have hg := zdE yK (yL d) Nd.pb pTx Nd.pbm rfl (fun _ _ _ _ => rfl) ns is [] [] t hl hs hi
      rcases zhK 128 222 is.length (Nd.pbm ns is ++ t) (by omega) (by omega) (by omega) (by rw [List.length_append]; omega) with ⟨g0, g1⟩ | ⟨g0, q, g1, g2⟩
      · rw [xE g1, if_neg (by omega), if_neg (by omega), if_pos (by omega), show (((128 + is.length : Nat) : Int) - 128).toNat = is.length by omega, hg]
        simp
      · rw [xE g1, if_neg (by omega), if_neg (by omega), if_neg (by omega), if_pos (by omega), g2]
        simp only [Int.toNat_natCast]
        rw [hg]; simp
termination_by x => SizeOf.sizeOf x
decreasing_by
  have := List.sizeOf_lt_of_mem hy
  simp only [Nd.mk.sizeOf_spec]
  omega
theorem zkD {n i : Nat} (hi : i ≤ 2) (h : n < 256 ^ (2 ^ i)) : (pTh n).length ≤ 1 + 2 ^ i := by
  unfold pTh
  match i, hi with
  | 0, _ => simp at h; repeat' split
            all_goals first | (simp [zO]; done) | omega
  | 1, _ => simp at h; repeat' split
            all_goals first | (simp [zO]; done) | omega
  | 2, _ => repeat' split
            all_goals (simp [zO])
theorem kv {n : Int} {i : Nat} (hi : i ≤ 3) (h0 : -((256 ^ (2 ^ i) / 2 : Nat) : Int) ≤ n) (h : n < ((256 ^ (2 ^ i) : Nat) : Int)) : (qI n).length ≤ 1 + 2 ^ i := by
  unfold qI
  match i, hi with
  | 0, _ => simp at h h0; repeat' split
            all_goals first | (simp [zO]; done) | omega
  | 1, _ => simp at h h0; repeat' split
            all_goals first | (simp [zO]; done) | omega
  | 2, _ => simp at h h0; repeat' split
            all_goals first | (simp [zO]; done) | omega
  | 3, _ => repeat' split
            all_goals (simp [zO])
theorem zap {r : Rs} {i : Nat} (hi : i ≤ 3) (h : (r.count (2 ^ i)).2.bad = false) : r.bad = false ∧ 0 ≤ (r.count (2 ^ i)).1 ∧ (r.count (2 ^ i)).1 < (256 : Int) ^ (2 ^ i) ∧ (r.count (2 ^ i)).2.s.size + 2 ^ i = r.s.size ∧ (r.count (2 ^ i)).1 ≤ (r.count (2 ^ i)).2.s.size := by
  unfold Rs.count at h ⊢
  obtain ⟨h1, h2, h3, h4⟩ := vU h
  obtain ⟨u1, u2, u3, u4⟩ := vT hi h4
  rw [h1, h2]
  exact ⟨u1, u3, u4, u2, h3⟩
theorem zc9 {q : Rs} {c : Int} (hc : (160 ≤ c ∧ c < 192) ∨ (217 ≤ c ∧ c ≤ 219) ∨ (wU q c).2.bad = false) (h : (wU q c).2.bad = false) : q.bad = false ∧ (pTx (wU q c).1).length + (wU q c).2.s.size ≤ q.s.size + 1 := by
  unfold wU at h ⊢
  split at h
  · rename_i e
    rw [if_pos e]
    obtain ⟨t1, t2, t3, t4, t5⟩ := xR h
    refine ⟨t1, ?_⟩
    unfold pTx
    rw [List.length_append, ya]
    have : (pTh (q.take (c - 160)).1.size).length = 1 := by unfold pTh; rw [if_pos (by omega)]; rfl
    omega
  · rename_i e0
    rw [if_neg e0]
    split at h
    · rename_i e
      rw [if_pos e]
      obtain ⟨i, hi, hi2⟩ : ∃ i : Nat, (c - 217).toNat = i ∧ i ≤ 2 := ⟨_, rfl, by omega⟩
      rw [hi] at h ⊢
      obtain ⟨t1, t2, t3, t4, t5⟩ := xR h
      obtain ⟨u1, u2, u3, u4, u5⟩ := zap (by omega) t1
      refine ⟨u1, ?_⟩
      unfold pTx
      rw [List.length_append, ya]
      have hl := zkD (n := ((q.count (2 ^ i)).2.take (q.count (2 ^ i)).1).1.size) (i := i) hi2 (by
        have e3 : ((256 ^ (2 ^ i) : Nat) : Int) = (256 : Int) ^ (2 ^ i) := by simp
        omega)
      omega
    · simp at h
theorem ziZ {r : Rs} (h : (yK r).2.bad = false) : r.bad = false ∧ (pTx (yK r).1).length + (yK r).2.s.size ≤ r.s.size := by
  unfold yK at h ⊢
  obtain ⟨h1, h2⟩ := zc9 (.inr (.inr h)) h
  obtain ⟨b1, b2⟩ := xC h1
  exact ⟨b1, by omega⟩
theorem ziY {q : Rs} {c : Int} (h0 : 0 ≤ c) (h1 : c < 256) (h : (wX q c).2.bad = false) : q.bad = false ∧ (qI (wX q c).1).length + (wX q c).2.s.size ≤ q.s.size + 1 ∧ -9223372036854775808 ≤ (wX q c).1 ∧ (wX q c).1 ≤ 9223372036854775807 := by
  unfold wX at h ⊢
  have one : ∀ v : Int, -32 ≤ v → v < 128 → (qI v).length = 1 := fun v h h' => by unfold qI; rw [if_pos ⟨h, h'⟩]; rfl
  split at h
  · rename_i e
    rw [if_pos e]
    refine ⟨h, ?_, ?_, ?_⟩
    · simp only; rw [one c (by omega) e]; omega
    · simp only; omega
    · simp only; omega
  rename_i n1
  rw [if_neg n1]
  split at h
  · rename_i e
    rw [if_pos e]
    refine ⟨h, ?_, ?_, ?_⟩
    · simp only; rw [one (c - 256) (by omega) (by omega)]; omega
    · simp only; omega
    · simp only; omega
  rename_i n2
  rw [if_neg n2]
  split at h
  · rename_i e
    rw [if_pos e]
    obtain ⟨i, hi, hi3⟩ : ∃ i : Nat, (c - 204).toNat = i ∧ i ≤ 3 := ⟨_, rfl, by omega⟩
    rw [hi] at h ⊢
    obtain ⟨u1, u2, u3, u4⟩ := vT hi3 h
    simp only
    generalize (q.uint (2 ^ i)).1 = v at *
    have e3 : ((256 ^ (2 ^ i) : Nat) : Int) = (256 : Int) ^ (2 ^ i) := by simp
    have hr := jc v
    refine ⟨u1, ?_, hr.1, hr.2⟩
    have : (qI (i64 v)).length ≤ 1 + 2 ^ i := by
      match i, hi3 with
      | 0, _ => simp at u4; exact kv (i := 0) (by omega) (by rw [vl (by omega) (by omega)]; simp; omega) (by rw [vl (by omega) (by omega)]; simp; omega)
      | 1, _ => simp at u4; exact kv (i := 1) (by omega) (by rw [vl (by omega) (by omega)]; simp; omega) (by rw [vl (by omega) (by omega)]; simp; omega)
      | 2, _ => simp at u4; exact kv (i := 2) (by omega) (by rw [vl (by omega) (by omega)]; simp; omega) (by rw [vl (by omega) (by omega)]; simp; omega)
      | 3, _ => exact (zhv _).2
    omega
  rename_i n3
  rw [if_neg n3]
  split at h
  · rename_i e
    rw [if_pos e]
    obtain ⟨i, hi, hi3⟩ : ∃ i : Nat, (c - 208).toNat = i ∧ i ≤ 3 := ⟨_, rfl, by omega⟩
    rw [hi] at h ⊢
    obtain ⟨u1, u2, u3, u4⟩ := vT hi3 h
    simp only
    generalize (q.uint (2 ^ i)).1 = v at *
    have hs : -((256 ^ (2 ^ i) / 2 : Nat) : Int) ≤ sx (2 ^ i) v ∧ sx (2 ^ i) v < ((256 ^ (2 ^ i) / 2 : Nat) : Int) := by
      unfold sx
      match i, hi3 with
      | 0, _ => simp at u4 ⊢; omega
      | 1, _ => simp at u4 ⊢; omega
      | 2, _ => simp at u4 ⊢; omega
      | 3, _ => simp at u4 ⊢; omega
    have hp := kv hi3 hs.1 (by omega)
    have h63 : ((256 ^ (2 ^ i) / 2 : Nat) : Int) ≤ 9223372036854775808 := by
      match i, hi3 with
      | 0, _ | 1, _ | 2, _ | 3, _ => decide +kernel
    exact ⟨u1, by omega, by omega, by omega⟩
  · simp at h
theorem za3 (nm : Rs → ByteArray × Rs) (f : Rs → Nd × Rs) (hf : ∀ r, (f r).2.bad = false → r.bad = false ∧ (f r).1.pb.length + (f r).2.s.size ≤ r.s.size ∧ (f r).1.In) : ∀ (c : Nat) (ns : List ByteArray) (is : List Nd) (r : Rs), (yg nm f 4 c ns is r).2.bad = false →
    r.bad = false ∧ ∃ xs : List Nd, xs.length = c ∧ (yg nm f 4 c ns is r).1 = .mk 4 false 0 eS ns (is ++ xs) ∧ (Nd.pbs xs).length + (yg nm f 4 c ns is r).2.s.size ≤ r.s.size ∧ ∀ x ∈ xs, x.In
  | 0, ns, is, r, h => ⟨h, [], rfl, by simp [yg], by simp [yg, Nd.pbs], by simp⟩
  | c + 1, ns, is, r, h => by
    simp only [yg] at h ⊢
    by_cases hb : r.bad = true
    · rw [if_pos hb] at h; rw [hb] at h; simp at h
    · rw [if_neg hb, if_neg (by decide)] at h ⊢
      obtain ⟨h1, xs, h2, h3, h4, h5⟩ := za3 nm f hf c ns (is ++ [(f r).1]) (f r).2 h
      obtain ⟨g1, g2, g3⟩ := hf r h1
      refine ⟨g1, (f r).1 :: xs, by simp [h2], by rw [h3]; simp, ?_, ?_⟩
      · simp only [Nd.pbs, List.length_append]; omega
      · intro x hx
        rcases List.mem_cons.1 hx with rfl | hx
        · exact g3
        · exact h5 x hx
theorem zaV (f : Rs → Nd × Rs) (hf : ∀ r, (f r).2.bad = false → r.bad = false ∧ (f r).1.pb.length + (f r).2.s.size ≤ r.s.size ∧ (f r).1.In) : ∀ (c : Nat) (ns : List ByteArray) (is : List Nd) (r : Rs), (yg yK f 5 c ns is r).2.bad = false →
    r.bad = false ∧ ∃ (ss : List ByteArray) (xs : List Nd), ss.length = c ∧ xs.length = c ∧ (yg yK f 5 c ns is r).1 = .mk 5 false 0 eS (ns ++ ss) (is ++ xs) ∧ (Nd.pbm ss xs).length + (yg yK f 5 c ns is r).2.s.size ≤ r.s.size ∧ ∀ x ∈ xs, x.In
  | 0, ns, is, r, h => ⟨h, [], [], rfl, rfl, by simp [yg], by simp [yg, Nd.pbm], by simp⟩
  | c + 1, ns, is, r, h => by
    simp only [yg] at h ⊢
    by_cases hb : r.bad = true
    · rw [if_pos hb] at h; rw [hb] at h; simp at h
    · rw [if_neg hb, if_pos trivial] at h ⊢
      obtain ⟨h1, ss, xs, h2, h2', h3, h4, h5⟩ := zaV f hf c (ns ++ [(yK r).1]) (is ++ [(f (yK r).2).1]) (f (yK r).2).2 h
      obtain ⟨g1, g2, g3⟩ := hf _ h1
      obtain ⟨q1, q2⟩ := ziZ g1
      refine ⟨q1, (yK r).1 :: ss, (f (yK r).2).1 :: xs, by simp [h2], by simp [h2'], by rw [h3]; simp, ?_, ?_⟩
      · simp only [Nd.pbm, List.length_append]; omega
      · intro x hx
        rcases List.mem_cons.1 hx with rfl | hx
        · exact g3
        · exact h5 x hx
theorem vH : ∀ (d : Nat) (r : Rs), (yL d r).2.bad = false → r.bad = false ∧ (yL d r).1.pb.length + (yL d r).2.s.size ≤ r.s.size ∧ (yL d r).1.In
  | 0, r, h => by simp [yL] at h
  | d + 1, r, h => by
    obtain ⟨c, q, hh⟩ : ∃ c q, r.byte = (c, q) := ⟨_, _, rfl⟩
    have hr := xK r
    have key : q.bad = false → r.bad = false ∧ q.s.size + 1 = r.s.size := fun hq => by
      have := xC (r := r) (by rw [hh]; exact hq)
      rw [hh] at this
      exact this
    rw [hh] at hr
    simp only at hr
    rw [xE hh] at h ⊢
    have pcnt : ∀ a b n, n < 16 → (pCn a b n).length = 1 := fun a b n h => by unfold pCn; rw [if_pos h]; rfl
    have li : ∀ (c : Nat) (q : Rs), (yg yK (yL d) 4 c [] [] q).2.bad = false → q.bad = false ∧ ∃ xs : List Nd, xs.length = c ∧ (yg yK (yL d) 4 c [] [] q).1.pb.length = (pCn 144 220 c).length + (Nd.pbs xs).length ∧ (Nd.pbs xs).length + (yg yK (yL d) 4 c [] [] q).2.s.size ≤ q.s.size ∧ (yg yK (yL d) 4 c [] [] q).1.In := fun c q h => by
      obtain ⟨h1, xs, h2, h3, h4, h5⟩ := za3 yK (yL d) (vH d) c [] [] q h
      refine ⟨h1, xs, h2, ?_, h4, ?_⟩
      · rw [h3]; simp [Nd.pb, h2]
      · rw [h3]; exact .mk (by omega) (by omega) (by simpa using h5)
    have ma : ∀ (c : Nat) (q : Rs), (yg yK (yL d) 5 c [] [] q).2.bad = false → q.bad = false ∧ ∃ (ss : List ByteArray) (xs : List Nd), xs.length = c ∧ (yg yK (yL d) 5 c [] [] q).1.pb.length = (pCn 128 222 c).length + (Nd.pbm ss xs).length ∧ (Nd.pbm ss xs).length + (yg yK (yL d) 5 c [] [] q).2.s.size ≤ q.s.size ∧ (yg yK (yL d) 5 c [] [] q).1.In := fun c q h => by
      obtain ⟨h1, ss, xs, h2, h2', h3, h4, h5⟩ := zaV (yL d) (vH d) c [] [] q h
      refine ⟨h1, ss, xs, h2', ?_, h4, ?_⟩
      · rw [h3]; simp [Nd.pb, h2']
      · rw [h3]; exact .mk (by omega) (by omega) (by simpa using h5)
    split at h
    · rename_i e; rw [if_pos e]
      obtain ⟨g1, g2⟩ := key h
      exact ⟨g1, by simp [Nd.zero, Nd.pb]; omega, kX⟩
    rename_i n1; rw [if_neg n1]
    split at h
    · rename_i e; rw [if_pos e]
      obtain ⟨g1, g2⟩ := key h
      exact ⟨g1, by simp [Nd.pb]; omega, .mk (by omega) (by omega) (by simp)⟩
    rename_i n2; rw [if_neg n2]
    split at h
    · rename_i e; rw [if_pos e]
      obtain ⟨g0, ss, xs, g3, g4, g5, g6⟩ := ma _ _ h
      obtain ⟨g1, g2⟩ := key g0
      have := pcnt 128 222 (c - 128).toNat (by omega)
      exact ⟨g1, by omega, g6⟩
    rename_i n3; rw [if_neg n3]
    split at h
    · rename_i e; rw [if_pos e]
      obtain ⟨g0, ss, xs, g3, g4, g5, g6⟩ := ma _ _ h
      have hc : (q.count (2 ^ 1)).2.bad = false := g0
      obtain ⟨u1, u2, u3, u4, u5⟩ := zap (by omega) hc
      obtain ⟨g1, g2⟩ := key u1
      have := (qz 128 222 (q.count 2).1.toNat).2
      have u4 : (q.count 2).2.s.size + 2 = q.s.size := u4
      exact ⟨g1, by omega, g6⟩
    rename_i n4; rw [if_neg n4]
    split at h
    · rename_i e; rw [if_pos e]
      obtain ⟨g0, xs, g3, g4, g5, g6⟩ := li _ _ h
      obtain ⟨g1, g2⟩ := key g0
      have := pcnt 144 220 (c - 144).toNat (by omega)
      exact ⟨g1, by omega, g6⟩
    rename_i n5; rw [if_neg n5]
    split at h
    · rename_i e; rw [if_pos e]
      obtain ⟨g0, xs, g3, g4, g5, g6⟩ := li _ _ h
      have hc : (q.count (2 ^ 1)).2.bad = false := g0
      obtain ⟨u1, u2, u3, u4, u5⟩ := zap (by omega) hc
      obtain ⟨g1, g2⟩ := key u1
      have := (qz 144 220 (q.count 2).1.toNat).2
      have u4 : (q.count 2).2.s.size + 2 = q.s.size := u4
      exact ⟨g1, by omega, g6⟩
    rename_i n6; rw [if_neg n6]
    split at h
    · rename_i e; rw [if_pos e]
      obtain ⟨t1, t2⟩ := zc9 (.inr (.inr h)) h
      obtain ⟨g1, g2⟩ := key t1
      refine ⟨g1, ?_, .mk (by omega) (by omega) (by simp)⟩
      rw [show (Nd.mk 3 false 0 (wU q c).1 [] [], (wU q c).2).1.pb = pTx (wU q c).1 by simp [Nd.pb]]
      simp only; omega
    · rename_i e; rw [if_neg e]
      obtain ⟨t1, t2, t3, t4⟩ := ziY hr.1 hr.2 h
      obtain ⟨g1, g2⟩ := key t1
      refine ⟨g1, ?_, .mk t3 t4 (by simp)⟩
      rw [show (Nd.mk 2 false (wX q c).1 eS [] [], (wX q c).2).1.pb = qI (wX q c).1 by simp [Nd.pb]]
      simp only; omega
structure Codec where
  E : Nd → List UInt8
  R : ByteArray → Nd × Rs
  back : ∀ {V : ByteArray → Bool} {x : Nd}, x.validB V 8 = true → x.In → R (ofL (E x)) = (x, ⟨eS, false⟩)
  good : ∀ {s : ByteArray}, (R s).2.bad = false → (R s).1.In
variable (C : Codec)
def za0 (V : ByteArray → Bool) (x : Nd) : ByteArray × Int := if x.validB V 8 = true then (if 65536 < (C.E x).length then (eS, 3) else (ofL (C.E x), 0)) else (eS, 1)
def zcQ (V : ByteArray → Bool) (s : ByteArray) : Prop := (C.R s).2.bad = false ∧ (C.R s).2.s = eS ∧ (C.R s).1.validB V 8 = true ∧ za0 C V (C.R s).1 = (s, 0)
instance (V : ByteArray → Bool) (s : ByteArray) : Decidable (zcQ C V s) := by unfold zcQ; exact inferInstance
def kH (V : ByteArray → Bool) (s : ByteArray) : Nd × Int := if zcQ C V s then ((C.R s).1, 0) else (Nd.zero, 4)
variable {C}
theorem zbC {V : ByteArray → Bool} {x : Nd} (hv : x.validB V 8 = true) (hin : x.In) (hl : (C.E x).length ≤ 65536) : kH C V (ofL (C.E x)) = (x, 0) := by
  have h := C.back hv hin
  have hg : zcQ C V (ofL (C.E x)) := by
    unfold zcQ
    rw [h]
    refine ⟨rfl, rfl, hv, ?_⟩
    simp only
    unfold za0
    rw [if_pos hv, if_neg (by omega)]
  unfold kH
  rw [if_pos hg, h]
theorem zj0 {V : ByteArray → Bool} {s : ByteArray} (h : zcQ C V s) : (C.R s).1.In ∧ (C.E (C.R s).1).length ≤ 65536 ∧ s = ofL (C.E (C.R s).1) := by
  obtain ⟨h1, h2, h3, h4⟩ := h
  have := C.good h1
  unfold za0 at h4
  rw [if_pos h3] at h4
  split at h4
  · have := congrArg (·.2) h4; simp at this
  · exact ⟨this, by omega, (congrArg (·.1) h4).symm⟩
theorem zbj {V : ByteArray → Bool} {s : ByteArray} : zcQ C V s ↔ ∃ x : Nd, x.validB V 8 = true ∧ x.In ∧ (C.E x).length ≤ 65536 ∧ s = ofL (C.E x) := by
  constructor
  · intro h
    obtain ⟨h1, h2, h3⟩ := zj0 h
    exact ⟨_, h.2.2.1, h1, h2, h3⟩
  · rintro ⟨x, h1, h2, h3, rfl⟩
    have := zbC h1 h2 h3
    unfold kH at this
    split at this
    · assumption
    · have := congrArg (·.2) this; simp at this
theorem zfz {V : ByteArray → Bool} {s : ByteArray} (h : ¬ zcQ C V s) : kH C V s = (Nd.zero, 4) := if_neg h
theorem zeu {V : ByteArray → Bool} {x : Nd} (hv : x.validB V 8 = true) (hl : (C.E x).length ≤ 65536) : za0 C V x = (ofL (C.E x), 0) := by
  unfold za0; rw [if_pos hv, if_neg (by omega)]
def pkC : Codec where
  E := Nd.pb
  R s := yL 8 ⟨s, false⟩
  back := fun {V x} hv hin => by
    have := zcW x 8 hv hin []
    rw [List.append_nil] at this
    exact this
  good := fun {s} h => by
    have := vH 8 ⟨s, false⟩ h
    exact this.2.2
theorem zbc (r : Rs) (k : Int) : (r.count k).2.s.size ≤ r.s.size ∧ (r.count k).1 ≤ r.s.size := by
  unfold Rs.count
  have h1 := zbR r k
  have h2 := zau (r.uint k).2 (r.uint k).1
  exact ⟨Nat.le_trans h2.1 h1, by omega⟩
theorem zhI (r : Rs) (c : Int) : (wU r c).2.s.size ≤ r.s.size ∧ (wU r c).1.size ≤ r.s.size := by
  have tk : ∀ (q : Rs) (n : Int), (q.take n).1.size ≤ q.s.size := fun q n => by
    unfold Rs.take; split
    · exact Nat.zero_le _
    · simp only [ByteArray.size_extract]; omega
  unfold wU
  split
  · exact ⟨kQ _ _, tk _ _⟩
  split
  · have := (zbc r (2 ^ (c - 217).toNat)).1
    exact ⟨Nat.le_trans (kQ _ _) this, Nat.le_trans (tk _ _) this⟩
  · exact ⟨Nat.le_refl _, Nat.zero_le _⟩
theorem zhy (r : Rs) : (yK r).2.s.size ≤ r.s.size ∧ (yK r).1.size ≤ r.s.size := by
  have := wW r
  have h := zhI r.byte.2 r.byte.1
  exact ⟨Nat.le_trans h.1 this, Nat.le_trans h.2 this⟩
theorem zlX (r : Rs) (c : Int) : (wX r c).2.s.size ≤ r.s.size := by
  unfold wX
  repeat' split
  · exact Nat.le_refl _
  · exact Nat.le_refl _
  · exact zbR _ _
  · exact zbR _ _
  · exact Nat.le_refl _
theorem vL (f : Rs → Nd × Rs) (k : Int) (B : Nat) (hf : ∀ r : Rs, r.s.size ≤ B → (f r).2.s.size ≤ B ∧ (f r).1.Ok) : ∀ (c : Nat) (ns : List ByteArray) (is : List Nd) (r : Rs), r.s.size ≤ B → ns.length + c ≤ 1000000000 → is.length + c ≤ 1000000000 → (∀ x ∈ is, x.Ok) → (yg yK f k c ns is r).2.s.size ≤ B ∧ (yg yK f k c ns is r).1.Ok
  | 0, ns, is, r, hr, h1, h2, h3 => ⟨hr, .mk (by omega) (by omega) h3⟩
  | c + 1, ns, is, r, hr, h1, h2, h3 => by
    unfold yg
    have key : ∀ (y : Nd), y.Ok → ∀ x ∈ is ++ [y], x.Ok := fun y hy x hx => by
      rcases List.mem_append.1 hx with h | h
      · exact h3 x h
      · rw [List.mem_singleton.1 h]; exact hy
    split
    · exact ⟨hr, .mk (by omega) (by omega) h3⟩
    · split
      · have h := hf (yK r).2 (Nat.le_trans (zhy r).1 hr)
        exact vL f k B hf c _ _ _ h.1 (by simp; omega) (by simp; omega) (key _ h.2)
      · have h := hf r hr
        exact vL f k B hf c _ _ _ h.1 (by omega) (by simp; omega) (key _ h.2)
theorem kx (B : Nat) (hB : B ≤ 1000000000) : ∀ (d : Nat) (r : Rs), r.s.size ≤ B → (yL d r).2.s.size ≤ B ∧ (yL d r).1.Ok
  | 0, r, hr => ⟨Nat.le_trans (wW r) hr, xw⟩
  | d + 1, r, hr => by
    obtain ⟨c, q, hh⟩ : ∃ c q, r.byte = (c, q) := ⟨_, _, rfl⟩
    have hq : q.s.size ≤ B := by have := wW r; rw [hh] at this; exact Nat.le_trans this hr
    have hc := zbc q 2
    rw [xE hh]
    split
    · exact ⟨hq, xw⟩
    split
    · exact ⟨hq, .mk (by simp) (by simp) (by simp)⟩
    split
    · exact vL (yL d) 5 B (kx B hB d) _ _ _ _ hq (by simp; omega) (by simp; omega) (by simp)
    split
    · exact vL (yL d) 5 B (kx B hB d) _ _ _ _ (Nat.le_trans hc.1 hq) (by simp; omega) (by simp; omega) (by simp)
    split
    · exact vL (yL d) 4 B (kx B hB d) _ _ _ _ hq (by simp; omega) (by simp; omega) (by simp)
    split
    · exact vL (yL d) 4 B (kx B hB d) _ _ _ _ (Nat.le_trans hc.1 hq) (by simp; omega) (by simp; omega) (by simp)
    split
    · exact ⟨Nat.le_trans (zhI q c).1 hq, .mk (by simp) (by simp) (by simp)⟩
    · exact ⟨Nat.le_trans (zlX q c) hq, .mk (by simp) (by simp) (by simp)⟩
theorem zmm (n : Nat) : (pTh n).length ≤ (hdL 3 n).length := by
  unfold pTh hdL
  repeat' split
  all_goals first | (simp [zO]; done) | omega
theorem zmb (a b m n : Nat) : (pCn a b n).length ≤ 3 * (hdL m n).length := by
  have := (qz a b n).2
  have := zaq m n
  omega
theorem zmu (n : Int) : (qI n).length ≤ 3 * (if n < 0 then hdL 1 (-1 - n).toNat else hdL 0 n.toNat).length := by
  unfold qI hdL
  repeat' split
  all_goals first | (simp [zO]; done) | (exfalso; omega)
mutual
theorem zmy : ∀ x : Nd, x.pb.length ≤ 3 * x.cb.length
  | .mk k b n t ns is => by
    have h1 := zmc is
    have h2 := zml ns is
    have h3 := zmu n
    have h4 := zmm t.size
    have h5 := zmb 144 220 4 is.length
    have h6 := zmb 128 222 5 is.length
    simp only [Nd.pb, Nd.cb]
    split
    · rename_i e; simp [hdL]
    split
    · rename_i e; have := zaq 7 (if b then 21 else 20); simp only [List.length_singleton]; omega
    split
    · exact h3
    split
    · unfold pTx; rw [List.length_append, List.length_append]; omega
    split
    · rw [List.length_append, List.length_append]; omega
    · rw [List.length_append, List.length_append]; omega
theorem zmc : ∀ xs : List Nd, (Nd.pbs xs).length ≤ 3 * (Nd.cbs xs).length
  | [] => by simp [Nd.pbs, Nd.cbs]
  | x :: xs => by
    have := zmy x
    have := zmc xs
    simp only [Nd.pbs, Nd.cbs, List.length_append]; omega
theorem zml : ∀ (ns : List ByteArray) (xs : List Nd), (Nd.pbm ns xs).length ≤ 3 * (Nd.cbm ns xs).length
  | s :: ns, x :: xs => by
    have := zmy x
    have := zml ns xs
    have := zmm s.size
    simp only [Nd.pbm, Nd.cbm, pTx, List.length_append]; omega
  | [], _ => by simp [Nd.pbm]
  | _ :: _, [] => by simp [Nd.pbm]
end
end Go.AL
namespace Go.AL
open Go Go.Proofs Go.RowKit
theorem sh8 {j : Nat} (hj : j ≤ 3) : IntKind.i64.wrap (8 * 2 ^ min (j : Int).toNat IntKind.i64.bits) = ((8 * 2 ^ j : Nat) : Int) := by
  match j, hj with
  | 0, _ | 1, _ | 2, _ | 3, _ => decide
theorem zkH {n : Int} {j : Nat} (hj : j ≤ 3) (h0 : 0 ≤ n) : n / 2 ^ min (((8 * 2 ^ j : Nat) : Int)).toNat IntKind.i64.bits = 0 ↔ n < ((256 ^ (2 ^ j) : Nat) : Int) := by
  match j, hj with
  | 0, _ => rw [show min (((8 * 2 ^ 0 : Nat) : Int)).toNat IntKind.i64.bits = 8 by decide]; simp <;> omega
  | 1, _ => rw [show min (((8 * 2 ^ 1 : Nat) : Int)).toNat IntKind.i64.bits = 16 by decide]; simp <;> omega
  | 2, _ => rw [show min (((8 * 2 ^ 2 : Nat) : Int)).toNat IntKind.i64.bits = 32 by decide]; simp <;> omega
  | 3, _ => rw [show min (((8 * 2 ^ 3 : Nat) : Int)).toNat IntKind.i64.bits = 64 by decide]; simp <;> omega
theorem zme {n : Int} {j : Nat} (hj : j ≤ 3) (h0 : n < 0) : n / 2 ^ min (IntKind.i64.wrap (((8 * 2 ^ j : Nat) : Int) - 1)).toNat IntKind.i64.bits = -1 ↔ -((256 ^ (2 ^ j) / 2 : Nat) : Int) ≤ n := by
  match j, hj with
  | 0, _ => rw [show min (IntKind.i64.wrap (((8 * 2 ^ 0 : Nat) : Int) - 1)).toNat IntKind.i64.bits = 7 by decide]; simp <;> omega
  | 1, _ => rw [show min (IntKind.i64.wrap (((8 * 2 ^ 1 : Nat) : Int) - 1)).toNat IntKind.i64.bits = 15 by decide]; simp <;> omega
  | 2, _ => rw [show min (IntKind.i64.wrap (((8 * 2 ^ 2 : Nat) : Int) - 1)).toNat IntKind.i64.bits = 31 by decide]; simp <;> omega
  | 3, _ => rw [show min (IntKind.i64.wrap (((8 * 2 ^ 3 : Nat) : Int) - 1)).toNat IntKind.i64.bits = 63 by decide]; simp <;> omega
theorem zjN {n : Int} {j : Nat} (hj : j ≤ 3) (h0 : 128 ≤ n) (hlo : ∀ i, i < j → ((256 ^ (2 ^ i) : Nat) : Int) ≤ n) (hhi : j = 3 ∨ n < ((256 ^ (2 ^ j) : Nat) : Int)) : qI n = UInt8.ofNat (204 + j) :: yr (2 ^ j) (xP n) := by
  unfold qI
  rw [if_neg (by omega), if_pos (by omega)]
  match j, hj with
  | 0, _ => rw [if_pos (by simpa using hhi)]; try rfl
  | 1, _ =>
    have := hlo 0 (by omega)
    rw [if_neg (by simp at this; omega), if_pos (by simpa using hhi)]; try rfl
  | 2, _ =>
    have h0 := hlo 0 (by omega)
    have h1 := hlo 1 (by omega)
    rw [if_neg (by simp at h0; omega), if_neg (by simp at h1; omega), if_pos (by simpa using hhi)]; try rfl
  | 3, _ =>
    have h0 := hlo 0 (by omega)
    have h1 := hlo 1 (by omega)
    have h2 := hlo 2 (by omega)
    rw [if_neg (by simp at h0; omega), if_neg (by simp at h1; omega), if_neg (by simp at h2; omega)]; try rfl
theorem znl {n : Int} {j : Nat} (hj : j ≤ 3) (h0 : n < -32) (hlo : ∀ i, i < j → n < -((256 ^ (2 ^ i) / 2 : Nat) : Int)) (hhi : j = 3 ∨ -((256 ^ (2 ^ j) / 2 : Nat) : Int) ≤ n) : qI n = UInt8.ofNat (208 + j) :: yr (2 ^ j) (xP n) := by
  unfold qI
  rw [if_neg (by omega), if_neg (by omega)]
  match j, hj with
  | 0, _ => rw [if_pos (by simpa using hhi)]; try rfl
  | 1, _ =>
    have := hlo 0 (by omega)
    rw [if_neg (by simp at this; omega), if_pos (by simpa using hhi)]; try rfl
  | 2, _ =>
    have h0 := hlo 0 (by omega)
    have h1 := hlo 1 (by omega)
    rw [if_neg (by simp at h0; omega), if_neg (by simp at h1; omega), if_pos (by simpa using hhi)]; try rfl
  | 3, _ =>
    have h0 := hlo 0 (by omega)
    have h1 := hlo 1 (by omega)
    have h2 := hlo 2 (by omega)
    rw [if_neg (by simp at h0; omega), if_neg (by simp at h1; omega), if_neg (by simp at h2; omega)]; try rfl
theorem zkE {j : Nat} (hj : j ≤ 3) : IntKind.u8.wrap (IntKind.i64.wrap (204 + (j : Int))) = ((UInt8.ofNat (204 + j)).toNat : Int) := by
  match j, hj with
  | 0, _ | 1, _ | 2, _ | 3, _ => decide
theorem zmS {j : Nat} (hj : j ≤ 3) : IntKind.u8.wrap (IntKind.i64.wrap (208 + (j : Int))) = ((UInt8.ofNat (208 + j)).toNat : Int) := by
  match j, hj with
  | 0, _ | 1, _ | 2, _ | 3, _ => decide
theorem znN {j : Nat} (hj : j ≤ 3) : 0 ≤ IntKind.i64.wrap (((8 * 2 ^ j : Nat) : Int) - 1) := by
  match j, hj with
  | 0, _ | 1, _ | 2, _ | 3, _ => decide
theorem zoy {j : Nat} (hj : j ≤ 3) (h : ((8 * 2 ^ j : Nat) : Int) = 64) : j = 3 := by
  match j, hj with
  | 0, _ | 1, _ | 2, _ => simp at h
  | 3, _ => rfl
set_option maxHeartbeats 8000000 in
theorem zi9 (es : List T) (hes : es.length ≤ 100000000) (n : Int) (h0 : -9223372036854775808 ≤ n) (h1 : n ≤ 9223372036854775807) : Spec Tryz.prog 160 [.row (.par 0), .t (.int .i64 n)] [(.par 0, .slt 5 1 es)] (.row (.res 0)) [(.res 0, .slt 5 1 (es ++ u8L (qI n)))] := by
  have hu : IntKind.u64.wrap n = ((xP n : Nat) : Int) := by
    unfold xP
    simp only [IntKind.wrap, IntKind.bits, IntKind.signed, Bool.false_and, Bool.false_eq_true, if_false]
    omega
  have hun : xP n < 18446744073709551616 := by unfold xP; omega
  by_cases hsm : -32 ≤ n ∧ n < 128
  · have e : qI n = [UInt8.ofNat (n % 256).toNat] := by unfold qI; rw [if_pos hsm]
    rw [e]
    refine wIG Tryz.func160 ?_
    repeat' (first | refine wC ?_ | refine wK ?_ | ((with_reducible refine zw ?_); refine zh rfl rfl rfl rfl rfl rfl rfl rfl rfl rfl ?_ ?_ ?_) | refine zd rfl ?_ ?_ <;> intro hc | refine zj rfl ?_ ?_ <;> intro hc)
    all_goals try (exfalso; omega)
    · simp; omega
    · simp; omega
    · refine zv ((za [4] [.loc 17] rfl rfl).trans (zg (.loc 17) (.res 0) rfl rfl rfl rfl)) ?_
      refine zL (zp (zK rfl (AVLE.refl _)) (zc ⟨?_, trivial⟩))
      have : IntKind.u8.wrap n = ((UInt8.ofNat (n % 256).toNat).toNat : Int) := by
        simp only [IntKind.wrap, IntKind.bits, IntKind.signed, Bool.false_and, Bool.false_eq_true, if_false]
        rw [UInt8.toNat_ofNat']; omega
      rw [this]; rfl
  · have hP : ∀ (X : T) (j : Nat), j ≤ 3 → Spec Tryz.prog 229 [.row (.par 0), .t (.int .u64 (IntKind.u64.wrap n)), .t (.int .i64 (IntKind.i64.wrap (1 * 2 ^ min (j : Int).toNat IntKind.i64.bits)))] [(.par 0, .slt 5 1 (es ++ [X]))] (.row (.res 0)) [(.res 0, .slt 5 1 ((es ++ [X]) ++ u8L (yr (2 ^ j) (xP n))))] := fun X j hj => by
      rw [zl6 hj, hu]
      exact jq _ (by simp; omega) (xP n) hun (2 ^ j) (by match j, hj with | 0, _ | 1, _ | 2, _ | 3, _ => decide)
    by_cases hup : 128 ≤ n
    · refine wIG Tryz.func160 ?_
      repeat' (first | refine wC ?_ | refine wK ?_ | ((with_reducible refine zw ?_); refine zh rfl rfl rfl rfl rfl rfl rfl rfl rfl rfl ?_ ?_ ?_) | refine zd rfl ?_ ?_ <;> intro hc | refine zj rfl ?_ ?_ <;> intro hc)
      all_goals try (exfalso; omega)
      refine zl (za [0, 1, 18] [.par 0] rfl rfl) ?_
      refine zz (fun p env st => ∃ (j : Nat), j ≤ 3 ∧ p = 3 - j ∧ (∀ i, i < j → ((256 ^ (2 ^ i) : Nat) : Int) ≤ n) ∧
          env = EnvL.get [(0, .row (.par 0)), (1, .t (.int .i64 n)), (18, .t (.int .i64 (j : Int)))] ∧ st = StO.get [(.par 0, some (.slt 5 1 es))])
        ?_ (n := 3) ⟨0, by omega, rfl, fun i hi => by omega, rfl, rfl⟩
      rintro p env st ⟨j, hj, rfl, hlo, rfl, rfl⟩
      have hP := fun X => hP X j hj
      repeat' (first | refine wC ?_ | refine wK ?_ | ((with_reducible refine zM ?_); first | refine xi rfl rfl rfl rfl rfl rfl ?_ ?_ | refine je rfl rfl rfl rfl rfl rfl ?_ ?_) | ((with_reducible refine zw ?_); refine zh rfl rfl rfl rfl rfl rfl rfl rfl rfl rfl ?_ ?_ ?_) | ((with_reducible refine ze ?_); refine wN (.row (.loc 901)) [(.par 0, .loc 41), (.res 0, .loc 901)] (hP _) ?_) | refine zd rfl ?_ ?_ <;> intro hc | refine zj rfl ?_ ?_ <;> intro hc)
      all_goals try omega
      all_goals try simp only [sh8 hj] at *
      all_goals try omega
      all_goals try (simp only [List.length_cons, List.length_nil]; omega)
      · have hj3 := zoy hj hc
        refine zv ((za [4] [.loc 901] rfl rfl).trans (zg (.loc 901) (.res 0) rfl rfl rfl rfl)) ?_
        refine zL (zp (zK rfl (AVLE.refl _)) (zc ⟨?_, trivial⟩))
        rw [zjN hj hup hlo (.inl hj3), zkE hj, List.append_assoc]; rfl
      · refine zv ((za [4] [.loc 901] rfl rfl).trans (zg (.loc 901) (.res 0) rfl rfl rfl rfl)) ?_
        refine zL (zp (zK rfl (AVLE.refl _)) (zc ⟨?_, trivial⟩))
        rw [zjN hj hup hlo (.inr ((zkH hj (by omega)).1 hc)), zkE hj, List.append_assoc]; rfl
      · have hnz : ¬ n < ((256 ^ (2 ^ j) : Nat) : Int) := fun h => absurd ((zkH hj (by omega)).2 h) ‹_›
        have hj2 : j ≤ 2 := by
          have : ¬ ((8 * 2 ^ j : Nat) : Int) = 64 := ‹_›
          have : j ≠ 3 := fun e => this (by rw [e]; rfl)
          omega
        refine zI (n' := 3 - (j + 1)) (by omega) (za [0, 1, 18] [.par 0] rfl rfl) ⟨j + 1, by omega, rfl, fun i hi => ?_, by rw [zr (by omega) (by omega)]; rfl, rfl⟩
        rcases Nat.lt_or_ge i j with h | h
        · exact hlo i h
        · obtain rfl : i = j := by omega
          omega
    · refine wIG Tryz.func160 ?_
      repeat' (first | refine wC ?_ | refine wK ?_ | ((with_reducible refine zw ?_); refine zh rfl rfl rfl rfl rfl rfl rfl rfl rfl rfl ?_ ?_ ?_) | refine zd rfl ?_ ?_ <;> intro hc | refine zj rfl ?_ ?_ <;> intro hc)
      all_goals try (exfalso; omega)
      refine zl (za [0, 1, 18] [.par 0] rfl rfl) ?_
      refine zz (fun p env st => ∃ (j : Nat), j ≤ 3 ∧ p = 3 - j ∧ (∀ i, i < j → n < -((256 ^ (2 ^ i) / 2 : Nat) : Int)) ∧
          env = EnvL.get [(0, .row (.par 0)), (1, .t (.int .i64 n)), (18, .t (.int .i64 (j : Int)))] ∧ st = StO.get [(.par 0, some (.slt 5 1 es))])
        ?_ (n := 3) ⟨0, by omega, rfl, fun i hi => by omega, rfl, rfl⟩
      rintro p env st ⟨j, hj, rfl, hlo, rfl, rfl⟩
      have hP := fun X => hP X j hj
      repeat' (first | refine wC ?_ | refine wK ?_ | ((with_reducible refine zM ?_); first | refine xi rfl rfl rfl rfl rfl rfl ?_ ?_ | refine je rfl rfl rfl rfl rfl rfl ?_ ?_) | ((with_reducible refine zw ?_); refine zh rfl rfl rfl rfl rfl rfl rfl rfl rfl rfl ?_ ?_ ?_) | ((with_reducible refine ze ?_); refine wN (.row (.loc 902)) [(.par 0, .loc 62), (.res 0, .loc 902)] (hP _) ?_) | refine zd rfl ?_ ?_ <;> intro hc | refine zj rfl ?_ ?_ <;> intro hc)
      all_goals try simp only [sh8 hj] at *
      all_goals try (exfalso; omega)
      all_goals try (simp only [List.length_cons, List.length_nil]; omega)
      all_goals try (exact znN hj)
      all_goals try omega
      · refine zv ((za [4] [.loc 902] rfl rfl).trans (zg (.loc 902) (.res 0) rfl rfl rfl rfl)) ?_
        refine zL (zp (zK rfl (AVLE.refl _)) (zc ⟨?_, trivial⟩))
        rw [znl hj (by omega) hlo (.inr ((zme hj (by omega)).1 hc)), zmS hj, List.append_assoc]; rfl
      · have hnz : ¬ -((256 ^ (2 ^ j) / 2 : Nat) : Int) ≤ n := fun h => hc ((zme hj (by omega)).2 h)
        have hj2 : j ≤ 2 := by
          have : j ≠ 3 := fun e => hnz (by rw [e]; simp; omega)
          omega
        refine zI (n' := 3 - (j + 1)) (by omega) (za [0, 1, 18] [.par 0] rfl rfl) ⟨j + 1, by omega, rfl, fun i hi => ?_, by rw [zr (by omega) (by omega)]; rfl, rfl⟩
        rcases Nat.lt_or_ge i j with h | h
        · exact hlo i h
        · obtain rfl : i = j := by omega
          omega
end Go.AL
