/- The third serialisation as plain data: how a node is written and read, and that it comes back; no program in sight. -/
import Derived.Test.YtjhhjkkacbcmjaaDoorRed
set_option linter.unusedVariables false
namespace Go.AL
open Go Go.RowKit

def u64n (n : Int) : Nat := (n % 18446744073709551616).toNat
def pNum (n : Int) : List UInt8 :=
  if -32 ≤ n ∧ n < 128 then [UInt8.ofNat (n % 256).toNat]
  else if 0 ≤ n then
    (if n < 256 then UInt8.ofNat 204 :: bigL 1 (u64n n) else if n < 65536 then UInt8.ofNat 205 :: bigL 2 (u64n n) else if n < 4294967296 then UInt8.ofNat 206 :: bigL 4 (u64n n) else UInt8.ofNat 207 :: bigL 8 (u64n n))
  else if -128 ≤ n then UInt8.ofNat 208 :: bigL 1 (u64n n) else if -32768 ≤ n then UInt8.ofNat 209 :: bigL 2 (u64n n) else if -2147483648 ≤ n then UInt8.ofNat 210 :: bigL 4 (u64n n) else UInt8.ofNat 211 :: bigL 8 (u64n n)
def pTh (n : Nat) : List UInt8 := if n < 32 then [UInt8.ofNat (160 + n)] else if n < 256 then UInt8.ofNat 217 :: bigL 1 n else if n < 65536 then UInt8.ofNat 218 :: bigL 2 n else UInt8.ofNat 219 :: bigL 4 n
def pTx (s : ByteArray) : List UInt8 := pTh s.size ++ s.data.toList
def pCn (few many n : Nat) : List UInt8 := if n < 16 then [UInt8.ofNat (few + n)] else UInt8.ofNat many :: bigL 2 n
mutual
def Nd.pb : Nd → List UInt8
  | .mk k b n t ns is =>
    if k = 0 then [UInt8.ofNat 192] else if k = 1 then [UInt8.ofNat (if b then 195 else 194)] else if k = 2 then pNum n
    else if k = 3 then pTx t else if k = 4 then pCn 144 220 is.length ++ Nd.pbs is else pCn 128 222 is.length ++ Nd.pbm ns is
def Nd.pbs : List Nd → List UInt8
  | [] => []
  | x :: xs => x.pb ++ Nd.pbs xs
def Nd.pbm : List ByteArray → List Nd → List UInt8
  | s :: ns, x :: xs => pTx s ++ x.pb ++ Nd.pbm ns xs
  | _, _ => []
end

/-! ### the reader -/
def Rs.count (r : Rs) (k : Int) : Int × Rs := (r.uint k).2.fits (r.uint k).1
def pText (r : Rs) (c : Int) : ByteArray × Rs :=
  if 160 ≤ c ∧ c < 192 then r.take (c - 160)
  else if 217 ≤ c ∧ c ≤ 219 then (r.count (2 ^ (c - 217).toNat)).2.take (r.count (2 ^ (c - 217).toNat)).1
  else (eS, ⟨r.s, true⟩)
/-- A number of so many bytes, the highest bit of which is a sign. -/
def sx (b : Nat) (u : Int) : Int := if u < 256 ^ b / 2 then u else u - 256 ^ b
def pNumR (r : Rs) (c : Int) : Int × Rs :=
  if c < 128 then (c, r) else if 224 ≤ c then (c - 256, r)
  else if 204 ≤ c ∧ c ≤ 207 then (i64 (r.uint (2 ^ (c - 204).toNat)).1, (r.uint (2 ^ (c - 204).toNat)).2)
  else if 208 ≤ c ∧ c ≤ 211 then (sx (2 ^ (c - 208).toNat) (r.uint (2 ^ (c - 208).toNat)).1, (r.uint (2 ^ (c - 208).toNat)).2)
  else (0, ⟨r.s, true⟩)
def gItems (nm : Rs → ByteArray × Rs) (f : Rs → Nd × Rs) (k : Int) : Nat → List ByteArray → List Nd → Rs → Nd × Rs
  | 0, ns, is, r => (.mk k false 0 eS ns is, r)
  | c + 1, ns, is, r => if r.bad = true then (.mk k false 0 eS ns is, r)
    else if k = 5 then gItems nm f k c (ns ++ [(nm r).1]) (is ++ [(f (nm r).2).1]) (f (nm r).2).2
    else gItems nm f k c ns (is ++ [(f r).1]) (f r).2
def pName (r : Rs) : ByteArray × Rs := pText r.byte.2 r.byte.1
def pNode : Nat → Rs → Nd × Rs
  | 0, r => (Nd.zero, ⟨r.byte.2.s, true⟩)
  | d + 1, r =>
    let c := r.byte.1
    let q := r.byte.2
    if c = 192 then (Nd.zero, q)
    else if c = 194 ∨ c = 195 then (.mk 1 (decide (c = 195)) 0 eS [] [], q)
    else if 128 ≤ c ∧ c < 144 then gItems pName (pNode d) 5 (c - 128).toNat [] [] q
    else if c = 222 then gItems pName (pNode d) 5 (q.count 2).1.toNat [] [] (q.count 2).2
    else if 144 ≤ c ∧ c < 160 then gItems pName (pNode d) 4 (c - 144).toNat [] [] q
    else if c = 220 then gItems pName (pNode d) 4 (q.count 2).1.toNat [] [] (q.count 2).2
    else if (160 ≤ c ∧ c < 192) ∨ (217 ≤ c ∧ c ≤ 219) then (.mk 3 false 0 (pText q c).1 [] [], (pText q c).2)
    else (.mk 2 false (pNumR q c).1 eS [] [], (pNumR q c).2)
theorem pNode_hd {d : Nat} {r q : Rs} {c : Int} (h : r.byte = (c, q)) : pNode (d + 1) r =
    if c = 192 then (Nd.zero, q)
    else if c = 194 ∨ c = 195 then (.mk 1 (decide (c = 195)) 0 eS [] [], q)
    else if 128 ≤ c ∧ c < 144 then gItems pName (pNode d) 5 (c - 128).toNat [] [] q
    else if c = 222 then gItems pName (pNode d) 5 (q.count 2).1.toNat [] [] (q.count 2).2
    else if 144 ≤ c ∧ c < 160 then gItems pName (pNode d) 4 (c - 144).toNat [] [] q
    else if c = 220 then gItems pName (pNode d) 4 (q.count 2).1.toNat [] [] (q.count 2).2
    else if (160 ≤ c ∧ c < 192) ∨ (217 ≤ c ∧ c ≤ 219) then (.mk 3 false 0 (pText q c).1 [] [], (pText q c).2)
    else (.mk 2 false (pNumR q c).1 eS [] [], (pNumR q c).2) := by simp only [pNode, h]

/-! ### what was written comes back -/
theorem uint_ofLm (k n : Nat) (b : List UInt8) (hk : 256 ^ k ≤ 18446744073709551616) : (Rs.mk (ofL (bigL k n ++ b)) false).uint k = (((n % 256 ^ k : Nat) : Int), ⟨ofL b, false⟩) := by
  have ht := take_ofL (bigL k n) b
  rw [bigL_len] at ht
  unfold Rs.uint
  rw [ht]
  simp only [ofL_toList]
  have hp : 0 < 256 ^ k := Nat.pos_of_ne_zero (by simp)
  have := big_fold k n 0 (by have := Nat.mod_lt n hp; omega)
  simp only [Nat.zero_mul, Nat.zero_add] at this
  rw [← this]; rfl
theorem byte_ofN (a : Nat) (b : List UInt8) (h : a < 256) : (Rs.mk (ofL (UInt8.ofNat a :: b)) false).byte = ((a : Int), ⟨ofL b, false⟩) := by
  rw [byte_ofL, UInt8.toNat_ofNat', Nat.mod_eq_of_lt (by omega)]
theorem fits_ofL (n : Nat) (b : List UInt8) (h : n ≤ b.length) : (Rs.mk (ofL b) false).fits n = ((n : Int), ⟨ofL b, false⟩) := by
  unfold Rs.fits
  rw [if_neg (by rw [ofL_size]; omega)]
theorem count_ofL (k n : Nat) (b : List UInt8) (hk : 256 ^ k ≤ 18446744073709551616) (hn : n < 256 ^ k) (h : n ≤ b.length) : (Rs.mk (ofL (bigL k n ++ b)) false).count k = ((n : Int), ⟨ofL b, false⟩) := by
  unfold Rs.count
  rw [uint_ofLm k n b hk]
  simp only
  rw [Nat.mod_eq_of_lt hn]
  exact fits_ofL n b h
theorem pName_back (s : ByteArray) (t : List UInt8) (hs : s.size < 4294967296) : pName ⟨ofL (pTx s ++ t), false⟩ = (s, ⟨ofL t, false⟩) ∧ ∃ (c : Int) (q : Rs), (Rs.mk (ofL (pTx s ++ t)) false).byte = (c, q) ∧ pText q c = (s, ⟨ofL t, false⟩) ∧ ((160 ≤ c ∧ c < 192) ∨ (217 ≤ c ∧ c ≤ 219)) := by
  have hl := toList_len s
  have tk : (Rs.mk (ofL (s.data.toList ++ t)) false).take s.size = (s, ⟨ofL t, false⟩) := by
    have := take_ofL s.data.toList t
    rw [ofL_of, hl] at this
    exact this
  have key : ∃ (c : Int) (q : Rs), (Rs.mk (ofL (pTx s ++ t)) false).byte = (c, q) ∧ pText q c = (s, ⟨ofL t, false⟩) ∧ ((160 ≤ c ∧ c < 192) ∨ (217 ≤ c ∧ c ≤ 219)) := by
    unfold pTx pTh
    have big : ∀ i : Nat, i ≤ 2 → s.size < 256 ^ (2 ^ i) → ∃ (c : Int) (q : Rs), (Rs.mk (ofL (UInt8.ofNat (217 + i) :: bigL (2 ^ i) s.size ++ s.data.toList ++ t)) false).byte = (c, q) ∧ pText q c = (s, ⟨ofL t, false⟩) ∧ ((160 ≤ c ∧ c < 192) ∨ (217 ≤ c ∧ c ≤ 219)) := by
      intro i hi hlt
      refine ⟨((217 + i : Nat) : Int), ⟨ofL (bigL (2 ^ i) s.size ++ s.data.toList ++ t), false⟩, by rw [List.cons_append, List.cons_append]; exact byte_ofN (217 + i) _ (by omega), ?_, .inr (by omega)⟩
      have hk : 256 ^ (2 ^ i) ≤ 18446744073709551616 := by
        match i, hi with
        | 0, _ | 1, _ | 2, _ => decide
      have hc := count_ofL (2 ^ i) s.size (s.data.toList ++ t) hk hlt (by simp)
      unfold pText
      rw [if_neg (by omega), if_pos (by omega), show (((217 + i : Nat) : Int) - 217).toNat = i by omega]
      rw [show ((2 ^ i : Nat) : Int) = 2 ^ i by simp] at hc
      rw [List.append_assoc, hc]
      exact tk
    split
    · rename_i h
      refine ⟨((160 + s.size : Nat) : Int), ⟨ofL (s.data.toList ++ t), false⟩, by rw [List.append_assoc, List.singleton_append]; exact byte_ofN (160 + s.size) _ (by omega), ?_, .inl (by omega)⟩
      unfold pText
      rw [if_pos (by omega), show ((160 + s.size : Nat) : Int) - 160 = (s.size : Int) by omega]
      exact tk
    split
    · exact big 0 (by omega) (by simpa using ‹s.size < 256›)
    split
    · exact big 1 (by omega) (by simpa using ‹s.size < 65536›)
    · exact big 2 (by omega) (by simpa using hs)
  obtain ⟨c, q, h1, h2, h3⟩ := key
  refine ⟨?_, c, q, h1, h2, h3⟩
  unfold pName
  rw [h1]
  exact h2
theorem pNum_back (n : Int) (t : List UInt8) (h0 : -9223372036854775808 ≤ n) (h1 : n ≤ 9223372036854775807) : ∃ (c : Int) (q : Rs), (Rs.mk (ofL (pNum n ++ t)) false).byte = (c, q) ∧ pNumR q c = (n, ⟨ofL t, false⟩) ∧ 0 ≤ c ∧ (c < 128 ∨ 224 ≤ c ∨ (204 ≤ c ∧ c ≤ 211)) := by
  have up : ∀ i : Nat, i ≤ 3 → 0 ≤ n → n < ((256 ^ (2 ^ i) : Nat) : Int) → ∃ (c : Int) (q : Rs), (Rs.mk (ofL (UInt8.ofNat (204 + i) :: bigL (2 ^ i) (u64n n) ++ t)) false).byte = (c, q) ∧ pNumR q c = (n, ⟨ofL t, false⟩) ∧ 0 ≤ c ∧ (c < 128 ∨ 224 ≤ c ∨ (204 ≤ c ∧ c ≤ 211)) := by
    intro i hi hn hlt
    refine ⟨((204 + i : Nat) : Int), ⟨ofL (bigL (2 ^ i) (u64n n) ++ t), false⟩, by rw [List.cons_append]; exact byte_ofN (204 + i) _ (by omega), ?_, by omega, .inr (.inr (by omega))⟩
    have hk : 256 ^ (2 ^ i) ≤ 18446744073709551616 := by
      match i, hi with
      | 0, _ | 1, _ | 2, _ | 3, _ => decide
    have hc := uint_ofLm (2 ^ i) (u64n n) t hk
    unfold pNumR
    rw [if_neg (by omega), if_neg (by omega), if_pos (by omega), show (((204 + i : Nat) : Int) - 204).toNat = i by omega]
    rw [show ((2 ^ i : Nat) : Int) = 2 ^ i by simp] at hc
    rw [hc]
    have hu : u64n n < 256 ^ (2 ^ i) := by unfold u64n; omega
    rw [Nat.mod_eq_of_lt hu]
    refine Prod.ext ?_ rfl
    simp only
    unfold u64n
    rw [i64_id (by omega) (by omega)]; omega
  have dn : ∀ i : Nat, i ≤ 3 → n < 0 → -((256 ^ (2 ^ i) / 2 : Nat) : Int) ≤ n → ∃ (c : Int) (q : Rs), (Rs.mk (ofL (UInt8.ofNat (208 + i) :: bigL (2 ^ i) (u64n n) ++ t)) false).byte = (c, q) ∧ pNumR q c = (n, ⟨ofL t, false⟩) ∧ 0 ≤ c ∧ (c < 128 ∨ 224 ≤ c ∨ (204 ≤ c ∧ c ≤ 211)) := by
    intro i hi hn hlt
    refine ⟨((208 + i : Nat) : Int), ⟨ofL (bigL (2 ^ i) (u64n n) ++ t), false⟩, by rw [List.cons_append]; exact byte_ofN (208 + i) _ (by omega), ?_, by omega, .inr (.inr (by omega))⟩
    have hk : 256 ^ (2 ^ i) ≤ 18446744073709551616 := by
      match i, hi with
      | 0, _ | 1, _ | 2, _ | 3, _ => decide
    have hc := uint_ofLm (2 ^ i) (u64n n) t hk
    unfold pNumR
    rw [if_neg (by omega), if_neg (by omega), if_neg (by omega), if_pos (by omega), show (((208 + i : Nat) : Int) - 208).toNat = i by omega]
    rw [show ((2 ^ i : Nat) : Int) = 2 ^ i by simp] at hc
    rw [hc]
    refine Prod.ext ?_ rfl
    simp only
    unfold u64n sx
    match i, hi with
    | 0, _ => simp at hlt ⊢; omega
    | 1, _ => simp at hlt ⊢; omega
    | 2, _ => simp at hlt ⊢; omega
    | 3, _ => simp at hlt ⊢; omega
  unfold pNum
  split
  · rename_i h
    refine ⟨(((n % 256).toNat : Nat) : Int), ⟨ofL t, false⟩, by rw [List.singleton_append]; exact byte_ofN (n % 256).toNat _ (by omega), ?_, by omega, by omega⟩
    unfold pNumR
    by_cases hn : 0 ≤ n
    · rw [if_pos (by omega)]
      refine Prod.ext ?_ rfl
      simp only; omega
    · rw [if_neg (by omega), if_pos (by omega)]
      refine Prod.ext ?_ rfl
      simp only; omega
  split
  · split
    · exact up 0 (by omega) (by omega) (by simpa using ‹n < 256›)
    split
    · exact up 1 (by omega) (by omega) (by simpa using ‹n < 65536›)
    split
    · exact up 2 (by omega) (by omega) (by simpa using ‹n < 4294967296›)
    · exact up 3 (by omega) (by omega) (by simp; omega)
  split
  · exact dn 0 (by omega) (by omega) (by simpa using ‹-128 ≤ n›)
  split
  · exact dn 1 (by omega) (by omega) (by simpa using ‹-32768 ≤ n›)
  split
  · exact dn 2 (by omega) (by omega) (by simpa using ‹-2147483648 ≤ n›)
  · exact dn 3 (by omega) (by omega) (by simp; omega)
theorem gItems_list (nm : Rs → ByteArray × Rs) (f : Rs → Nd × Rs) (E : Nd → List UInt8) (Es : List Nd → List UInt8) (e0 : Es [] = []) (e1 : ∀ x xs, Es (x :: xs) = E x ++ Es xs) : ∀ (xs : List Nd) (ns : List ByteArray) (acc : List Nd) (t : List UInt8), (∀ x ∈ xs, ∀ t : List UInt8, f ⟨ofL (E x ++ t), false⟩ = (x, ⟨ofL t, false⟩)) →
    gItems nm f 4 xs.length ns acc ⟨ofL (Es xs ++ t), false⟩ = (.mk 4 false 0 eS ns (acc ++ xs), ⟨ofL t, false⟩)
  | [], ns, acc, t, _ => by simp [gItems, e0]
  | x :: xs, ns, acc, t, h => by
    have h1 := h x (by simp) (Es xs ++ t)
    have ih := gItems_list nm f E Es e0 e1 xs ns (acc ++ [x]) t (fun y hy => h y (by simp [hy]))
    simp only [List.length_cons, gItems, Bool.false_eq_true, if_false, e1, List.append_assoc]
    rw [if_neg (by decide), h1]
    simp only
    rw [ih]; simp
theorem gItems_map (nm : Rs → ByteArray × Rs) (f : Rs → Nd × Rs) (E : Nd → List UInt8) (H : ByteArray → List UInt8) (Em : List ByteArray → List Nd → List UInt8) (e0 : Em [] [] = []) (e1 : ∀ s ss x xs, Em (s :: ss) (x :: xs) = H s ++ E x ++ Em ss xs) : ∀ (ss : List ByteArray) (xs : List Nd) (ns : List ByteArray) (acc : List Nd) (t : List UInt8), ss.length = xs.length → (∀ s ∈ ss, ∀ t : List UInt8, nm ⟨ofL (H s ++ t), false⟩ = (s, ⟨ofL t, false⟩)) → (∀ x ∈ xs, ∀ t : List UInt8, f ⟨ofL (E x ++ t), false⟩ = (x, ⟨ofL t, false⟩)) →
    gItems nm f 5 xs.length ns acc ⟨ofL (Em ss xs ++ t), false⟩ = (.mk 5 false 0 eS (ns ++ ss) (acc ++ xs), ⟨ofL t, false⟩)
  | [], [], ns, acc, t, _, _, _ => by simp [gItems, e0]
  | s :: ss, x :: xs, ns, acc, t, hl, hs, h => by
    have h1 := h x (by simp) (Em ss xs ++ t)
    have h2 := hs s (by simp) (E x ++ (Em ss xs ++ t))
    have ih := gItems_map nm f E H Em e0 e1 ss xs (ns ++ [s]) (acc ++ [x]) t (by simpa using hl) (fun y hy => hs y (by simp [hy])) (fun y hy => h y (by simp [hy]))
    simp only [List.length_cons, gItems, Bool.false_eq_true, if_false, e1, List.append_assoc] at h2 ⊢
    rw [if_pos trivial, h2]
    simp only
    rw [h1]
    simp only
    rw [ih]; simp
  | [], _ :: _, _, _, _, hl, _, _ => by simp at hl
  | _ :: _, [], _, _, _, hl, _, _ => by simp at hl
end Go.AL
/- What was written in the third serialisation comes back; no program in sight. -/
set_option linter.unusedVariables false
namespace Go.AL
open Go Go.RowKit

theorem pTh_len {n : Nat} : (pTh n).length ≤ 5 ∧ 1 ≤ (pTh n).length := by
  unfold pTh; repeat' split
  all_goals simp [bigL_len]
theorem pCn_pos (a b n : Nat) : 1 ≤ (pCn a b n).length ∧ (pCn a b n).length ≤ 3 := by
  unfold pCn; split <;> simp [bigL_len]
theorem pNum_len (n : Int) : 1 ≤ (pNum n).length ∧ (pNum n).length ≤ 9 := by
  unfold pNum; repeat' split
  all_goals simp [bigL_len]
theorem pb_pos (x : Nd) : 1 ≤ x.pb.length := by
  cases x with
  | mk k b n t ns is =>
  simp only [Nd.pb]
  repeat' split
  · simp
  · simp
  · simp
  · exact (pNum_len _).1
  · unfold pTx; rw [List.length_append]; have := (pTh_len (n := t.size)).2; omega
  · rw [List.length_append]; have := (pCn_pos 144 220 is.length).1; omega
  · rw [List.length_append]; have := (pCn_pos 128 222 is.length).1; omega
theorem pbs_len : ∀ is : List Nd, is.length ≤ (Nd.pbs is).length
  | [] => by simp
  | x :: xs => by
    have := pb_pos x
    have := pbs_len xs
    simp only [Nd.pbs, List.length_append, List.length_cons]; omega
theorem pbm_len : ∀ (ns : List ByteArray) (is : List Nd), ns.length = is.length → is.length ≤ (Nd.pbm ns is).length
  | [], [], _ => by simp
  | s :: ns, x :: xs, h => by
    have := pb_pos x
    have := pbm_len ns xs (by simpa using h)
    simp only [Nd.pbm, List.length_append, List.length_cons]; omega
  | [], _ :: _, h => by simp at h
  | _ :: _, [], h => by simp at h

theorem pCn_back (few many n : Nat) (b : List UInt8) (hf : few < 240) (hm : many < 256) (hn : n < 65536) (hb : n ≤ b.length) : (n < 16 ∧ (Rs.mk (ofL (pCn few many n ++ b)) false).byte = (((few + n : Nat) : Int), ⟨ofL b, false⟩)) ∨
    (16 ≤ n ∧ ∃ q : Rs, (Rs.mk (ofL (pCn few many n ++ b)) false).byte = ((many : Int), q) ∧ q.count 2 = ((n : Int), ⟨ofL b, false⟩)) := by
  unfold pCn
  split
  · exact .inl ⟨by omega, by rw [List.singleton_append]; exact byte_ofN (few + n) _ (by omega)⟩
  · refine .inr ⟨by omega, ⟨ofL (bigL 2 n ++ b), false⟩, by rw [List.cons_append]; exact byte_ofN many _ hm, ?_⟩
    exact count_ofL 2 n b (by decide) (by simpa using hn) hb
theorem pNode_back {V : ByteArray → Bool} : ∀ (x : Nd) (d : Nat), x.validB V d = true → x.In → ∀ t : List UInt8, pNode d ⟨ofL (x.pb ++ t), false⟩ = (x, ⟨ofL t, false⟩)
  | .mk k b n tx ns is, 0, hv, _, t => by
    rw [valid_mk] at hv
    have := hv.1
    simp at this
  | .mk k b n tx ns is, d + 1, hv, hin, t => by
    rw [valid_mk] at hv
    obtain ⟨_, h2, h3, h4, h5, h6, h7, h8⟩ := hv
    cases hin with
    | mk i1 i2 i3 =>
    simp only [Nd.fieldsOK, Bool.and_eq_true, Bool.or_eq_true, decide_eq_true_eq, Bool.not_eq_true'] at h4
    obtain ⟨⟨⟨⟨f1, f2⟩, f3⟩, f4⟩, f5⟩ := h4
    have hk : k = 0 ∨ k = 1 ∨ k = 2 ∨ k = 3 ∨ k = 4 ∨ k = 5 := by omega
    have hi : ∀ y ∈ is, ∀ t : List UInt8, pNode d ⟨ofL (y.pb ++ t), false⟩ = (y, ⟨ofL t, false⟩) := fun y hy t =>
      pNode_back y d (by have := h8 y hy; rwa [show ((d + 1 : Nat) : Int) - 1 = d by omega] at this) (i3 y hy) t
    have e0 : k ≠ 1 → b = false := fun h => f1.resolve_left h
    have e1 : k ≠ 2 → n = 0 := fun h => f2.resolve_left h
    have e2 : k ≠ 3 → tx = eS := fun h => f3.resolve_left h
    have e3 : k ≠ 4 → k ≠ 5 → is = [] := fun h h' => List.eq_nil_of_length_eq_zero (by rcases f4 with (h'' | h'') | h'' <;> first | (exact absurd h'' h) | (exact absurd h'' h') | omega)
    have e4 : k ≠ 5 → ns = [] := fun h => List.eq_nil_of_length_eq_zero (by rcases f5 with h' | h'; exact absurd h' h; omega)
    rcases hk with rfl | rfl | rfl | rfl | rfl | rfl
    · rw [e0 (by decide), e1 (by decide), e2 (by decide), e3 (by decide) (by decide), e4 (by decide)]
      rw [show (Nd.mk 0 false 0 eS [] []).pb = [UInt8.ofNat 192] by simp [Nd.pb], List.singleton_append, pNode_hd (byte_ofN 192 t (by omega)), if_pos (by decide)]
      simp [Nd.zero, eS]
    · rw [e1 (by decide), e2 (by decide), e3 (by decide) (by decide), e4 (by decide)]
      cases b with
      | true =>
        rw [show (Nd.mk 1 true 0 eS [] []).pb = [UInt8.ofNat 195] by simp [Nd.pb], List.singleton_append, pNode_hd (byte_ofN 195 t (by omega)), if_neg (by decide), if_pos (by decide)]
        simp
      | false =>
        rw [show (Nd.mk 1 false 0 eS [] []).pb = [UInt8.ofNat 194] by simp [Nd.pb], List.singleton_append, pNode_hd (byte_ofN 194 t (by omega)), if_neg (by decide), if_pos (by decide)]
        simp
    · rw [e0 (by decide), e2 (by decide), e3 (by decide) (by decide), e4 (by decide)]
      rw [show (Nd.mk 2 false n eS [] []).pb = pNum n by simp [Nd.pb]]
      obtain ⟨c, q, g1, g2, g3, g4⟩ := pNum_back n t i1 i2
      rw [pNode_hd g1, if_neg (by omega), if_neg (by omega), if_neg (by omega), if_neg (by omega), if_neg (by omega), if_neg (by omega), if_neg (by omega), g2]
    · rw [e0 (by decide), e1 (by decide), e3 (by decide) (by decide), e4 (by decide)]
      have ht : tx.size ≤ 65536 := by simp only [textB, Bool.and_eq_true, decide_eq_true_eq] at h5; omega
      rw [show (Nd.mk 3 false 0 tx [] []).pb = pTx tx by simp [Nd.pb]]
      obtain ⟨c, q, g1, g2, g3⟩ := (pName_back tx t (by omega)).2
      rw [pNode_hd g1, if_neg (by omega), if_neg (by omega), if_neg (by omega), if_neg (by omega), if_neg (by omega), if_neg (by omega), if_pos g3, g2]
    · rw [e0 (by decide), e1 (by decide), e2 (by decide), e4 (by decide)]
      rw [show (Nd.mk 4 false 0 eS [] is).pb = pCn 144 220 is.length ++ Nd.pbs is by simp [Nd.pb], List.append_assoc]
      have hb := pbs_len is
      have hg := gItems_list pName (pNode d) Nd.pb Nd.pbs rfl (fun _ _ => rfl) is [] [] t hi
      rcases pCn_back 144 220 is.length (Nd.pbs is ++ t) (by omega) (by omega) (by omega) (by rw [List.length_append]; omega) with ⟨g0, g1⟩ | ⟨g0, q, g1, g2⟩
      · rw [pNode_hd g1, if_neg (by omega), if_neg (by omega), if_neg (by omega), if_neg (by omega), if_pos (by omega), show (((144 + is.length : Nat) : Int) - 144).toNat = is.length by omega, hg]
        simp
      · rw [pNode_hd g1, if_neg (by omega), if_neg (by omega), if_neg (by omega), if_neg (by omega), if_neg (by omega), if_pos (by omega), g2]
        simp only [Int.toNat_natCast]
        rw [hg]; simp
    · rw [e0 (by decide), e1 (by decide), e2 (by decide)]
      have hl := (h7 rfl).2
      have hs : ∀ s ∈ ns, ∀ t : List UInt8, pName ⟨ofL (pTx s ++ t), false⟩ = (s, ⟨ofL t, false⟩) := fun s hs t => by
        have := (((namesOk_iff (textB V) ns []).1 (h7 rfl).1).2 s hs).2
        simp only [textB, Bool.and_eq_true, decide_eq_true_eq] at this
        exact (pName_back s t (by omega)).1
      rw [show (Nd.mk 5 false 0 eS ns is).pb = pCn 128 222 is.length ++ Nd.pbm ns is by simp [Nd.pb], List.append_assoc]
      have hb := pbm_len ns is hl
      have hg := gItems_map pName (pNode d) Nd.pb pTx Nd.pbm rfl (fun _ _ _ _ => rfl) ns is [] [] t hl hs hi
      rcases pCn_back 128 222 is.length (Nd.pbm ns is ++ t) (by omega) (by omega) (by omega) (by rw [List.length_append]; omega) with ⟨g0, g1⟩ | ⟨g0, q, g1, g2⟩
      · rw [pNode_hd g1, if_neg (by omega), if_neg (by omega), if_pos (by omega), show (((128 + is.length : Nat) : Int) - 128).toNat = is.length by omega, hg]
        simp
      · rw [pNode_hd g1, if_neg (by omega), if_neg (by omega), if_neg (by omega), if_pos (by omega), g2]
        simp only [Int.toNat_natCast]
        rw [hg]; simp
termination_by x => SizeOf.sizeOf x
decreasing_by
  have := List.sizeOf_lt_of_mem hy
  simp only [Nd.mk.sizeOf_spec]
  omega
end Go.AL
/- What the reader of the third serialisation takes, as plain data; no program in sight. -/
set_option linter.unusedVariables false
namespace Go.AL
open Go Go.RowKit

theorem pTh_pow {n i : Nat} (hi : i ≤ 2) (h : n < 256 ^ (2 ^ i)) : (pTh n).length ≤ 1 + 2 ^ i := by
  unfold pTh
  match i, hi with
  | 0, _ => simp at h; repeat' split
            all_goals first | (simp [bigL_len]; done) | omega
  | 1, _ => simp at h; repeat' split
            all_goals first | (simp [bigL_len]; done) | omega
  | 2, _ => repeat' split
            all_goals (simp [bigL_len])
theorem pNum_pow {n : Int} {i : Nat} (hi : i ≤ 3) (h0 : -((256 ^ (2 ^ i) / 2 : Nat) : Int) ≤ n) (h : n < ((256 ^ (2 ^ i) : Nat) : Int)) : (pNum n).length ≤ 1 + 2 ^ i := by
  unfold pNum
  match i, hi with
  | 0, _ => simp at h h0; repeat' split
            all_goals first | (simp [bigL_len]; done) | omega
  | 1, _ => simp at h h0; repeat' split
            all_goals first | (simp [bigL_len]; done) | omega
  | 2, _ => simp at h h0; repeat' split
            all_goals first | (simp [bigL_len]; done) | omega
  | 3, _ => repeat' split
            all_goals (simp [bigL_len])
theorem count_good {r : Rs} {i : Nat} (hi : i ≤ 3) (h : (r.count (2 ^ i)).2.bad = false) : r.bad = false ∧ 0 ≤ (r.count (2 ^ i)).1 ∧ (r.count (2 ^ i)).1 < (256 : Int) ^ (2 ^ i) ∧ (r.count (2 ^ i)).2.s.size + 2 ^ i = r.s.size ∧ (r.count (2 ^ i)).1 ≤ (r.count (2 ^ i)).2.s.size := by
  unfold Rs.count at h ⊢
  obtain ⟨h1, h2, h3, h4⟩ := fits_good h
  obtain ⟨u1, u2, u3, u4⟩ := uint_good hi h4
  rw [h1, h2]
  exact ⟨u1, u3, u4, u2, h3⟩
theorem pText_good {q : Rs} {c : Int} (hc : (160 ≤ c ∧ c < 192) ∨ (217 ≤ c ∧ c ≤ 219) ∨ (pText q c).2.bad = false) (h : (pText q c).2.bad = false) : q.bad = false ∧ (pTx (pText q c).1).length + (pText q c).2.s.size ≤ q.s.size + 1 := by
  unfold pText at h ⊢
  split at h
  · rename_i e
    rw [if_pos e]
    obtain ⟨t1, t2, t3, t4, t5⟩ := take_good h
    refine ⟨t1, ?_⟩
    unfold pTx
    rw [List.length_append, toList_len]
    have : (pTh (q.take (c - 160)).1.size).length = 1 := by unfold pTh; rw [if_pos (by omega)]; rfl
    omega
  · rename_i e0
    rw [if_neg e0]
    split at h
    · rename_i e
      rw [if_pos e]
      obtain ⟨i, hi, hi2⟩ : ∃ i : Nat, (c - 217).toNat = i ∧ i ≤ 2 := ⟨_, rfl, by omega⟩
      rw [hi] at h ⊢
      obtain ⟨t1, t2, t3, t4, t5⟩ := take_good h
      obtain ⟨u1, u2, u3, u4, u5⟩ := count_good (by omega) t1
      refine ⟨u1, ?_⟩
      unfold pTx
      rw [List.length_append, toList_len]
      have hl := pTh_pow (n := ((q.count (2 ^ i)).2.take (q.count (2 ^ i)).1).1.size) (i := i) hi2 (by
        have e3 : ((256 ^ (2 ^ i) : Nat) : Int) = (256 : Int) ^ (2 ^ i) := by simp
        omega)
      omega
    · simp at h
theorem pName_good {r : Rs} (h : (pName r).2.bad = false) : r.bad = false ∧ (pTx (pName r).1).length + (pName r).2.s.size ≤ r.s.size := by
  unfold pName at h ⊢
  obtain ⟨h1, h2⟩ := pText_good (.inr (.inr h)) h
  obtain ⟨b1, b2⟩ := byte_good h1
  exact ⟨b1, by omega⟩
theorem pNumR_good {q : Rs} {c : Int} (h0 : 0 ≤ c) (h1 : c < 256) (h : (pNumR q c).2.bad = false) : q.bad = false ∧ (pNum (pNumR q c).1).length + (pNumR q c).2.s.size ≤ q.s.size + 1 ∧ -9223372036854775808 ≤ (pNumR q c).1 ∧ (pNumR q c).1 ≤ 9223372036854775807 := by
  unfold pNumR at h ⊢
  have one : ∀ v : Int, -32 ≤ v → v < 128 → (pNum v).length = 1 := fun v h h' => by unfold pNum; rw [if_pos ⟨h, h'⟩]; rfl
  split at h
  · rename_i e
    rw [if_pos e]
    refine ⟨h, ?_, ?_, ?_⟩
    · simp only; rw [one c (by omega) e]; omega
    · simp only; omega
    · simp only; omega
  rename_i n1
  rw [if_neg n1]
  split at h
  · rename_i e
    rw [if_pos e]
    refine ⟨h, ?_, ?_, ?_⟩
    · simp only; rw [one (c - 256) (by omega) (by omega)]; omega
    · simp only; omega
    · simp only; omega
  rename_i n2
  rw [if_neg n2]
  split at h
  · rename_i e
    rw [if_pos e]
    obtain ⟨i, hi, hi3⟩ : ∃ i : Nat, (c - 204).toNat = i ∧ i ≤ 3 := ⟨_, rfl, by omega⟩
    rw [hi] at h ⊢
    obtain ⟨u1, u2, u3, u4⟩ := uint_good hi3 h
    simp only
    generalize (q.uint (2 ^ i)).1 = v at *
    have e3 : ((256 ^ (2 ^ i) : Nat) : Int) = (256 : Int) ^ (2 ^ i) := by simp
    have hr := i64_range v
    refine ⟨u1, ?_, hr.1, hr.2⟩
    have : (pNum (i64 v)).length ≤ 1 + 2 ^ i := by
      match i, hi3 with
      | 0, _ => simp at u4; exact pNum_pow (i := 0) (by omega) (by rw [i64_id (by omega) (by omega)]; simp; omega) (by rw [i64_id (by omega) (by omega)]; simp; omega)
      | 1, _ => simp at u4; exact pNum_pow (i := 1) (by omega) (by rw [i64_id (by omega) (by omega)]; simp; omega) (by rw [i64_id (by omega) (by omega)]; simp; omega)
      | 2, _ => simp at u4; exact pNum_pow (i := 2) (by omega) (by rw [i64_id (by omega) (by omega)]; simp; omega) (by rw [i64_id (by omega) (by omega)]; simp; omega)
      | 3, _ => exact (pNum_len _).2
    omega
  rename_i n3
  rw [if_neg n3]
  split at h
  · rename_i e
    rw [if_pos e]
    obtain ⟨i, hi, hi3⟩ : ∃ i : Nat, (c - 208).toNat = i ∧ i ≤ 3 := ⟨_, rfl, by omega⟩
    rw [hi] at h ⊢
    obtain ⟨u1, u2, u3, u4⟩ := uint_good hi3 h
    simp only
    generalize (q.uint (2 ^ i)).1 = v at *
    have hs : -((256 ^ (2 ^ i) / 2 : Nat) : Int) ≤ sx (2 ^ i) v ∧ sx (2 ^ i) v < ((256 ^ (2 ^ i) / 2 : Nat) : Int) := by
      unfold sx
      match i, hi3 with
      | 0, _ => simp at u4 ⊢; omega
      | 1, _ => simp at u4 ⊢; omega
      | 2, _ => simp at u4 ⊢; omega
      | 3, _ => simp at u4 ⊢; omega
    have hp := pNum_pow hi3 hs.1 (by omega)
    have h63 : ((256 ^ (2 ^ i) / 2 : Nat) : Int) ≤ 9223372036854775808 := by
      match i, hi3 with
      | 0, _ | 1, _ | 2, _ | 3, _ => decide +kernel
    exact ⟨u1, by omega, by omega, by omega⟩
  · simp at h

theorem gItems_good4 (nm : Rs → ByteArray × Rs) (f : Rs → Nd × Rs) (hf : ∀ r, (f r).2.bad = false → r.bad = false ∧ (f r).1.pb.length + (f r).2.s.size ≤ r.s.size ∧ (f r).1.In) : ∀ (c : Nat) (ns : List ByteArray) (is : List Nd) (r : Rs), (gItems nm f 4 c ns is r).2.bad = false →
    r.bad = false ∧ ∃ xs : List Nd, xs.length = c ∧ (gItems nm f 4 c ns is r).1 = .mk 4 false 0 eS ns (is ++ xs) ∧ (Nd.pbs xs).length + (gItems nm f 4 c ns is r).2.s.size ≤ r.s.size ∧ ∀ x ∈ xs, x.In
  | 0, ns, is, r, h => ⟨h, [], rfl, by simp [gItems], by simp [gItems, Nd.pbs], by simp⟩
  | c + 1, ns, is, r, h => by
    simp only [gItems] at h ⊢
    by_cases hb : r.bad = true
    · rw [if_pos hb] at h; rw [hb] at h; simp at h
    · rw [if_neg hb, if_neg (by decide)] at h ⊢
      obtain ⟨h1, xs, h2, h3, h4, h5⟩ := gItems_good4 nm f hf c ns (is ++ [(f r).1]) (f r).2 h
      obtain ⟨g1, g2, g3⟩ := hf r h1
      refine ⟨g1, (f r).1 :: xs, by simp [h2], by rw [h3]; simp, ?_, ?_⟩
      · simp only [Nd.pbs, List.length_append]; omega
      · intro x hx
        rcases List.mem_cons.1 hx with rfl | hx
        · exact g3
        · exact h5 x hx
theorem gItems_good5 (f : Rs → Nd × Rs) (hf : ∀ r, (f r).2.bad = false → r.bad = false ∧ (f r).1.pb.length + (f r).2.s.size ≤ r.s.size ∧ (f r).1.In) : ∀ (c : Nat) (ns : List ByteArray) (is : List Nd) (r : Rs), (gItems pName f 5 c ns is r).2.bad = false →
    r.bad = false ∧ ∃ (ss : List ByteArray) (xs : List Nd), ss.length = c ∧ xs.length = c ∧ (gItems pName f 5 c ns is r).1 = .mk 5 false 0 eS (ns ++ ss) (is ++ xs) ∧ (Nd.pbm ss xs).length + (gItems pName f 5 c ns is r).2.s.size ≤ r.s.size ∧ ∀ x ∈ xs, x.In
  | 0, ns, is, r, h => ⟨h, [], [], rfl, rfl, by simp [gItems], by simp [gItems, Nd.pbm], by simp⟩
  | c + 1, ns, is, r, h => by
    simp only [gItems] at h ⊢
    by_cases hb : r.bad = true
    · rw [if_pos hb] at h; rw [hb] at h; simp at h
    · rw [if_neg hb, if_pos trivial] at h ⊢
      obtain ⟨h1, ss, xs, h2, h2', h3, h4, h5⟩ := gItems_good5 f hf c (ns ++ [(pName r).1]) (is ++ [(f (pName r).2).1]) (f (pName r).2).2 h
      obtain ⟨g1, g2, g3⟩ := hf _ h1
      obtain ⟨q1, q2⟩ := pName_good g1
      refine ⟨q1, (pName r).1 :: ss, (f (pName r).2).1 :: xs, by simp [h2], by simp [h2'], by rw [h3]; simp, ?_, ?_⟩
      · simp only [Nd.pbm, List.length_append]; omega
      · intro x hx
        rcases List.mem_cons.1 hx with rfl | hx
        · exact g3
        · exact h5 x hx
/-- What a node takes: at least what it takes when it is written. -/
theorem pNode_good : ∀ (d : Nat) (r : Rs), (pNode d r).2.bad = false → r.bad = false ∧ (pNode d r).1.pb.length + (pNode d r).2.s.size ≤ r.s.size ∧ (pNode d r).1.In
  | 0, r, h => by simp [pNode] at h
  | d + 1, r, h => by
    obtain ⟨c, q, hh⟩ : ∃ c q, r.byte = (c, q) := ⟨_, _, rfl⟩
    have hr := byte_range r
    have key : q.bad = false → r.bad = false ∧ q.s.size + 1 = r.s.size := fun hq => by
      have := byte_good (r := r) (by rw [hh]; exact hq)
      rw [hh] at this
      exact this
    rw [hh] at hr
    simp only at hr
    rw [pNode_hd hh] at h ⊢
    have pcnt : ∀ a b n, n < 16 → (pCn a b n).length = 1 := fun a b n h => by unfold pCn; rw [if_pos h]; rfl
    have li : ∀ (c : Nat) (q : Rs), (gItems pName (pNode d) 4 c [] [] q).2.bad = false → q.bad = false ∧ ∃ xs : List Nd, xs.length = c ∧ (gItems pName (pNode d) 4 c [] [] q).1.pb.length = (pCn 144 220 c).length + (Nd.pbs xs).length ∧ (Nd.pbs xs).length + (gItems pName (pNode d) 4 c [] [] q).2.s.size ≤ q.s.size ∧ (gItems pName (pNode d) 4 c [] [] q).1.In := fun c q h => by
      obtain ⟨h1, xs, h2, h3, h4, h5⟩ := gItems_good4 pName (pNode d) (pNode_good d) c [] [] q h
      refine ⟨h1, xs, h2, ?_, h4, ?_⟩
      · rw [h3]; simp [Nd.pb, h2]
      · rw [h3]; exact .mk (by omega) (by omega) (by simpa using h5)
    have ma : ∀ (c : Nat) (q : Rs), (gItems pName (pNode d) 5 c [] [] q).2.bad = false → q.bad = false ∧ ∃ (ss : List ByteArray) (xs : List Nd), xs.length = c ∧ (gItems pName (pNode d) 5 c [] [] q).1.pb.length = (pCn 128 222 c).length + (Nd.pbm ss xs).length ∧ (Nd.pbm ss xs).length + (gItems pName (pNode d) 5 c [] [] q).2.s.size ≤ q.s.size ∧ (gItems pName (pNode d) 5 c [] [] q).1.In := fun c q h => by
      obtain ⟨h1, ss, xs, h2, h2', h3, h4, h5⟩ := gItems_good5 (pNode d) (pNode_good d) c [] [] q h
      refine ⟨h1, ss, xs, h2', ?_, h4, ?_⟩
      · rw [h3]; simp [Nd.pb, h2']
      · rw [h3]; exact .mk (by omega) (by omega) (by simpa using h5)
    split at h
    · rename_i e; rw [if_pos e]
      obtain ⟨g1, g2⟩ := key h
      exact ⟨g1, by simp [Nd.zero, Nd.pb]; omega, zero_in⟩
    rename_i n1; rw [if_neg n1]
    split at h
    · rename_i e; rw [if_pos e]
      obtain ⟨g1, g2⟩ := key h
      exact ⟨g1, by simp [Nd.pb]; omega, .mk (by omega) (by omega) (by simp)⟩
    rename_i n2; rw [if_neg n2]
    split at h
    · rename_i e; rw [if_pos e]
      obtain ⟨g0, ss, xs, g3, g4, g5, g6⟩ := ma _ _ h
      obtain ⟨g1, g2⟩ := key g0
      have := pcnt 128 222 (c - 128).toNat (by omega)
      exact ⟨g1, by omega, g6⟩
    rename_i n3; rw [if_neg n3]
    split at h
    · rename_i e; rw [if_pos e]
      obtain ⟨g0, ss, xs, g3, g4, g5, g6⟩ := ma _ _ h
      have hc : (q.count (2 ^ 1)).2.bad = false := g0
      obtain ⟨u1, u2, u3, u4, u5⟩ := count_good (by omega) hc
      obtain ⟨g1, g2⟩ := key u1
      have := (pCn_pos 128 222 (q.count 2).1.toNat).2
      have u4 : (q.count 2).2.s.size + 2 = q.s.size := u4
      exact ⟨g1, by omega, g6⟩
    rename_i n4; rw [if_neg n4]
    split at h
    · rename_i e; rw [if_pos e]
      obtain ⟨g0, xs, g3, g4, g5, g6⟩ := li _ _ h
      obtain ⟨g1, g2⟩ := key g0
      have := pcnt 144 220 (c - 144).toNat (by omega)
      exact ⟨g1, by omega, g6⟩
    rename_i n5; rw [if_neg n5]
    split at h
    · rename_i e; rw [if_pos e]
      obtain ⟨g0, xs, g3, g4, g5, g6⟩ := li _ _ h
      have hc : (q.count (2 ^ 1)).2.bad = false := g0
      obtain ⟨u1, u2, u3, u4, u5⟩ := count_good (by omega) hc
      obtain ⟨g1, g2⟩ := key u1
      have := (pCn_pos 144 220 (q.count 2).1.toNat).2
      have u4 : (q.count 2).2.s.size + 2 = q.s.size := u4
      exact ⟨g1, by omega, g6⟩
    rename_i n6; rw [if_neg n6]
    split at h
    · rename_i e; rw [if_pos e]
      obtain ⟨t1, t2⟩ := pText_good (.inr (.inr h)) h
      obtain ⟨g1, g2⟩ := key t1
      refine ⟨g1, ?_, .mk (by omega) (by omega) (by simp)⟩
      rw [show (Nd.mk 3 false 0 (pText q c).1 [] [], (pText q c).2).1.pb = pTx (pText q c).1 by simp [Nd.pb]]
      simp only; omega
    · rename_i e; rw [if_neg e]
      obtain ⟨t1, t2, t3, t4⟩ := pNumR_good hr.1 hr.2 h
      obtain ⟨g1, g2⟩ := key t1
      refine ⟨g1, ?_, .mk t3 t4 (by simp)⟩
      rw [show (Nd.mk 2 false (pNumR q c).1 eS [] [], (pNumR q c).2).1.pb = pNum (pNumR q c).1 by simp [Nd.pb]]
      simp only; omega
end Go.AL
/- A serialisation that comes back, as plain data: what is encoded and what is decoded; no program in sight. -/
set_option linter.unusedVariables false
namespace Go.AL
open Go Go.RowKit

/-- A serialisation: how a node is written and what a string is read as. -/
structure Codec where
  E : Nd → List UInt8
  R : ByteArray → Nd × Rs
  back : ∀ {V : ByteArray → Bool} {x : Nd}, x.validB V 8 = true → x.In → R (ofL (E x)) = (x, ⟨eS, false⟩)
  good : ∀ {s : ByteArray}, (R s).2.bad = false → (E (R s).1).length ≤ s.size ∧ (R s).1.In
variable (C : Codec)
def gEnc (V : ByteArray → Bool) (x : Nd) : ByteArray × Int := if x.validB V 8 = true then (if 65536 < (C.E x).length then (eS, 3) else (ofL (C.E x), 0)) else (eS, 1)
def gGood (V : ByteArray → Bool) (s : ByteArray) : Prop := (C.R s).2.bad = false ∧ (C.R s).2.s = eS ∧ (C.R s).1.validB V 8 = true ∧ gEnc C V (C.R s).1 = (s, 0)
instance (V : ByteArray → Bool) (s : ByteArray) : Decidable (gGood C V s) := by unfold gGood; exact inferInstance
def gDec (V : ByteArray → Bool) (s : ByteArray) : Nd × Int := if gGood C V s then ((C.R s).1, 0) else (Nd.zero, 4)
variable {C}
theorem gDec_back {V : ByteArray → Bool} {x : Nd} (hv : x.validB V 8 = true) (hin : x.In) (hl : (C.E x).length ≤ 65536) : gDec C V (ofL (C.E x)) = (x, 0) := by
  have h := C.back hv hin
  have hg : gGood C V (ofL (C.E x)) := by
    unfold gGood
    rw [h]
    refine ⟨rfl, rfl, hv, ?_⟩
    simp only
    unfold gEnc
    rw [if_pos hv, if_neg (by omega)]
  unfold gDec
  rw [if_pos hg, h]
theorem gDec_good {V : ByteArray → Bool} {s : ByteArray} (h : gGood C V s) : (C.R s).1.In ∧ (C.E (C.R s).1).length ≤ 65536 ∧ s = ofL (C.E (C.R s).1) := by
  obtain ⟨h1, h2, h3, h4⟩ := h
  have := C.good h1
  unfold gEnc at h4
  rw [if_pos h3] at h4
  split at h4
  · have := congrArg (·.2) h4; simp at this
  · exact ⟨this.2, by omega, (congrArg (·.1) h4).symm⟩
theorem gDec_iff {V : ByteArray → Bool} {s : ByteArray} : gGood C V s ↔ ∃ x : Nd, x.validB V 8 = true ∧ x.In ∧ (C.E x).length ≤ 65536 ∧ s = ofL (C.E x) := by
  constructor
  · intro h
    obtain ⟨h1, h2, h3⟩ := gDec_good h
    exact ⟨_, h.2.2.1, h1, h2, h3⟩
  · rintro ⟨x, h1, h2, h3, rfl⟩
    have := gDec_back h1 h2 h3
    unfold gDec at this
    split at this
    · assumption
    · have := congrArg (·.2) this; simp at this
theorem gDec_zero {V : ByteArray → Bool} {s : ByteArray} (h : ¬ gGood C V s) : gDec C V s = (Nd.zero, 4) := if_neg h
theorem gEnc_ok {V : ByteArray → Bool} {x : Nd} (hv : x.validB V 8 = true) (hl : (C.E x).length ≤ 65536) : gEnc C V x = (ofL (C.E x), 0) := by
  unfold gEnc; rw [if_pos hv, if_neg (by omega)]
/-- The third serialisation. -/
def pkC : Codec where
  E := Nd.pb
  R s := pNode 8 ⟨s, false⟩
  back := fun {V x} hv hin => by
    have := pNode_back x 8 hv hin []
    rw [List.append_nil] at this
    exact this
  good := fun {s} h => by
    have := pNode_good 8 ⟨s, false⟩ h
    exact ⟨Nat.le_trans (Nat.le_add_right _ _) this.2.1, this.2.2⟩

/-! ### what is read is not too large -/
theorem count_le (r : Rs) (k : Int) : (r.count k).2.s.size ≤ r.s.size ∧ (r.count k).1 ≤ r.s.size := by
  unfold Rs.count
  have h1 := uint_le r k
  have h2 := fits_le (r.uint k).2 (r.uint k).1
  exact ⟨Nat.le_trans h2.1 h1, by omega⟩
theorem pText_le (r : Rs) (c : Int) : (pText r c).2.s.size ≤ r.s.size ∧ (pText r c).1.size ≤ r.s.size := by
  have tk : ∀ (q : Rs) (n : Int), (q.take n).1.size ≤ q.s.size := fun q n => by
    unfold Rs.take; split
    · exact Nat.zero_le _
    · simp only [ByteArray.size_extract]; omega
  unfold pText
  split
  · exact ⟨take_le _ _, tk _ _⟩
  split
  · have := (count_le r (2 ^ (c - 217).toNat)).1
    exact ⟨Nat.le_trans (take_le _ _) this, Nat.le_trans (tk _ _) this⟩
  · exact ⟨Nat.le_refl _, Nat.zero_le _⟩
theorem pName_le (r : Rs) : (pName r).2.s.size ≤ r.s.size ∧ (pName r).1.size ≤ r.s.size := by
  have := byte_le r
  have h := pText_le r.byte.2 r.byte.1
  exact ⟨Nat.le_trans h.1 this, Nat.le_trans h.2 this⟩
theorem pNumR_le (r : Rs) (c : Int) : (pNumR r c).2.s.size ≤ r.s.size := by
  unfold pNumR
  repeat' split
  · exact Nat.le_refl _
  · exact Nat.le_refl _
  · exact uint_le _ _
  · exact uint_le _ _
  · exact Nat.le_refl _
theorem gItems_le (f : Rs → Nd × Rs) (k : Int) (B : Nat) (hf : ∀ r : Rs, r.s.size ≤ B → (f r).2.s.size ≤ B ∧ (f r).1.Ok) : ∀ (c : Nat) (ns : List ByteArray) (is : List Nd) (r : Rs), r.s.size ≤ B → ns.length + c ≤ 1000000000 → is.length + c ≤ 1000000000 → (∀ x ∈ is, x.Ok) → (gItems pName f k c ns is r).2.s.size ≤ B ∧ (gItems pName f k c ns is r).1.Ok
  | 0, ns, is, r, hr, h1, h2, h3 => ⟨hr, .mk (by omega) (by omega) h3⟩
  | c + 1, ns, is, r, hr, h1, h2, h3 => by
    unfold gItems
    have key : ∀ (y : Nd), y.Ok → ∀ x ∈ is ++ [y], x.Ok := fun y hy x hx => by
      rcases List.mem_append.1 hx with h | h
      · exact h3 x h
      · rw [List.mem_singleton.1 h]; exact hy
    split
    · exact ⟨hr, .mk (by omega) (by omega) h3⟩
    · split
      · have h := hf (pName r).2 (Nat.le_trans (pName_le r).1 hr)
        exact gItems_le f k B hf c _ _ _ h.1 (by simp; omega) (by simp; omega) (key _ h.2)
      · have h := hf r hr
        exact gItems_le f k B hf c _ _ _ h.1 (by omega) (by simp; omega) (key _ h.2)
theorem pNode_le (B : Nat) (hB : B ≤ 1000000000) : ∀ (d : Nat) (r : Rs), r.s.size ≤ B → (pNode d r).2.s.size ≤ B ∧ (pNode d r).1.Ok
  | 0, r, hr => ⟨Nat.le_trans (byte_le r) hr, zero_ok⟩
  | d + 1, r, hr => by
    obtain ⟨c, q, hh⟩ : ∃ c q, r.byte = (c, q) := ⟨_, _, rfl⟩
    have hq : q.s.size ≤ B := by have := byte_le r; rw [hh] at this; exact Nat.le_trans this hr
    have hc := count_le q 2
    rw [pNode_hd hh]
    split
    · exact ⟨hq, zero_ok⟩
    split
    · exact ⟨hq, .mk (by simp) (by simp) (by simp)⟩
    split
    · exact gItems_le (pNode d) 5 B (pNode_le B hB d) _ _ _ _ hq (by simp; omega) (by simp; omega) (by simp)
    split
    · exact gItems_le (pNode d) 5 B (pNode_le B hB d) _ _ _ _ (Nat.le_trans hc.1 hq) (by simp; omega) (by simp; omega) (by simp)
    split
    · exact gItems_le (pNode d) 4 B (pNode_le B hB d) _ _ _ _ hq (by simp; omega) (by simp; omega) (by simp)
    split
    · exact gItems_le (pNode d) 4 B (pNode_le B hB d) _ _ _ _ (Nat.le_trans hc.1 hq) (by simp; omega) (by simp; omega) (by simp)
    split
    · exact ⟨Nat.le_trans (pText_le q c).1 hq, .mk (by simp) (by simp) (by simp)⟩
    · exact ⟨Nat.le_trans (pNumR_le q c) hq, .mk (by simp) (by simp) (by simp)⟩

/-! ### the bytes are at most three times those of the second serialisation -/
theorem pTh_hd (n : Nat) : (pTh n).length ≤ (hdL 3 n).length := by
  unfold pTh hdL
  repeat' split
  all_goals first | (simp [bigL_len]; done) | omega
theorem pCn_hd (a b m n : Nat) : (pCn a b n).length ≤ 3 * (hdL m n).length := by
  have := (pCn_pos a b n).2
  have := hdL_pos m n
  omega
theorem pNum_hd (n : Int) : (pNum n).length ≤ 3 * (if n < 0 then hdL 1 (-1 - n).toNat else hdL 0 n.toNat).length := by
  unfold pNum hdL
  repeat' split
  all_goals first | (simp [bigL_len]; done) | (exfalso; omega)
mutual
theorem pb_le : ∀ x : Nd, x.pb.length ≤ 3 * x.cb.length
  | .mk k b n t ns is => by
    have h1 := pbs_le is
    have h2 := pbm_le ns is
    have h3 := pNum_hd n
    have h4 := pTh_hd t.size
    have h5 := pCn_hd 144 220 4 is.length
    have h6 := pCn_hd 128 222 5 is.length
    simp only [Nd.pb, Nd.cb]
    split
    · rename_i e; simp [hdL]
    split
    · rename_i e; have := hdL_pos 7 (if b then 21 else 20); simp only [List.length_singleton]; omega
    split
    · exact h3
    split
    · unfold pTx; rw [List.length_append, List.length_append]; omega
    split
    · rw [List.length_append, List.length_append]; omega
    · rw [List.length_append, List.length_append]; omega
theorem pbs_le : ∀ xs : List Nd, (Nd.pbs xs).length ≤ 3 * (Nd.cbs xs).length
  | [] => by simp [Nd.pbs, Nd.cbs]
  | x :: xs => by
    have := pb_le x
    have := pbs_le xs
    simp only [Nd.pbs, Nd.cbs, List.length_append]; omega
theorem pbm_le : ∀ (ns : List ByteArray) (xs : List Nd), (Nd.pbm ns xs).length ≤ 3 * (Nd.cbm ns xs).length
  | s :: ns, x :: xs => by
    have := pb_le x
    have := pbm_le ns xs
    have := pTh_hd s.size
    simp only [Nd.pbm, Nd.cbm, pTx, List.length_append]; omega
  | [], _ => by simp [Nd.pbm]
  | _ :: _, [] => by simp [Nd.pbm]
end
end Go.AL
