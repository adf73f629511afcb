/- What functions of the program and of the document answer, and the plain laws behind it; each under the conditions that its own theorem names. -/
import Derived.Test.YtmidabiehblekaaGreatDoorTb
import Derived.Test.YtmidabiehblekaaGreatDoorAl3
import Derived.Lib.ItoaNum
import Derived.Lib.ItoaMem
set_option linter.unusedVariables false
namespace Go.AL
open Go Go.RowKit
def kp (n : Int) : Nat := (n % 18446744073709551616).toNat
def kY (n : Int) : List UInt8 :=
  if -32 ≤ n ∧ n < 128 then [UInt8.ofNat (n % 256).toNat]
  else if 0 ≤ n then
    (if n < 256 then UInt8.ofNat 204 :: xH 1 (kp n) else if n < 65536 then UInt8.ofNat 205 :: xH 2 (kp n) else if n < 4294967296 then UInt8.ofNat 206 :: xH 4 (kp n) else UInt8.ofNat 207 :: xH 8 (kp n))
  else if -128 ≤ n then UInt8.ofNat 208 :: xH 1 (kp n) else if -32768 ≤ n then UInt8.ofNat 209 :: xH 2 (kp n) else if -2147483648 ≤ n then UInt8.ofNat 210 :: xH 4 (kp n) else UInt8.ofNat 211 :: xH 8 (kp n)
def pTh (n : Nat) : List UInt8 := if n < 32 then [UInt8.ofNat (160 + n)] else if n < 256 then UInt8.ofNat 217 :: xH 1 n else if n < 65536 then UInt8.ofNat 218 :: xH 2 n else UInt8.ofNat 219 :: xH 4 n
def pTx (s : ByteArray) : List UInt8 := pTh s.size ++ s.data.toList
def pCn (few many n : Nat) : List UInt8 := if n < 16 then [UInt8.ofNat (few + n)] else UInt8.ofNat many :: xH 2 n
mutual
def Nd.pb : Nd → List UInt8
  | .mk k b n t ns is =>
    if k = 0 then [UInt8.ofNat 192] else if k = 1 then [UInt8.ofNat (if b then 195 else 194)] else if k = 2 then kY n
    else if k = 3 then pTx t else if k = 4 then pCn 144 220 is.length ++ Nd.pbs is else pCn 128 222 is.length ++ Nd.pbm ns is
def Nd.pbs : List Nd → List UInt8
  | [] => []
  | x :: xs => x.pb ++ Nd.pbs xs
def Nd.pbm : List ByteArray → List Nd → List UInt8
  | s :: ns, x :: xs => pTx s ++ x.pb ++ Nd.pbm ns xs
  | _, _ => []
end
def Rs.count (r : Rs) (k : Int) : Int × Rs := (r.uint k).2.fits (r.uint k).1
def xA (r : Rs) (c : Int) : ByteArray × Rs :=
  if 160 ≤ c ∧ c < 192 then r.take (c - 160)
  else if 217 ≤ c ∧ c ≤ 219 then (r.count (2 ^ (c - 217).toNat)).2.take (r.count (2 ^ (c - 217).toNat)).1
  else (eS, ⟨r.s, true⟩)
def sx (b : Nat) (u : Int) : Int := if u < 256 ^ b / 2 then u else u - 256 ^ b
def xz (r : Rs) (c : Int) : Int × Rs :=
  if c < 128 then (c, r) else if 224 ≤ c then (c - 256, r)
  else if 204 ≤ c ∧ c ≤ 207 then (i64 (r.uint (2 ^ (c - 204).toNat)).1, (r.uint (2 ^ (c - 204).toNat)).2)
  else if 208 ≤ c ∧ c ≤ 211 then (sx (2 ^ (c - 208).toNat) (r.uint (2 ^ (c - 208).toNat)).1, (r.uint (2 ^ (c - 208).toNat)).2)
  else (0, ⟨r.s, true⟩)
def zG (nm : Rs → ByteArray × Rs) (f : Rs → Nd × Rs) (k : Int) : Nat → List ByteArray → List Nd → Rs → Nd × Rs
  | 0, ns, is, r => (.mk k false 0 eS ns is, r)
  | c + 1, ns, is, r => if r.bad = true then (.mk k false 0 eS ns is, r)
    else if k = 5 then zG nm f k c (ns ++ [(nm r).1]) (is ++ [(f (nm r).2).1]) (f (nm r).2).2
    else zG nm f k c ns (is ++ [(f r).1]) (f r).2
def z7 (r : Rs) : ByteArray × Rs := xA r.byte.2 r.byte.1
def z6 : Nat → Rs → Nd × Rs
  | 0, r => (Nd.zero, ⟨r.byte.2.s, true⟩)
  | d + 1, r =>
    let c := r.byte.1
    let q := r.byte.2
    if c = 192 then (Nd.zero, q)
    else if c = 194 ∨ c = 195 then (.mk 1 (decide (c = 195)) 0 eS [] [], q)
    else if 128 ≤ c ∧ c < 144 then zG z7 (z6 d) 5 (c - 128).toNat [] [] q
    else if c = 222 then zG z7 (z6 d) 5 (q.count 2).1.toNat [] [] (q.count 2).2
    else if 144 ≤ c ∧ c < 160 then zG z7 (z6 d) 4 (c - 144).toNat [] [] q
    else if c = 220 then zG z7 (z6 d) 4 (q.count 2).1.toNat [] [] (q.count 2).2
    else if (160 ≤ c ∧ c < 192) ∨ (217 ≤ c ∧ c ≤ 219) then (.mk 3 false 0 (xA q c).1 [] [], (xA q c).2)
    else (.mk 2 false (xz q c).1 eS [] [], (xz q c).2)
theorem yW {d : Nat} {r q : Rs} {c : Int} (h : r.byte = (c, q)) : z6 (d + 1) r =
    if c = 192 then (Nd.zero, q)
    else if c = 194 ∨ c = 195 then (.mk 1 (decide (c = 195)) 0 eS [] [], q)
    else if 128 ≤ c ∧ c < 144 then zG z7 (z6 d) 5 (c - 128).toNat [] [] q
    else if c = 222 then zG z7 (z6 d) 5 (q.count 2).1.toNat [] [] (q.count 2).2
    else if 144 ≤ c ∧ c < 160 then zG z7 (z6 d) 4 (c - 144).toNat [] [] q
    else if c = 220 then zG z7 (z6 d) 4 (q.count 2).1.toNat [] [] (q.count 2).2
    else if (160 ≤ c ∧ c < 192) ∨ (217 ≤ c ∧ c ≤ 219) then (.mk 3 false 0 (xA q c).1 [] [], (xA q c).2)
    else (.mk 2 false (xz q c).1 eS [] [], (xz q c).2) := by simp only [z6, h]
theorem j9 (k n : Nat) (b : List UInt8) (hk : 256 ^ k ≤ 18446744073709551616) : (Rs.mk (ofL (xH k n ++ b)) false).uint k = (((n % 256 ^ k : Nat) : Int), ⟨ofL b, false⟩) := by
  have ht := wR (xH k n) b
  rw [zP] at ht
  unfold Rs.uint
  rw [ht]
  simp only [xK]
  have hp : 0 < 256 ^ k := Nat.pos_of_ne_zero (by simp)
  have := zbu k n 0 (by have := Nat.mod_lt n hp; omega)
  simp only [Nat.zero_mul, Nat.zero_add] at this
  rw [← this]; rfl
theorem xp (a : Nat) (b : List UInt8) (h : a < 256) : (Rs.mk (ofL (UInt8.ofNat a :: b)) false).byte = ((a : Int), ⟨ofL b, false⟩) := by
  rw [xC, UInt8.toNat_ofNat', Nat.mod_eq_of_lt (by omega)]
theorem zhZ (n : Nat) (b : List UInt8) (h : n ≤ b.length) : (Rs.mk (ofL b) false).fits n = ((n : Int), ⟨ofL b, false⟩) := by
  unfold Rs.fits
  rw [if_neg (by rw [yA]; omega)]
theorem zch (k n : Nat) (b : List UInt8) (hk : 256 ^ k ≤ 18446744073709551616) (hn : n < 256 ^ k) (h : n ≤ b.length) : (Rs.mk (ofL (xH k n ++ b)) false).count k = ((n : Int), ⟨ofL b, false⟩) := by
  unfold Rs.count
  rw [j9 k n b hk]
  simp only
  rw [Nat.mod_eq_of_lt hn]
  exact zhZ n b h
theorem zax (s : ByteArray) (t : List UInt8) (hs : s.size < 4294967296) : z7 ⟨ofL (pTx s ++ t), false⟩ = (s, ⟨ofL t, false⟩) ∧ ∃ (c : Int) (q : Rs), (Rs.mk (ofL (pTx s ++ t)) false).byte = (c, q) ∧ xA q c = (s, ⟨ofL t, false⟩) ∧ ((160 ≤ c ∧ c < 192) ∨ (217 ≤ c ∧ c ≤ 219)) := by
  have hl := yq s
  have tk : (Rs.mk (ofL (s.data.toList ++ t)) false).take s.size = (s, ⟨ofL t, false⟩) := by
    have := wR s.data.toList t
    rw [zaK, hl] at this
    exact this
  have key : ∃ (c : Int) (q : Rs), (Rs.mk (ofL (pTx s ++ t)) false).byte = (c, q) ∧ xA q c = (s, ⟨ofL t, false⟩) ∧ ((160 ≤ c ∧ c < 192) ∨ (217 ≤ c ∧ c ≤ 219)) := by
    unfold pTx pTh
    have big : ∀ i : Nat, i ≤ 2 → s.size < 256 ^ (2 ^ i) → ∃ (c : Int) (q : Rs), (Rs.mk (ofL (UInt8.ofNat (217 + i) :: xH (2 ^ i) s.size ++ s.data.toList ++ t)) false).byte = (c, q) ∧ xA q c = (s, ⟨ofL t, false⟩) ∧ ((160 ≤ c ∧ c < 192) ∨ (217 ≤ c ∧ c ≤ 219)) := by
      intro i hi hlt
      refine ⟨((217 + i : Nat) : Int), ⟨ofL (xH (2 ^ i) s.size ++ s.data.toList ++ t), false⟩, by rw [List.cons_append, List.cons_append]; exact xp (217 + i) _ (by omega), ?_, .inr (by omega)⟩
      have hk : 256 ^ (2 ^ i) ≤ 18446744073709551616 := by
        match i, hi with
        | 0, _ | 1, _ | 2, _ => decide
      have hc := zch (2 ^ i) s.size (s.data.toList ++ t) hk hlt (by simp)
      unfold xA
      rw [if_neg (by omega), if_pos (by omega), show (((217 + i : Nat) : Int) - 217).toNat = i by omega]
      rw [show ((2 ^ i : Nat) : Int) = 2 ^ i by simp] at hc
      rw [List.append_assoc, hc]
      exact tk
    split
    · rename_i h
      refine ⟨((160 + s.size : Nat) : Int), ⟨ofL (s.data.toList ++ t), false⟩, by rw [List.append_assoc, List.singleton_append]; exact xp (160 + s.size) _ (by omega), ?_, .inl (by omega)⟩
      unfold xA
      rw [if_pos (by omega), show ((160 + s.size : Nat) : Int) - 160 = (s.size : Int) by omega]
      exact tk
    split
    · exact big 0 (by omega) (by simpa using ‹s.size < 256›)
    split
    · exact big 1 (by omega) (by simpa using ‹s.size < 65536›)
    · exact big 2 (by omega) (by simpa using hs)
  obtain ⟨c, q, h1, h2, h3⟩ := key
  refine ⟨?_, c, q, h1, h2, h3⟩
  unfold z7
  rw [h1]
  exact h2
theorem zhn (n : Int) (t : List UInt8) (h0 : -9223372036854775808 ≤ n) (h1 : n ≤ 9223372036854775807) : ∃ (c : Int) (q : Rs), (Rs.mk (ofL (kY n ++ t)) false).byte = (c, q) ∧ xz q c = (n, ⟨ofL t, false⟩) ∧ 0 ≤ c ∧ (c < 128 ∨ 224 ≤ c ∨ (204 ≤ c ∧ c ≤ 211)) := by
  have up : ∀ i : Nat, i ≤ 3 → 0 ≤ n → n < ((256 ^ (2 ^ i) : Nat) : Int) → ∃ (c : Int) (q : Rs), (Rs.mk (ofL (UInt8.ofNat (204 + i) :: xH (2 ^ i) (kp n) ++ t)) false).byte = (c, q) ∧ xz q c = (n, ⟨ofL t, false⟩) ∧ 0 ≤ c ∧ (c < 128 ∨ 224 ≤ c ∨ (204 ≤ c ∧ c ≤ 211)) := by
    intro i hi hn hlt
    refine ⟨((204 + i : Nat) : Int), ⟨ofL (xH (2 ^ i) (kp n) ++ t), false⟩, by rw [List.cons_append]; exact xp (204 + i) _ (by omega), ?_, by omega, .inr (.inr (by omega))⟩
    have hk : 256 ^ (2 ^ i) ≤ 18446744073709551616 := by
      match i, hi with
      | 0, _ | 1, _ | 2, _ | 3, _ => decide
    have hc := j9 (2 ^ i) (kp n) t hk
    unfold xz
    rw [if_neg (by omega), if_neg (by omega), if_pos (by omega), show (((204 + i : Nat) : Int) - 204).toNat = i by omega]
    rw [show ((2 ^ i : Nat) : Int) = 2 ^ i by simp] at hc
    rw [hc]
    have hu : kp n < 256 ^ (2 ^ i) := by unfold kp; omega
    rw [Nat.mod_eq_of_lt hu]
    refine Prod.ext ?_ rfl
    simp only
    unfold kp
    rw [qh (by omega) (by omega)]; omega
  have dn : ∀ i : Nat, i ≤ 3 → n < 0 → -((256 ^ (2 ^ i) / 2 : Nat) : Int) ≤ n → ∃ (c : Int) (q : Rs), (Rs.mk (ofL (UInt8.ofNat (208 + i) :: xH (2 ^ i) (kp n) ++ t)) false).byte = (c, q) ∧ xz q c = (n, ⟨ofL t, false⟩) ∧ 0 ≤ c ∧ (c < 128 ∨ 224 ≤ c ∨ (204 ≤ c ∧ c ≤ 211)) := by
    intro i hi hn hlt
    refine ⟨((208 + i : Nat) : Int), ⟨ofL (xH (2 ^ i) (kp n) ++ t), false⟩, by rw [List.cons_append]; exact xp (208 + i) _ (by omega), ?_, by omega, .inr (.inr (by omega))⟩
    have hk : 256 ^ (2 ^ i) ≤ 18446744073709551616 := by
      match i, hi with
      | 0, _ | 1, _ | 2, _ | 3, _ => decide
    have hc := j9 (2 ^ i) (kp n) t hk
    unfold xz
    rw [if_neg (by omega), if_neg (by omega), if_neg (by omega), if_pos (by omega), show (((208 + i : Nat) : Int) - 208).toNat = i by omega]
    rw [show ((2 ^ i : Nat) : Int) = 2 ^ i by simp] at hc
    rw [hc]
    refine Prod.ext ?_ rfl
    simp only
    unfold kp sx
    match i, hi with
    | 0, _ => simp at hlt ⊢; omega
    | 1, _ => simp at hlt ⊢; omega
    | 2, _ => simp at hlt ⊢; omega
    | 3, _ => simp at hlt ⊢; omega
  unfold kY
  split
  · rename_i h
    refine ⟨(((n % 256).toNat : Nat) : Int), ⟨ofL t, false⟩, by rw [List.singleton_append]; exact xp (n % 256).toNat _ (by omega), ?_, by omega, by omega⟩
    unfold xz
    by_cases hn : 0 ≤ n
    · rw [if_pos (by omega)]
      refine Prod.ext ?_ rfl
      simp only; omega
    · rw [if_neg (by omega), if_pos (by omega)]
      refine Prod.ext ?_ rfl
      simp only; omega
  split
  · split
    · exact up 0 (by omega) (by omega) (by simpa using ‹n < 256›)
    split
    · exact up 1 (by omega) (by omega) (by simpa using ‹n < 65536›)
    split
    · exact up 2 (by omega) (by omega) (by simpa using ‹n < 4294967296›)
    · exact up 3 (by omega) (by omega) (by simp; omega)
  split
  · exact dn 0 (by omega) (by omega) (by simpa using ‹-128 ≤ n›)
  split
  · exact dn 1 (by omega) (by omega) (by simpa using ‹-32768 ≤ n›)
  split
  · exact dn 2 (by omega) (by omega) (by simpa using ‹-2147483648 ≤ n›)
  · exact dn 3 (by omega) (by omega) (by simp; omega)
theorem jF (nm : Rs → ByteArray × Rs) (f : Rs → Nd × Rs) (E : Nd → List UInt8) (Es : List Nd → List UInt8) (e0 : Es [] = []) (e1 : ∀ x xs, Es (x :: xs) = E x ++ Es xs) : ∀ (xs : List Nd) (ns : List ByteArray) (acc : List Nd) (t : List UInt8), (∀ x ∈ xs, ∀ t : List UInt8, f ⟨ofL (E x ++ t), false⟩ = (x, ⟨ofL t, false⟩)) →
    zG nm f 4 xs.length ns acc ⟨ofL (Es xs ++ t), false⟩ = (.mk 4 false 0 eS ns (acc ++ xs), ⟨ofL t, false⟩)
  | [], ns, acc, t, _ => by simp [zG, e0]
  | x :: xs, ns, acc, t, h => by
    have h1 := h x (by simp) (Es xs ++ t)
    have ih := jF nm f E Es e0 e1 xs ns (acc ++ [x]) t (fun y hy => h y (by simp [hy]))
    simp only [List.length_cons, zG, Bool.false_eq_true, if_false, e1, List.append_assoc]
    rw [if_neg (by decide), h1]
    simp only
    rw [ih]; simp
theorem zaU (nm : Rs → ByteArray × Rs) (f : Rs → Nd × Rs) (E : Nd → List UInt8) (H : ByteArray → List UInt8) (Em : List ByteArray → List Nd → List UInt8) (e0 : Em [] [] = []) (e1 : ∀ s ss x xs, Em (s :: ss) (x :: xs) = H s ++ E x ++ Em ss xs) : ∀ (ss : List ByteArray) (xs : List Nd) (ns : List ByteArray) (acc : List Nd) (t : List UInt8), ss.length = xs.length → (∀ s ∈ ss, ∀ t : List UInt8, nm ⟨ofL (H s ++ t), false⟩ = (s, ⟨ofL t, false⟩)) → (∀ x ∈ xs, ∀ t : List UInt8, f ⟨ofL (E x ++ t), false⟩ = (x, ⟨ofL t, false⟩)) →
    zG nm f 5 xs.length ns acc ⟨ofL (Em ss xs ++ t), false⟩ = (.mk 5 false 0 eS (ns ++ ss) (acc ++ xs), ⟨ofL t, false⟩)
  | [], [], ns, acc, t, _, _, _ => by simp [zG, e0]
  | s :: ss, x :: xs, ns, acc, t, hl, hs, h => by
    have h1 := h x (by simp) (Em ss xs ++ t)
    have h2 := hs s (by simp) (E x ++ (Em ss xs ++ t))
    have ih := zaU nm f E H Em e0 e1 ss xs (ns ++ [s]) (acc ++ [x]) t (by simpa using hl) (fun y hy => hs y (by simp [hy])) (fun y hy => h y (by simp [hy]))
    simp only [List.length_cons, zG, Bool.false_eq_true, if_false, e1, List.append_assoc] at h2 ⊢
    rw [if_pos trivial, h2]
    simp only
    rw [h1]
    simp only
    rw [ih]; simp
  | [], _ :: _, _, _, _, hl, _, _ => by simp at hl
  | _ :: _, [], _, _, _, hl, _, _ => by simp at hl
theorem zjd {n : Nat} : (pTh n).length ≤ 5 ∧ 1 ≤ (pTh n).length := by
  unfold pTh; repeat' split
  all_goals simp [zP]
theorem jt (a b n : Nat) : 1 ≤ (pCn a b n).length ∧ (pCn a b n).length ≤ 3 := by
  unfold pCn; split <;> simp [zP]
theorem zek (n : Int) : 1 ≤ (kY n).length ∧ (kY n).length ≤ 9 := by
  unfold kY; repeat' split
  all_goals simp [zP]
theorem ziT (x : Nd) : 1 ≤ x.pb.length := by
  cases x with
  | mk k b n t ns is =>
  simp only [Nd.pb]
  repeat' split
  · simp
  · simp
  · simp
  · exact (zek _).1
  · unfold pTx; rw [List.length_append]; have := (zjd (n := t.size)).2; omega
  · rw [List.length_append]; have := (jt 144 220 is.length).1; omega
  · rw [List.length_append]; have := (jt 128 222 is.length).1; omega
theorem zgR : ∀ is : List Nd, is.length ≤ (Nd.pbs is).length
  | [] => by simp
  | x :: xs => by
    have := ziT x
    have := zgR xs
    simp only [Nd.pbs, List.length_append, List.length_cons]; omega
theorem zhE : ∀ (ns : List ByteArray) (is : List Nd), ns.length = is.length → is.length ≤ (Nd.pbm ns is).length
  | [], [], _ => by simp
  | s :: ns, x :: xs, h => by
    have := ziT x
    have := zhE ns xs (by simpa using h)
    simp only [Nd.pbm, List.length_append, List.length_cons]; omega
  | [], _ :: _, h => by simp at h
  | _ :: _, [], h => by simp at h
theorem ze0 (few many n : Nat) (b : List UInt8) (hf : few < 240) (hm : many < 256) (hn : n < 65536) (hb : n ≤ b.length) : (n < 16 ∧ (Rs.mk (ofL (pCn few many n ++ b)) false).byte = (((few + n : Nat) : Int), ⟨ofL b, false⟩)) ∨
    (16 ≤ n ∧ ∃ q : Rs, (Rs.mk (ofL (pCn few many n ++ b)) false).byte = ((many : Int), q) ∧ q.count 2 = ((n : Int), ⟨ofL b, false⟩)) := by
  unfold pCn
  split
  · exact .inl ⟨by omega, by rw [List.singleton_append]; exact xp (few + n) _ (by omega)⟩
  · refine .inr ⟨by omega, ⟨ofL (xH 2 n ++ b), false⟩, by rw [List.cons_append]; exact xp many _ hm, ?_⟩
    exact zch 2 n b (by decide) (by simpa using hn) hb
theorem zbj {V : ByteArray → Bool} : ∀ (x : Nd) (d : Nat), x.validB V d = true → x.In → ∀ t : List UInt8, z6 d ⟨ofL (x.pb ++ t), false⟩ = (x, ⟨ofL t, false⟩)
  | .mk k b n tx ns is, 0, hv, _, t => by
    rw [yz] at hv
    have := hv.1
    simp at this
  | .mk k b n tx ns is, d + 1, hv, hin, t => by
    rw [yz] at hv
    obtain ⟨_, h2, h3, h4, h5, h6, h7, h8⟩ := hv
    cases hin with
    | mk i1 i2 i3 =>
    simp only [Nd.fieldsOK, Bool.and_eq_true, Bool.or_eq_true, decide_eq_true_eq, Bool.not_eq_true'] at h4
    obtain ⟨⟨⟨⟨f1, f2⟩, f3⟩, f4⟩, f5⟩ := h4
    have hk : k = 0 ∨ k = 1 ∨ k = 2 ∨ k = 3 ∨ k = 4 ∨ k = 5 := by omega
    have hi : ∀ y ∈ is, ∀ t : List UInt8, z6 d ⟨ofL (y.pb ++ t), false⟩ = (y, ⟨ofL t, false⟩) := fun y hy t =>
      zbj y d (by have := h8 y hy; rwa [show ((d + 1 : Nat) : Int) - 1 = d by omega] at this) (i3 y hy) t
    have e0 : k ≠ 1 → b = false := fun h => f1.resolve_left h
    have e1 : k ≠ 2 → n = 0 := fun h => f2.resolve_left h
    have e2 : k ≠ 3 → tx = eS := fun h => f3.resolve_left h
    have e3 : k ≠ 4 → k ≠ 5 → is = [] := fun h h' => List.eq_nil_of_length_eq_zero (by rcases f4 with (h'' | h'') | h'' <;> first | (exact absurd h'' h) | (exact absurd h'' h') | omega)
    have e4 : k ≠ 5 → ns = [] := fun h => List.eq_nil_of_length_eq_zero (by rcases f5 with h' | h'; exact absurd h' h; omega)
    rcases hk with rfl | rfl | rfl | rfl | rfl | rfl
    · rw [e0 (by decide), e1 (by decide), e2 (by decide), e3 (by decide) (by decide), e4 (by decide)]
      rw [show (Nd.mk 0 false 0 eS [] []).pb = [UInt8.ofNat 192] by simp [Nd.pb], List.singleton_append, yW (xp 192 t (by omega)), if_pos (by decide)]
      simp [Nd.zero, eS]
    · rw [e1 (by decide), e2 (by decide), e3 (by decide) (by decide), e4 (by decide)]
      cases b with
      | true =>
        rw [show (Nd.mk 1 true 0 eS [] []).pb = [UInt8.ofNat 195] by simp [Nd.pb], List.singleton_append, yW (xp 195 t (by omega)), if_neg (by decide), if_pos (by decide)]
        simp
      | false =>
        rw [show (Nd.mk 1 false 0 eS [] []).pb = [UInt8.ofNat 194] by simp [Nd.pb], List.singleton_append, yW (xp 194 t (by omega)), if_neg (by decide), if_pos (by decide)]
        simp
    · rw [e0 (by decide), e2 (by decide), e3 (by decide) (by decide), e4 (by decide)]
      rw [show (Nd.mk 2 false n eS [] []).pb = kY n by simp [Nd.pb]]
      obtain ⟨c, q, g1, g2, g3, g4⟩ := zhn n t i1 i2
      rw [yW g1, if_neg (by omega), if_neg (by omega), if_neg (by omega), if_neg (by omega), if_neg (by omega), if_neg (by omega), if_neg (by omega), g2]
    · rw [e0 (by decide), e1 (by decide), e3 (by decide) (by decide), e4 (by decide)]
      have ht : tx.size ≤ 65536 := by simp only [yG, Bool.and_eq_true, decide_eq_true_eq] at h5; omega
      rw [show (Nd.mk 3 false 0 tx [] []).pb = pTx tx by simp [Nd.pb]]
      obtain ⟨c, q, g1, g2, g3⟩ := (zax tx t (by omega)).2
      rw [yW g1, if_neg (by omega), if_neg (by omega), if_neg (by omega), if_neg (by omega), if_neg (by omega), if_neg (by omega), if_pos g3, g2]
    · rw [e0 (by decide), e1 (by decide), e2 (by decide), e4 (by decide)]
      rw [show (Nd.mk 4 false 0 eS [] is).pb = pCn 144 220 is.length ++ Nd.pbs is by simp [Nd.pb], List.append_assoc]
      have hb := zgR is
      have hg := jF z7 (z6 d) Nd.pb Nd.pbs rfl (fun _ _ => rfl) is [] [] t hi
      rcases ze0 144 220 is.length (Nd.pbs is ++ t) (by omega) (by omega) (by omega) (by rw [List.length_append]; omega) with ⟨g0, g1⟩ | ⟨g0, q, g1, g2⟩
      · rw [yW g1, if_neg (by omega), if_neg (by omega), if_neg (by omega), if_neg (by omega), if_pos (by omega), show (((144 + is.length : Nat) : Int) - 144).toNat = is.length by omega, hg]
        simp
      · rw [yW g1, if_neg (by omega), if_neg (by omega), if_neg (by omega), if_neg (by omega), if_neg (by omega), if_pos (by omega), g2]
        simp only [Int.toNat_natCast]
        rw [hg]; simp
    · rw [e0 (by decide), e1 (by decide), e2 (by decide)]
      have hl := (h7 rfl).2
      have hs : ∀ s ∈ ns, ∀ t : List UInt8, z7 ⟨ofL (pTx s ++ t), false⟩ = (s, ⟨ofL t, false⟩) := fun s hs t => by
        have := (((yZ (yG V) ns []).1 (h7 rfl).1).2 s hs).2
        simp only [yG, Bool.and_eq_true, decide_eq_true_eq] at this
        exact (zax s t (by omega)).1
      rw [show (Nd.mk 5 false 0 eS ns is).pb = pCn 128 222 is.length ++ Nd.pbm ns is by simp [Nd.pb], List.append_assoc]
      have hb := zhE ns is hl
      have hg := zaU z7 (z6 d) Nd.pb pTx Nd.pbm rfl (fun _ _ _ _ => rfl) ns is [] [] t hl hs hi
      rcases ze0 128 222 is.length (Nd.pbm ns is ++ t) (by omega) (by omega) (by omega) (by rw [List.length_append]; omega) with ⟨g0, g1⟩ | ⟨g0, q, g1, g2⟩
      · rw [yW g1, if_neg (by omega), if_neg (by omega), if_pos (by omega), show (((128 + is.length : Nat) : Int) - 128).toNat = is.length by omega, hg]
        simp
      · rw [yW g1, if_neg (by omega), if_neg (by omega), if_neg (by omega), if_pos (by omega), g2]
        simp only [Int.toNat_natCast]
        rw [hg]; simp
termination_by x => SizeOf.sizeOf x
decreasing_by
  have := List.sizeOf_lt_of_mem hy
  simp only [Nd.mk.sizeOf_spec]
  omega
theorem zi6 {n i : Nat} (hi : i ≤ 2) (h : n < 256 ^ (2 ^ i)) : (pTh n).length ≤ 1 + 2 ^ i := by
  unfold pTh
  match i, hi with
  | 0, _ => simp at h; repeat' split
            all_goals first | (simp [zP]; done) | omega
  | 1, _ => simp at h; repeat' split
            all_goals first | (simp [zP]; done) | omega
  | 2, _ => repeat' split
            all_goals (simp [zP])
theorem kV {n : Int} {i : Nat} (hi : i ≤ 3) (h0 : -((256 ^ (2 ^ i) / 2 : Nat) : Int) ≤ n) (h : n < ((256 ^ (2 ^ i) : Nat) : Int)) : (kY n).length ≤ 1 + 2 ^ i := by
  unfold kY
  match i, hi with
  | 0, _ => simp at h h0; repeat' split
            all_goals first | (simp [zP]; done) | omega
  | 1, _ => simp at h h0; repeat' split
            all_goals first | (simp [zP]; done) | omega
  | 2, _ => simp at h h0; repeat' split
            all_goals first | (simp [zP]; done) | omega
  | 3, _ => repeat' split
            all_goals (simp [zP])
theorem qL {r : Rs} {i : Nat} (hi : i ≤ 3) (h : (r.count (2 ^ i)).2.bad = false) : r.bad = false ∧ 0 ≤ (r.count (2 ^ i)).1 ∧ (r.count (2 ^ i)).1 < (256 : Int) ^ (2 ^ i) ∧ (r.count (2 ^ i)).2.s.size + 2 ^ i = r.s.size ∧ (r.count (2 ^ i)).1 ≤ (r.count (2 ^ i)).2.s.size := by
  unfold Rs.count at h ⊢
  obtain ⟨h1, h2, h3, h4⟩ := wc h
  obtain ⟨u1, u2, u3, u4⟩ := ww hi h4
  rw [h1, h2]
  exact ⟨u1, u3, u4, u2, h3⟩
theorem zaS {q : Rs} {c : Int} (hc : (160 ≤ c ∧ c < 192) ∨ (217 ≤ c ∧ c ≤ 219) ∨ (xA q c).2.bad = false) (h : (xA q c).2.bad = false) : q.bad = false ∧ (pTx (xA q c).1).length + (xA q c).2.s.size ≤ q.s.size + 1 := by
  unfold xA at h ⊢
  split at h
  · rename_i e
    rw [if_pos e]
    obtain ⟨t1, t2, t3, t4, t5⟩ := xh h
    refine ⟨t1, ?_⟩
    unfold pTx
    rw [List.length_append, yq]
    have : (pTh (q.take (c - 160)).1.size).length = 1 := by unfold pTh; rw [if_pos (by omega)]; rfl
    omega
  · rename_i e0
    rw [if_neg e0]
    split at h
    · rename_i e
      rw [if_pos e]
      obtain ⟨i, hi, hi2⟩ : ∃ i : Nat, (c - 217).toNat = i ∧ i ≤ 2 := ⟨_, rfl, by omega⟩
      rw [hi] at h ⊢
      obtain ⟨t1, t2, t3, t4, t5⟩ := xh h
      obtain ⟨u1, u2, u3, u4, u5⟩ := qL (by omega) t1
      refine ⟨u1, ?_⟩
      unfold pTx
      rw [List.length_append, yq]
      have hl := zi6 (n := ((q.count (2 ^ i)).2.take (q.count (2 ^ i)).1).1.size) (i := i) hi2 (by
        have e3 : ((256 ^ (2 ^ i) : Nat) : Int) = (256 : Int) ^ (2 ^ i) := by simp
        omega)
      omega
    · simp at h
theorem zfc {r : Rs} (h : (z7 r).2.bad = false) : r.bad = false ∧ (pTx (z7 r).1).length + (z7 r).2.s.size ≤ r.s.size := by
  unfold z7 at h ⊢
  obtain ⟨h1, h2⟩ := zaS (.inr (.inr h)) h
  obtain ⟨b1, b2⟩ := yU h1
  exact ⟨b1, by omega⟩
theorem zfM {q : Rs} {c : Int} (h0 : 0 ≤ c) (h1 : c < 256) (h : (xz q c).2.bad = false) : q.bad = false ∧ (kY (xz q c).1).length + (xz q c).2.s.size ≤ q.s.size + 1 ∧ -9223372036854775808 ≤ (xz q c).1 ∧ (xz q c).1 ≤ 9223372036854775807 := by
  unfold xz at h ⊢
  have one : ∀ v : Int, -32 ≤ v → v < 128 → (kY v).length = 1 := fun v h h' => by unfold kY; rw [if_pos ⟨h, h'⟩]; rfl
  split at h
  · rename_i e
    rw [if_pos e]
    refine ⟨h, ?_, ?_, ?_⟩
    · simp only; rw [one c (by omega) e]; omega
    · simp only; omega
    · simp only; omega
  rename_i n1
  rw [if_neg n1]
  split at h
  · rename_i e
    rw [if_pos e]
    refine ⟨h, ?_, ?_, ?_⟩
    · simp only; rw [one (c - 256) (by omega) (by omega)]; omega
    · simp only; omega
    · simp only; omega
  rename_i n2
  rw [if_neg n2]
  split at h
  · rename_i e
    rw [if_pos e]
    obtain ⟨i, hi, hi3⟩ : ∃ i : Nat, (c - 204).toNat = i ∧ i ≤ 3 := ⟨_, rfl, by omega⟩
    rw [hi] at h ⊢
    obtain ⟨u1, u2, u3, u4⟩ := ww hi3 h
    simp only
    generalize (q.uint (2 ^ i)).1 = v at *
    have e3 : ((256 ^ (2 ^ i) : Nat) : Int) = (256 : Int) ^ (2 ^ i) := by simp
    have hr := qi v
    refine ⟨u1, ?_, hr.1, hr.2⟩
    have : (kY (i64 v)).length ≤ 1 + 2 ^ i := by
      match i, hi3 with
      | 0, _ => simp at u4; exact kV (i := 0) (by omega) (by rw [qh (by omega) (by omega)]; simp; omega) (by rw [qh (by omega) (by omega)]; simp; omega)
      | 1, _ => simp at u4; exact kV (i := 1) (by omega) (by rw [qh (by omega) (by omega)]; simp; omega) (by rw [qh (by omega) (by omega)]; simp; omega)
      | 2, _ => simp at u4; exact kV (i := 2) (by omega) (by rw [qh (by omega) (by omega)]; simp; omega) (by rw [qh (by omega) (by omega)]; simp; omega)
      | 3, _ => exact (zek _).2
    omega
  rename_i n3
  rw [if_neg n3]
  split at h
  · rename_i e
    rw [if_pos e]
    obtain ⟨i, hi, hi3⟩ : ∃ i : Nat, (c - 208).toNat = i ∧ i ≤ 3 := ⟨_, rfl, by omega⟩
    rw [hi] at h ⊢
    obtain ⟨u1, u2, u3, u4⟩ := ww hi3 h
    simp only
    generalize (q.uint (2 ^ i)).1 = v at *
    have hs : -((256 ^ (2 ^ i) / 2 : Nat) : Int) ≤ sx (2 ^ i) v ∧ sx (2 ^ i) v < ((256 ^ (2 ^ i) / 2 : Nat) : Int) := by
      unfold sx
      match i, hi3 with
      | 0, _ => simp at u4 ⊢; omega
      | 1, _ => simp at u4 ⊢; omega
      | 2, _ => simp at u4 ⊢; omega
      | 3, _ => simp at u4 ⊢; omega
    have hp := kV hi3 hs.1 (by omega)
    have h63 : ((256 ^ (2 ^ i) / 2 : Nat) : Int) ≤ 9223372036854775808 := by
      match i, hi3 with
      | 0, _ | 1, _ | 2, _ | 3, _ => decide +kernel
    exact ⟨u1, by omega, by omega, by omega⟩
  · simp at h
theorem ky (nm : Rs → ByteArray × Rs) (f : Rs → Nd × Rs) (hf : ∀ r, (f r).2.bad = false → r.bad = false ∧ (f r).1.pb.length + (f r).2.s.size ≤ r.s.size ∧ (f r).1.In) : ∀ (c : Nat) (ns : List ByteArray) (is : List Nd) (r : Rs), (zG nm f 4 c ns is r).2.bad = false →
    r.bad = false ∧ ∃ xs : List Nd, xs.length = c ∧ (zG nm f 4 c ns is r).1 = .mk 4 false 0 eS ns (is ++ xs) ∧ (Nd.pbs xs).length + (zG nm f 4 c ns is r).2.s.size ≤ r.s.size ∧ ∀ x ∈ xs, x.In
  | 0, ns, is, r, h => ⟨h, [], rfl, by simp [zG], by simp [zG, Nd.pbs], by simp⟩
  | c + 1, ns, is, r, h => by
    simp only [zG] at h ⊢
    by_cases hb : r.bad = true
    · rw [if_pos hb] at h; rw [hb] at h; simp at h
    · rw [if_neg hb, if_neg (by decide)] at h ⊢
      obtain ⟨h1, xs, h2, h3, h4, h5⟩ := ky nm f hf c ns (is ++ [(f r).1]) (f r).2 h
      obtain ⟨g1, g2, g3⟩ := hf r h1
      refine ⟨g1, (f r).1 :: xs, by simp [h2], by rw [h3]; simp, ?_, ?_⟩
      · simp only [Nd.pbs, List.length_append]; omega
      · intro x hx
        rcases List.mem_cons.1 hx with rfl | hx
        · exact g3
        · exact h5 x hx
theorem kb (f : Rs → Nd × Rs) (hf : ∀ r, (f r).2.bad = false → r.bad = false ∧ (f r).1.pb.length + (f r).2.s.size ≤ r.s.size ∧ (f r).1.In) : ∀ (c : Nat) (ns : List ByteArray) (is : List Nd) (r : Rs), (zG z7 f 5 c ns is r).2.bad = false →
    r.bad = false ∧ ∃ (ss : List ByteArray) (xs : List Nd), ss.length = c ∧ xs.length = c ∧ (zG z7 f 5 c ns is r).1 = .mk 5 false 0 eS (ns ++ ss) (is ++ xs) ∧ (Nd.pbm ss xs).length + (zG z7 f 5 c ns is r).2.s.size ≤ r.s.size ∧ ∀ x ∈ xs, x.In
  | 0, ns, is, r, h => ⟨h, [], [], rfl, rfl, by simp [zG], by simp [zG, Nd.pbm], by simp⟩
  | c + 1, ns, is, r, h => by
    simp only [zG] at h ⊢
    by_cases hb : r.bad = true
    · rw [if_pos hb] at h; rw [hb] at h; simp at h
    · rw [if_neg hb, if_pos trivial] at h ⊢
      obtain ⟨h1, ss, xs, h2, h2', h3, h4, h5⟩ := kb f hf c (ns ++ [(z7 r).1]) (is ++ [(f (z7 r).2).1]) (f (z7 r).2).2 h
      obtain ⟨g1, g2, g3⟩ := hf _ h1
      obtain ⟨q1, q2⟩ := zfc g1
      refine ⟨q1, (z7 r).1 :: ss, (f (z7 r).2).1 :: xs, by simp [h2], by simp [h2'], by rw [h3]; simp, ?_, ?_⟩
      · simp only [Nd.pbm, List.length_append]; omega
      · intro x hx
        rcases List.mem_cons.1 hx with rfl | hx
        · exact g3
        · exact h5 x hx
theorem wu : ∀ (d : Nat) (r : Rs), (z6 d r).2.bad = false → r.bad = false ∧ (z6 d r).1.pb.length + (z6 d r).2.s.size ≤ r.s.size ∧ (z6 d r).1.In
  | 0, r, h => by simp [z6] at h
  | d + 1, r, h => by
    obtain ⟨c, q, hh⟩ : ∃ c q, r.byte = (c, q) := ⟨_, _, rfl⟩
    have hr := y4 r
    have key : q.bad = false → r.bad = false ∧ q.s.size + 1 = r.s.size := fun hq => by
      have := yU (r := r) (by rw [hh]; exact hq)
      rw [hh] at this
      exact this
    rw [hh] at hr
    simp only at hr
    rw [yW hh] at h ⊢
    have pcnt : ∀ a b n, n < 16 → (pCn a b n).length = 1 := fun a b n h => by unfold pCn; rw [if_pos h]; rfl
    have li : ∀ (c : Nat) (q : Rs), (zG z7 (z6 d) 4 c [] [] q).2.bad = false → q.bad = false ∧ ∃ xs : List Nd, xs.length = c ∧ (zG z7 (z6 d) 4 c [] [] q).1.pb.length = (pCn 144 220 c).length + (Nd.pbs xs).length ∧ (Nd.pbs xs).length + (zG z7 (z6 d) 4 c [] [] q).2.s.size ≤ q.s.size ∧ (zG z7 (z6 d) 4 c [] [] q).1.In := fun c q h => by
      obtain ⟨h1, xs, h2, h3, h4, h5⟩ := ky z7 (z6 d) (wu d) c [] [] q h
      refine ⟨h1, xs, h2, ?_, h4, ?_⟩
      · rw [h3]; simp [Nd.pb, h2]
      · rw [h3]; exact .mk (by omega) (by omega) (by simpa using h5)
    have ma : ∀ (c : Nat) (q : Rs), (zG z7 (z6 d) 5 c [] [] q).2.bad = false → q.bad = false ∧ ∃ (ss : List ByteArray) (xs : List Nd), xs.length = c ∧ (zG z7 (z6 d) 5 c [] [] q).1.pb.length = (pCn 128 222 c).length + (Nd.pbm ss xs).length ∧ (Nd.pbm ss xs).length + (zG z7 (z6 d) 5 c [] [] q).2.s.size ≤ q.s.size ∧ (zG z7 (z6 d) 5 c [] [] q).1.In := fun c q h => by
      obtain ⟨h1, ss, xs, h2, h2', h3, h4, h5⟩ := kb (z6 d) (wu d) c [] [] q h
      refine ⟨h1, ss, xs, h2', ?_, h4, ?_⟩
      · rw [h3]; simp [Nd.pb, h2']
      · rw [h3]; exact .mk (by omega) (by omega) (by simpa using h5)
    split at h
    · rename_i e; rw [if_pos e]
      obtain ⟨g1, g2⟩ := key h
      exact ⟨g1, by simp [Nd.zero, Nd.pb]; omega, zb1⟩
    rename_i n1; rw [if_neg n1]
    split at h
    · rename_i e; rw [if_pos e]
      obtain ⟨g1, g2⟩ := key h
      exact ⟨g1, by simp [Nd.pb]; omega, .mk (by omega) (by omega) (by simp)⟩
    rename_i n2; rw [if_neg n2]
    split at h
    · rename_i e; rw [if_pos e]
      obtain ⟨g0, ss, xs, g3, g4, g5, g6⟩ := ma _ _ h
      obtain ⟨g1, g2⟩ := key g0
      have := pcnt 128 222 (c - 128).toNat (by omega)
      exact ⟨g1, by omega, g6⟩
    rename_i n3; rw [if_neg n3]
    split at h
    · rename_i e; rw [if_pos e]
      obtain ⟨g0, ss, xs, g3, g4, g5, g6⟩ := ma _ _ h
      have hc : (q.count (2 ^ 1)).2.bad = false := g0
      obtain ⟨u1, u2, u3, u4, u5⟩ := qL (by omega) hc
      obtain ⟨g1, g2⟩ := key u1
      have := (jt 128 222 (q.count 2).1.toNat).2
      have u4 : (q.count 2).2.s.size + 2 = q.s.size := u4
      exact ⟨g1, by omega, g6⟩
    rename_i n4; rw [if_neg n4]
    split at h
    · rename_i e; rw [if_pos e]
      obtain ⟨g0, xs, g3, g4, g5, g6⟩ := li _ _ h
      obtain ⟨g1, g2⟩ := key g0
      have := pcnt 144 220 (c - 144).toNat (by omega)
      exact ⟨g1, by omega, g6⟩
    rename_i n5; rw [if_neg n5]
    split at h
    · rename_i e; rw [if_pos e]
      obtain ⟨g0, xs, g3, g4, g5, g6⟩ := li _ _ h
      have hc : (q.count (2 ^ 1)).2.bad = false := g0
      obtain ⟨u1, u2, u3, u4, u5⟩ := qL (by omega) hc
      obtain ⟨g1, g2⟩ := key u1
      have := (jt 144 220 (q.count 2).1.toNat).2
      have u4 : (q.count 2).2.s.size + 2 = q.s.size := u4
      exact ⟨g1, by omega, g6⟩
    rename_i n6; rw [if_neg n6]
    split at h
    · rename_i e; rw [if_pos e]
      obtain ⟨t1, t2⟩ := zaS (.inr (.inr h)) h
      obtain ⟨g1, g2⟩ := key t1
      refine ⟨g1, ?_, .mk (by omega) (by omega) (by simp)⟩
      rw [show (Nd.mk 3 false 0 (xA q c).1 [] [], (xA q c).2).1.pb = pTx (xA q c).1 by simp [Nd.pb]]
      simp only; omega
    · rename_i e; rw [if_neg e]
      obtain ⟨t1, t2, t3, t4⟩ := zfM hr.1 hr.2 h
      obtain ⟨g1, g2⟩ := key t1
      refine ⟨g1, ?_, .mk t3 t4 (by simp)⟩
      rw [show (Nd.mk 2 false (xz q c).1 eS [] [], (xz q c).2).1.pb = kY (xz q c).1 by simp [Nd.pb]]
      simp only; omega
structure Codec where
  E : Nd → List UInt8
  R : ByteArray → Nd × Rs
  back : ∀ {V : ByteArray → Bool} {x : Nd}, x.validB V 8 = true → x.In → R (ofL (E x)) = (x, ⟨eS, false⟩)
  good : ∀ {s : ByteArray}, (R s).2.bad = false → (R s).1.In
variable (C : Codec)
def zb7 (V : ByteArray → Bool) (x : Nd) : ByteArray × Int := if x.validB V 8 = true then (if 65536 < (C.E x).length then (eS, 3) else (ofL (C.E x), 0)) else (eS, 1)
def zhC (V : ByteArray → Bool) (s : ByteArray) : Prop := (C.R s).2.bad = false ∧ (C.R s).2.s = eS ∧ (C.R s).1.validB V 8 = true ∧ zb7 C V (C.R s).1 = (s, 0)
instance (V : ByteArray → Bool) (s : ByteArray) : Decidable (zhC C V s) := by unfold zhC; exact inferInstance
def zf5 (V : ByteArray → Bool) (s : ByteArray) : Nd × Int := if zhC C V s then ((C.R s).1, 0) else (Nd.zero, 4)
variable {C}
theorem zcD {V : ByteArray → Bool} {x : Nd} (hv : x.validB V 8 = true) (hin : x.In) (hl : (C.E x).length ≤ 65536) : zf5 C V (ofL (C.E x)) = (x, 0) := by
  have h := C.back hv hin
  have hg : zhC C V (ofL (C.E x)) := by
    unfold zhC
    rw [h]
    refine ⟨rfl, rfl, hv, ?_⟩
    simp only
    unfold zb7
    rw [if_pos hv, if_neg (by omega)]
  unfold zf5
  rw [if_pos hg, h]
theorem zbY {V : ByteArray → Bool} {x : Nd} (hv : x.validB V 8 = true) (hl : (C.E x).length ≤ 65536) : zb7 C V x = (ofL (C.E x), 0) := by
  unfold zb7; rw [if_pos hv, if_neg (by omega)]
def pkC : Codec where
  E := Nd.pb
  R s := z6 8 ⟨s, false⟩
  back := fun {V x} hv hin => by
    have := zbj x 8 hv hin []
    rw [List.append_nil] at this
    exact this
  good := fun {s} h => by
    have := wu 8 ⟨s, false⟩ h
    exact this.2.2
theorem k6 (r : Rs) (k : Int) : (r.count k).2.s.size ≤ r.s.size ∧ (r.count k).1 ≤ r.s.size := by
  unfold Rs.count
  have h1 := jm r k
  have h2 := qU (r.uint k).2 (r.uint k).1
  exact ⟨Nat.le_trans h2.1 h1, by omega⟩
theorem ze3 (r : Rs) (c : Int) : (xA r c).2.s.size ≤ r.s.size ∧ (xA r c).1.size ≤ r.s.size := by
  have tk : ∀ (q : Rs) (n : Int), (q.take n).1.size ≤ q.s.size := fun q n => by
    unfold Rs.take; split
    · exact Nat.zero_le _
    · simp only [ByteArray.size_extract]; omega
  unfold xA
  split
  · exact ⟨vS _ _, tk _ _⟩
  split
  · have := (k6 r (2 ^ (c - 217).toNat)).1
    exact ⟨Nat.le_trans (vS _ _) this, Nat.le_trans (tk _ _) this⟩
  · exact ⟨Nat.le_refl _, Nat.zero_le _⟩
theorem zeI (r : Rs) : (z7 r).2.s.size ≤ r.s.size ∧ (z7 r).1.size ≤ r.s.size := by
  have := xy r
  have h := ze3 r.byte.2 r.byte.1
  exact ⟨Nat.le_trans h.1 this, Nat.le_trans h.2 this⟩
theorem zil (r : Rs) (c : Int) : (xz r c).2.s.size ≤ r.s.size := by
  unfold xz
  repeat' split
  · exact Nat.le_refl _
  · exact Nat.le_refl _
  · exact jm _ _
  · exact jm _ _
  · exact Nat.le_refl _
theorem we (f : Rs → Nd × Rs) (k : Int) (B : Nat) (hf : ∀ r : Rs, r.s.size ≤ B → (f r).2.s.size ≤ B ∧ (f r).1.Ok) : ∀ (c : Nat) (ns : List ByteArray) (is : List Nd) (r : Rs), r.s.size ≤ B → ns.length + c ≤ 1000000000 → is.length + c ≤ 1000000000 → (∀ x ∈ is, x.Ok) → (zG z7 f k c ns is r).2.s.size ≤ B ∧ (zG z7 f k c ns is r).1.Ok
  | 0, ns, is, r, hr, h1, h2, h3 => ⟨hr, .mk (by omega) (by omega) h3⟩
  | c + 1, ns, is, r, hr, h1, h2, h3 => by
    unfold zG
    have key : ∀ (y : Nd), y.Ok → ∀ x ∈ is ++ [y], x.Ok := fun y hy x hx => by
      rcases List.mem_append.1 hx with h | h
      · exact h3 x h
      · rw [List.mem_singleton.1 h]; exact hy
    split
    · exact ⟨hr, .mk (by omega) (by omega) h3⟩
    · split
      · have h := hf (z7 r).2 (Nat.le_trans (zeI r).1 hr)
        exact we f k B hf c _ _ _ h.1 (by simp; omega) (by simp; omega) (key _ h.2)
      · have h := hf r hr
        exact we f k B hf c _ _ _ h.1 (by omega) (by simp; omega) (key _ h.2)
theorem vH (B : Nat) (hB : B ≤ 1000000000) : ∀ (d : Nat) (r : Rs), r.s.size ≤ B → (z6 d r).2.s.size ≤ B ∧ (z6 d r).1.Ok
  | 0, r, hr => ⟨Nat.le_trans (xy r) hr, vR⟩
  | d + 1, r, hr => by
    obtain ⟨c, q, hh⟩ : ∃ c q, r.byte = (c, q) := ⟨_, _, rfl⟩
    have hq : q.s.size ≤ B := by have := xy r; rw [hh] at this; exact Nat.le_trans this hr
    have hc := k6 q 2
    rw [yW hh]
    split
    · exact ⟨hq, vR⟩
    split
    · exact ⟨hq, .mk (by simp) (by simp) (by simp)⟩
    split
    · exact we (z6 d) 5 B (vH B hB d) _ _ _ _ hq (by simp; omega) (by simp; omega) (by simp)
    split
    · exact we (z6 d) 5 B (vH B hB d) _ _ _ _ (Nat.le_trans hc.1 hq) (by simp; omega) (by simp; omega) (by simp)
    split
    · exact we (z6 d) 4 B (vH B hB d) _ _ _ _ hq (by simp; omega) (by simp; omega) (by simp)
    split
    · exact we (z6 d) 4 B (vH B hB d) _ _ _ _ (Nat.le_trans hc.1 hq) (by simp; omega) (by simp; omega) (by simp)
    split
    · exact ⟨Nat.le_trans (ze3 q c).1 hq, .mk (by simp) (by simp) (by simp)⟩
    · exact ⟨Nat.le_trans (zil q c) hq, .mk (by simp) (by simp) (by simp)⟩
theorem ziV (n : Nat) : (pTh n).length ≤ (hdL 3 n).length := by
  unfold pTh hdL
  repeat' split
  all_goals first | (simp [zP]; done) | omega
theorem ziM (a b m n : Nat) : (pCn a b n).length ≤ 3 * (hdL m n).length := by
  have := (jt a b n).2
  have := qJ m n
  omega
theorem zjF (n : Int) : (kY n).length ≤ 3 * (if n < 0 then hdL 1 (-1 - n).toNat else hdL 0 n.toNat).length := by
  unfold kY hdL
  repeat' split
  all_goals first | (simp [zP]; done) | (exfalso; omega)
mutual
theorem zi4 : ∀ x : Nd, x.pb.length ≤ 3 * x.cb.length
  | .mk k b n t ns is => by
    have h1 := ziG is
    have h2 := ziA ns is
    have h3 := zjF n
    have h4 := ziV t.size
    have h5 := ziM 144 220 4 is.length
    have h6 := ziM 128 222 5 is.length
    simp only [Nd.pb, Nd.cb]
    split
    · rename_i e; simp [hdL]
    split
    · rename_i e; have := qJ 7 (if b then 21 else 20); simp only [List.length_singleton]; omega
    split
    · exact h3
    split
    · unfold pTx; rw [List.length_append, List.length_append]; omega
    split
    · rw [List.length_append, List.length_append]; omega
    · rw [List.length_append, List.length_append]; omega
theorem ziG : ∀ xs : List Nd, (Nd.pbs xs).length ≤ 3 * (Nd.cbs xs).length
  | [] => by simp [Nd.pbs, Nd.cbs]
  | x :: xs => by
    have := zi4 x
    have := ziG xs
    simp only [Nd.pbs, Nd.cbs, List.length_append]; omega
theorem ziA : ∀ (ns : List ByteArray) (xs : List Nd), (Nd.pbm ns xs).length ≤ 3 * (Nd.cbm ns xs).length
  | s :: ns, x :: xs => by
    have := zi4 x
    have := ziA ns xs
    have := ziV s.size
    simp only [Nd.pbm, Nd.cbm, pTx, List.length_append]; omega
  | [], _ => by simp [Nd.pbm]
  | _ :: _, [] => by simp [Nd.pbm]
end
end Go.AL
namespace Go.AL
open Go Go.Proofs Go.RowKit
theorem sh8 {j : Nat} (hj : j ≤ 3) : IntKind.i64.wrap (8 * 2 ^ min (j : Int).toNat IntKind.i64.bits) = ((8 * 2 ^ j : Nat) : Int) := by
  match j, hj with
  | 0, _ | 1, _ | 2, _ | 3, _ => decide
theorem zgc {n : Int} {j : Nat} (hj : j ≤ 3) (h0 : 0 ≤ n) : n / 2 ^ min (((8 * 2 ^ j : Nat) : Int)).toNat IntKind.i64.bits = 0 ↔ n < ((256 ^ (2 ^ j) : Nat) : Int) := by
  match j, hj with
  | 0, _ => rw [show min (((8 * 2 ^ 0 : Nat) : Int)).toNat IntKind.i64.bits = 8 by decide]; simp <;> omega
  | 1, _ => rw [show min (((8 * 2 ^ 1 : Nat) : Int)).toNat IntKind.i64.bits = 16 by decide]; simp <;> omega
  | 2, _ => rw [show min (((8 * 2 ^ 2 : Nat) : Int)).toNat IntKind.i64.bits = 32 by decide]; simp <;> omega
  | 3, _ => rw [show min (((8 * 2 ^ 3 : Nat) : Int)).toNat IntKind.i64.bits = 64 by decide]; simp <;> omega
theorem ziJ {n : Int} {j : Nat} (hj : j ≤ 3) (h0 : n < 0) : n / 2 ^ min (IntKind.i64.wrap (((8 * 2 ^ j : Nat) : Int) - 1)).toNat IntKind.i64.bits = -1 ↔ -((256 ^ (2 ^ j) / 2 : Nat) : Int) ≤ n := by
  match j, hj with
  | 0, _ => rw [show min (IntKind.i64.wrap (((8 * 2 ^ 0 : Nat) : Int) - 1)).toNat IntKind.i64.bits = 7 by decide]; simp <;> omega
  | 1, _ => rw [show min (IntKind.i64.wrap (((8 * 2 ^ 1 : Nat) : Int) - 1)).toNat IntKind.i64.bits = 15 by decide]; simp <;> omega
  | 2, _ => rw [show min (IntKind.i64.wrap (((8 * 2 ^ 2 : Nat) : Int) - 1)).toNat IntKind.i64.bits = 31 by decide]; simp <;> omega
  | 3, _ => rw [show min (IntKind.i64.wrap (((8 * 2 ^ 3 : Nat) : Int) - 1)).toNat IntKind.i64.bits = 63 by decide]; simp <;> omega
theorem zgX {n : Int} {j : Nat} (hj : j ≤ 3) (h0 : 128 ≤ n) (hlo : ∀ i, i < j → ((256 ^ (2 ^ i) : Nat) : Int) ≤ n) (hhi : j = 3 ∨ n < ((256 ^ (2 ^ j) : Nat) : Int)) : kY n = UInt8.ofNat (204 + j) :: xH (2 ^ j) (kp n) := by
  unfold kY
  rw [if_neg (by omega), if_pos (by omega)]
  match j, hj with
  | 0, _ => rw [if_pos (by simpa using hhi)]; try rfl
  | 1, _ =>
    have := hlo 0 (by omega)
    rw [if_neg (by simp at this; omega), if_pos (by simpa using hhi)]; try rfl
  | 2, _ =>
    have h0 := hlo 0 (by omega)
    have h1 := hlo 1 (by omega)
    rw [if_neg (by simp at h0; omega), if_neg (by simp at h1; omega), if_pos (by simpa using hhi)]; try rfl
  | 3, _ =>
    have h0 := hlo 0 (by omega)
    have h1 := hlo 1 (by omega)
    have h2 := hlo 2 (by omega)
    rw [if_neg (by simp at h0; omega), if_neg (by simp at h1; omega), if_neg (by simp at h2; omega)]; try rfl
theorem ziY {n : Int} {j : Nat} (hj : j ≤ 3) (h0 : n < -32) (hlo : ∀ i, i < j → n < -((256 ^ (2 ^ i) / 2 : Nat) : Int)) (hhi : j = 3 ∨ -((256 ^ (2 ^ j) / 2 : Nat) : Int) ≤ n) : kY n = UInt8.ofNat (208 + j) :: xH (2 ^ j) (kp n) := by
  unfold kY
  rw [if_neg (by omega), if_neg (by omega)]
  match j, hj with
  | 0, _ => rw [if_pos (by simpa using hhi)]; try rfl
  | 1, _ =>
    have := hlo 0 (by omega)
    rw [if_neg (by simp at this; omega), if_pos (by simpa using hhi)]; try rfl
  | 2, _ =>
    have h0 := hlo 0 (by omega)
    have h1 := hlo 1 (by omega)
    rw [if_neg (by simp at h0; omega), if_neg (by simp at h1; omega), if_pos (by simpa using hhi)]; try rfl
  | 3, _ =>
    have h0 := hlo 0 (by omega)
    have h1 := hlo 1 (by omega)
    have h2 := hlo 2 (by omega)
    rw [if_neg (by simp at h0; omega), if_neg (by simp at h1; omega), if_neg (by simp at h2; omega)]; try rfl
theorem zgU {j : Nat} (hj : j ≤ 3) : IntKind.u8.wrap (IntKind.i64.wrap (204 + (j : Int))) = ((UInt8.ofNat (204 + j)).toNat : Int) := by
  match j, hj with
  | 0, _ | 1, _ | 2, _ | 3, _ => decide
theorem zjL {j : Nat} (hj : j ≤ 3) : IntKind.u8.wrap (IntKind.i64.wrap (208 + (j : Int))) = ((UInt8.ofNat (208 + j)).toNat : Int) := by
  match j, hj with
  | 0, _ | 1, _ | 2, _ | 3, _ => decide
theorem zka {j : Nat} (hj : j ≤ 3) : 0 ≤ IntKind.i64.wrap (((8 * 2 ^ j : Nat) : Int) - 1) := by
  match j, hj with
  | 0, _ | 1, _ | 2, _ | 3, _ => decide
theorem zkL {j : Nat} (hj : j ≤ 3) (h : ((8 * 2 ^ j : Nat) : Int) = 64) : j = 3 := by
  match j, hj with
  | 0, _ | 1, _ | 2, _ => simp at h
  | 3, _ => rfl
set_option maxHeartbeats 8000000 in
theorem zg6 (es : List T) (hes : es.length ≤ 100000000) (n : Int) (h0 : -9223372036854775808 ≤ n) (h1 : n ≤ 9223372036854775807) : Spec Tryz.prog 160 [.row (.par 0), .t (.int .i64 n)] [(.par 0, .slt 5 1 es)] (.row (.res 0)) [(.res 0, .slt 5 1 (es ++ u8L (kY n)))] := by
  have hu : IntKind.u64.wrap n = ((kp n : Nat) : Int) := by
    unfold kp
    simp only [IntKind.wrap, IntKind.bits, IntKind.signed, Bool.false_and, Bool.false_eq_true, if_false]
    omega
  have hun : kp n < 18446744073709551616 := by unfold kp; omega
  by_cases hsm : -32 ≤ n ∧ n < 128
  · have e : kY n = [UInt8.ofNat (n % 256).toNat] := by unfold kY; rw [if_pos hsm]
    rw [e]
    refine wIG Tryz.func160 ?_
    repeat' (first | refine wC ?_ | refine wK ?_ | ((with_reducible refine zo ?_); refine zf rfl rfl rfl rfl rfl rfl rfl rfl rfl rfl ?_ ?_ ?_) | refine zh rfl ?_ ?_ <;> intro hc | refine zq rfl ?_ ?_ <;> intro hc)
    all_goals try (exfalso; omega)
    · simp; omega
    · simp; omega
    · refine zk ((za [4] [.loc 17] rfl rfl).trans (zd (.loc 17) (.res 0) rfl rfl rfl rfl)) ?_
      refine zE (zm (zt rfl (AVLE.refl _)) (zc ⟨?_, trivial⟩))
      have : IntKind.u8.wrap n = ((UInt8.ofNat (n % 256).toNat).toNat : Int) := by
        simp only [IntKind.wrap, IntKind.bits, IntKind.signed, Bool.false_and, Bool.false_eq_true, if_false]
        rw [UInt8.toNat_ofNat']; omega
      rw [this]; rfl
  · have hP : ∀ (X : T) (j : Nat), j ≤ 3 → Spec Tryz.prog 229 [.row (.par 0), .t (.int .u64 (IntKind.u64.wrap n)), .t (.int .i64 (IntKind.i64.wrap (1 * 2 ^ min (j : Int).toNat IntKind.i64.bits)))] [(.par 0, .slt 5 1 (es ++ [X]))] (.row (.res 0)) [(.res 0, .slt 5 1 ((es ++ [X]) ++ u8L (xH (2 ^ j) (kp n))))] := fun X j hj => by
      rw [ziX hj, hu]
      exact qg _ (by simp; omega) (kp n) hun (2 ^ j) (by match j, hj with | 0, _ | 1, _ | 2, _ | 3, _ => decide)
    by_cases hup : 128 ≤ n
    · refine wIG Tryz.func160 ?_
      repeat' (first | refine wC ?_ | refine wK ?_ | ((with_reducible refine zo ?_); refine zf rfl rfl rfl rfl rfl rfl rfl rfl rfl rfl ?_ ?_ ?_) | refine zh rfl ?_ ?_ <;> intro hc | refine zq rfl ?_ ?_ <;> intro hc)
      all_goals try (exfalso; omega)
      refine zi (za [0, 1, 18] [.par 0] rfl rfl) ?_
      refine zw (fun p env st => ∃ (j : Nat), j ≤ 3 ∧ p = 3 - j ∧ (∀ i, i < j → ((256 ^ (2 ^ i) : Nat) : Int) ≤ n) ∧
          env = EnvL.get [(0, .row (.par 0)), (1, .t (.int .i64 n)), (18, .t (.int .i64 (j : Int)))] ∧ st = StO.get [(.par 0, some (.slt 5 1 es))])
        ?_ (n := 3) ⟨0, by omega, rfl, fun i hi => by omega, rfl, rfl⟩
      rintro p env st ⟨j, hj, rfl, hlo, rfl, rfl⟩
      have hP := fun X => hP X j hj
      repeat' (first | refine wC ?_ | refine wK ?_ | ((with_reducible refine zO ?_); first | refine xB rfl rfl rfl rfl rfl rfl ?_ ?_ | refine zas rfl rfl rfl rfl rfl rfl ?_ ?_) | ((with_reducible refine zo ?_); refine zf rfl rfl rfl rfl rfl rfl rfl rfl rfl rfl ?_ ?_ ?_) | ((with_reducible refine ze ?_); refine wN (.row (.loc 901)) [(.par 0, .loc 41), (.res 0, .loc 901)] (hP _) ?_) | refine zh rfl ?_ ?_ <;> intro hc | refine zq rfl ?_ ?_ <;> intro hc)
      all_goals try omega
      all_goals try simp only [sh8 hj] at *
      all_goals try omega
      all_goals try (simp only [List.length_cons, List.length_nil]; omega)
      · have hj3 := zkL hj hc
        refine zk ((za [4] [.loc 901] rfl rfl).trans (zd (.loc 901) (.res 0) rfl rfl rfl rfl)) ?_
        refine zE (zm (zt rfl (AVLE.refl _)) (zc ⟨?_, trivial⟩))
        rw [zgX hj hup hlo (.inl hj3), zgU hj, List.append_assoc]; rfl
      · refine zk ((za [4] [.loc 901] rfl rfl).trans (zd (.loc 901) (.res 0) rfl rfl rfl rfl)) ?_
        refine zE (zm (zt rfl (AVLE.refl _)) (zc ⟨?_, trivial⟩))
        rw [zgX hj hup hlo (.inr ((zgc hj (by omega)).1 hc)), zgU hj, List.append_assoc]; rfl
      · have hnz : ¬ n < ((256 ^ (2 ^ j) : Nat) : Int) := fun h => absurd ((zgc hj (by omega)).2 h) ‹_›
        have hj2 : j ≤ 2 := by
          have : ¬ ((8 * 2 ^ j : Nat) : Int) = 64 := ‹_›
          have : j ≠ 3 := fun e => this (by rw [e]; rfl)
          omega
        refine zM (n' := 3 - (j + 1)) (by omega) (za [0, 1, 18] [.par 0] rfl rfl) ⟨j + 1, by omega, rfl, fun i hi => ?_, by rw [zy (by omega) (by omega)]; rfl, rfl⟩
        rcases Nat.lt_or_ge i j with h | h
        · exact hlo i h
        · obtain rfl : i = j := by omega
          omega
    · refine wIG Tryz.func160 ?_
      repeat' (first | refine wC ?_ | refine wK ?_ | ((with_reducible refine zo ?_); refine zf rfl rfl rfl rfl rfl rfl rfl rfl rfl rfl ?_ ?_ ?_) | refine zh rfl ?_ ?_ <;> intro hc | refine zq rfl ?_ ?_ <;> intro hc)
      all_goals try (exfalso; omega)
      refine zi (za [0, 1, 18] [.par 0] rfl rfl) ?_
      refine zw (fun p env st => ∃ (j : Nat), j ≤ 3 ∧ p = 3 - j ∧ (∀ i, i < j → n < -((256 ^ (2 ^ i) / 2 : Nat) : Int)) ∧
          env = EnvL.get [(0, .row (.par 0)), (1, .t (.int .i64 n)), (18, .t (.int .i64 (j : Int)))] ∧ st = StO.get [(.par 0, some (.slt 5 1 es))])
        ?_ (n := 3) ⟨0, by omega, rfl, fun i hi => by omega, rfl, rfl⟩
      rintro p env st ⟨j, hj, rfl, hlo, rfl, rfl⟩
      have hP := fun X => hP X j hj
      repeat' (first | refine wC ?_ | refine wK ?_ | ((with_reducible refine zO ?_); first | refine xB rfl rfl rfl rfl rfl rfl ?_ ?_ | refine zas rfl rfl rfl rfl rfl rfl ?_ ?_) | ((with_reducible refine zo ?_); refine zf rfl rfl rfl rfl rfl rfl rfl rfl rfl rfl ?_ ?_ ?_) | ((with_reducible refine ze ?_); refine wN (.row (.loc 902)) [(.par 0, .loc 62), (.res 0, .loc 902)] (hP _) ?_) | refine zh rfl ?_ ?_ <;> intro hc | refine zq rfl ?_ ?_ <;> intro hc)
      all_goals try simp only [sh8 hj] at *
      all_goals try (exfalso; omega)
      all_goals try (simp only [List.length_cons, List.length_nil]; omega)
      all_goals try (exact zka hj)
      all_goals try omega
      · refine zk ((za [4] [.loc 902] rfl rfl).trans (zd (.loc 902) (.res 0) rfl rfl rfl rfl)) ?_
        refine zE (zm (zt rfl (AVLE.refl _)) (zc ⟨?_, trivial⟩))
        rw [ziY hj (by omega) hlo (.inr ((ziJ hj (by omega)).1 hc)), zjL hj, List.append_assoc]; rfl
      · have hnz : ¬ -((256 ^ (2 ^ j) / 2 : Nat) : Int) ≤ n := fun h => hc ((ziJ hj (by omega)).2 h)
        have hj2 : j ≤ 2 := by
          have : j ≠ 3 := fun e => hnz (by rw [e]; simp; omega)
          omega
        refine zM (n' := 3 - (j + 1)) (by omega) (za [0, 1, 18] [.par 0] rfl rfl) ⟨j + 1, by omega, rfl, fun i hi => ?_, by rw [zy (by omega) (by omega)]; rfl, rfl⟩
        rcases Nat.lt_or_ge i j with h | h
        · exact hlo i h
        · obtain rfl : i = j := by omega
          omega
set_option maxHeartbeats 8000000 in
theorem zeY (es : List T) (hes : es.length ≤ 100000000) (few many n : Nat) (hf : few < 240) (hm : many < 256) (hn : n < 65536) : Spec Tryz.prog 162 [.row (.par 0), .t (.int .u8 (few : Int)), .t (.int .u8 (many : Int)), .t (.int .i64 (n : Int))] [(.par 0, .slt 5 1 es)] (.row (.res 0)) [(.res 0, .slt 5 1 (es ++ u8L (pCn few many n)))] := by
  have hP : ∀ X : T, Spec Tryz.prog 229 [.row (.par 0), .t (.int .u64 (IntKind.u64.wrap (n : Int))), .t (.int .i64 2)] [(.par 0, .slt 5 1 (es ++ [X]))] (.row (.res 0)) [(.res 0, .slt 5 1 ((es ++ [X]) ++ u8L (xH 2 n)))] := fun X => by
    rw [yX (by omega) (by omega)]
    exact qg _ (by simp; omega) n (by omega) 2 (by omega)
  unfold pCn
  by_cases h : n < 16
  · rw [if_pos h]
    refine wIG Tryz.func162 ?_
    repeat' (first | refine wC ?_ | refine wK ?_ | ((with_reducible refine zo ?_); refine zf rfl rfl rfl rfl rfl rfl rfl rfl rfl rfl ?_ ?_ ?_) | refine zh rfl ?_ ?_ <;> intro hc)
    all_goals try (exfalso; omega)
    all_goals try (simp only [List.length_cons, List.length_nil]; omega)
    refine zk ((za [8] [.loc 17] rfl rfl).trans (zd (.loc 17) (.res 0) rfl rfl rfl rfl)) ?_
    refine zE (zm (zt rfl (AVLE.refl _)) (zc ⟨?_, trivial⟩))
    have : IntKind.u8.wrap ((few : Int) + IntKind.u8.wrap (n : Int)) = ((UInt8.ofNat (few + n)).toNat : Int) := by
      rw [xx (n := (n : Int)) (by omega) (by omega), xx (by omega) (by omega), UInt8.toNat_ofNat']; omega
    rw [this]; rfl
  · rw [if_neg h]
    refine wIG Tryz.func162 ?_
    repeat' (first | refine wC ?_ | refine wK ?_ | ((with_reducible refine zo ?_); refine zf rfl rfl rfl rfl rfl rfl rfl rfl rfl rfl ?_ ?_ ?_) | ((with_reducible refine ze ?_); refine wN (.row (.loc 901)) [(.par 0, .loc 21), (.res 0, .loc 901)] (hP _) ?_) | refine zh rfl ?_ ?_ <;> intro hc)
    all_goals try (exfalso; omega)
    all_goals try (simp only [List.length_cons, List.length_nil]; omega)
    refine zk ((za [8] [.loc 901] rfl rfl).trans (zd (.loc 901) (.res 0) rfl rfl rfl rfl)) ?_
    refine zE (zm (zt rfl (AVLE.refl _)) (zc ⟨?_, trivial⟩))
    have : (many : Int) = ((UInt8.ofNat many).toNat : Int) := by rw [UInt8.toNat_ofNat']; omega
    rw [this, List.append_assoc]; rfl
set_option maxHeartbeats 8000000 in
theorem zeL (es : List T) (hes : es.length ≤ 100000000) (s : ByteArray) (hs : s.size ≤ 1000000) : Spec Tryz.prog 161 [.row (.par 0), .t (.str s)] [(.par 0, .slt 5 1 es)] (.row (.res 0)) [(.res 0, .slt 5 1 (es ++ u8L (pTx s)))] := by
  obtain ⟨z, hz⟩ : ∃ z, (s.size : Int) = z := ⟨_, rfl⟩
  have hP : ∀ (X : T) (k : Nat), k ≤ 8 → Spec Tryz.prog 229 [.row (.par 0), .t (.int .u64 (IntKind.u64.wrap z)), .t (.int .i64 (k : Int))] [(.par 0, .slt 5 1 (es ++ [X]))] (.row (.res 0)) [(.res 0, .slt 5 1 ((es ++ [X]) ++ u8L (xH k s.size)))] := fun X k hk => by
    rw [yX (by omega) (by omega), ← hz]
    exact qg _ (by simp; omega) s.size (by omega) k hk
  have hP1 := fun X => hP X 1 (by omega)
  have hP2 := fun X => hP X 2 (by omega)
  have hP4 := fun X => hP X 4 (by omega)
  have hb : (yo s).length = s.size := by unfold yo; rw [List.length_map]; exact yq s
  have hl := yq s
  have e0 : yo s = u8L s.data.toList := rfl
  unfold pTx pTh
  by_cases h32 : s.size < 32
  · rw [if_pos h32]
    refine wIG Tryz.func161 ?_
    repeat' (first | refine wC ?_ | refine wH hz rfl rfl rfl rfl rfl ?_ | refine wK ?_ | ((with_reducible refine zo ?_); first | refine zf rfl rfl rfl rfl rfl rfl rfl rfl rfl rfl ?_ ?_ ?_ | refine zX rfl rfl rfl rfl rfl rfl rfl rfl rfl ?_ ?_ ?_) | refine zh rfl ?_ ?_ <;> intro hc)
    all_goals try (exfalso; omega)
    all_goals try (simp only [List.length_append, List.length_cons, List.length_nil, hb]; omega)
    refine zk ((za [4] [.loc 43] rfl rfl).trans (zd (.loc 43) (.res 0) rfl rfl rfl rfl)) ?_
    refine zE (zm (zt rfl (AVLE.refl _)) (zc ⟨?_, trivial⟩))
    have : IntKind.u8.wrap (IntKind.i64.wrap (160 + z)) = ((UInt8.ofNat (160 + s.size)).toNat : Int) := by
      rw [zy (by omega) (by omega), xx (by omega) (by omega), UInt8.toNat_ofNat']; omega
    rw [this, e0, zz, ← List.append_assoc]; rfl
  · rw [if_neg h32]
    by_cases h256 : s.size < 256
    · rw [if_pos h256]
      refine wIG Tryz.func161 ?_
      repeat' (first | refine wC ?_ | refine wH hz rfl rfl rfl rfl rfl ?_ | refine wK ?_ | ((with_reducible refine zo ?_); first | refine zf rfl rfl rfl rfl rfl rfl rfl rfl rfl rfl ?_ ?_ ?_ | refine zX rfl rfl rfl rfl rfl rfl rfl rfl rfl ?_ ?_ ?_) | ((with_reducible refine ze ?_); refine wN (.row (.loc 901)) [(.par 0, .loc 28), (.res 0, .loc 901)] (hP1 _) ?_) | refine zh rfl ?_ ?_ <;> intro hc)
      all_goals try (exfalso; omega)
      all_goals try (simp only [List.length_append, List.length_cons, List.length_nil, zK, zP, hb]; omega)
      refine zk ((za [4] [.loc 43] rfl rfl).trans (zd (.loc 43) (.res 0) rfl rfl rfl rfl)) ?_
      refine zE (zm (zt rfl (AVLE.refl _)) (zc ⟨?_, trivial⟩))
      rw [e0, zz, ← List.append_assoc, List.append_assoc es]; rfl
    · rw [if_neg h256]
      by_cases h64 : s.size < 65536
      · rw [if_pos h64]
        refine wIG Tryz.func161 ?_
        repeat' (first | refine wC ?_ | refine wH hz rfl rfl rfl rfl rfl ?_ | refine wK ?_ | ((with_reducible refine zo ?_); first | refine zf rfl rfl rfl rfl rfl rfl rfl rfl rfl rfl ?_ ?_ ?_ | refine zX rfl rfl rfl rfl rfl rfl rfl rfl rfl ?_ ?_ ?_) | ((with_reducible refine ze ?_); refine wN (.row (.loc 901)) [(.par 0, .loc 37), (.res 0, .loc 901)] (hP2 _) ?_) | refine zh rfl ?_ ?_ <;> intro hc)
        all_goals try (exfalso; omega)
        all_goals try (simp only [List.length_append, List.length_cons, List.length_nil, zK, zP, hb]; omega)
        refine zk ((za [4] [.loc 43] rfl rfl).trans (zd (.loc 43) (.res 0) rfl rfl rfl rfl)) ?_
        refine zE (zm (zt rfl (AVLE.refl _)) (zc ⟨?_, trivial⟩))
        rw [e0, zz, ← List.append_assoc, List.append_assoc es]; rfl
      · rw [if_neg h64]
        refine wIG Tryz.func161 ?_
        repeat' (first | refine wC ?_ | refine wH hz rfl rfl rfl rfl rfl ?_ | refine wK ?_ | ((with_reducible refine zo ?_); first | refine zf rfl rfl rfl rfl rfl rfl rfl rfl rfl rfl ?_ ?_ ?_ | refine zX rfl rfl rfl rfl rfl rfl rfl rfl rfl ?_ ?_ ?_) | ((with_reducible refine ze ?_); refine wN (.row (.loc 901)) [(.par 0, .loc 10), (.res 0, .loc 901)] (hP4 _) ?_) | refine zh rfl ?_ ?_ <;> intro hc)
        all_goals try (exfalso; omega)
        all_goals try (simp only [List.length_append, List.length_cons, List.length_nil, zK, zP, hb]; omega)
        refine zk ((za [4] [.loc 43] rfl rfl).trans (zd (.loc 43) (.res 0) rfl rfl rfl rfl)) ?_
        refine zE (zm (zt rfl (AVLE.refl _)) (zc ⟨?_, trivial⟩))
        rw [e0, zz, ← List.append_assoc, List.append_assoc es]; rfl
def qZ (k : Int) (ns : List ByteArray) (is : List Nd) (i : Nat) : List UInt8 := if k = 5 then Nd.pbm (ns.take i) (is.take i) else Nd.pbs (is.take i)
theorem zav : ∀ (a b : List Nd), Nd.pbs (a ++ b) = Nd.pbs a ++ Nd.pbs b
  | [], b => rfl
  | x :: a, b => by simp [Nd.pbs, zav a b]
theorem zaI : ∀ (a : List ByteArray) (b : List Nd) (s : ByteArray) (x : Nd), a.length = b.length → Nd.pbm (a ++ [s]) (b ++ [x]) = Nd.pbm a b ++ (pTx s ++ x.pb)
  | [], [], s, x, _ => by simp [Nd.pbm]
  | n :: a, y :: b, s, x, h => by simp [Nd.pbm, zaI a b s x (by simpa using h), List.append_assoc]
  | [], _ :: _, _, _, h => by simp at h
  | _ :: _, [], _, _, h => by simp at h
theorem k9 {k : Int} {ns : List ByteArray} {is : List Nd} {i : Nat} (hk : k ≠ 5) (hi : i < is.length) : qZ k ns is (i + 1) = qZ k ns is i ++ (is.getD i default).pb := by
  have e : is.take (i + 1) = is.take i ++ [is.getD i default] := by
    rw [List.take_add_one, List.getElem?_eq_getElem hi]; simp [List.getD_eq_getElem?_getD, hi]
  simp only [qZ, if_neg hk, e, zav, Nd.pbs, List.append_nil]
theorem zbr {ns : List ByteArray} {is : List Nd} {i : Nat} (hl : ns.length = is.length) (hi : i < is.length) : qZ 5 ns is (i + 1) = qZ 5 ns is i ++ (pTx (ns.getD i default) ++ (is.getD i default).pb) := by
  have e : is.take (i + 1) = is.take i ++ [is.getD i default] := by
    rw [List.take_add_one, List.getElem?_eq_getElem hi]; simp [List.getD_eq_getElem?_getD, hi]
  have e2 : ns.take (i + 1) = ns.take i ++ [ns.getD i default] := by
    rw [List.take_add_one, List.getElem?_eq_getElem (by omega)]; simp [List.getD_eq_getElem?_getD, show i < ns.length by omega]
  simp only [qZ, if_true, e, e2]
  exact zaI _ _ _ _ (by simp; omega)
theorem zcW {k : Int} {ns : List ByteArray} {is : List Nd} (hk : k = 5 → ns.length = is.length) {i j : Nat} (hij : i ≤ j) (hj : j ≤ is.length) : (qZ k ns is i).length ≤ (qZ k ns is j).length := by
  induction j with
  | zero => rw [show i = 0 by omega]; exact Nat.le_refl _
  | succ j ih =>
    rcases Nat.lt_or_ge i (j + 1) with h | h
    · refine Nat.le_trans (ih (by omega) (by omega)) ?_
      by_cases h5 : k = 5
      · subst h5
        rw [zbr (hk rfl) (by omega), List.length_append]; omega
      · rw [k9 h5 (by omega), List.length_append]; omega
    · rw [show i = j + 1 by omega]; exact Nat.le_refl _
def zjr (k : Int) : Nat := if k = 4 then 144 else 128
def zdZ (k : Int) : Nat := if k = 4 then 220 else 222
set_option maxHeartbeats 8000000 in
theorem ziq (k : Int) (hk45 : k = 4 ∨ k = 5) (b : Bool) (n : Int) (t : ByteArray) (ns : List ByteArray) (is : List Nd) (hlen : is.length ≤ 256) (hk : k = 5 → ns.length = is.length)
    (hns : ∀ s ∈ ns, s.size ≤ 65536) (es : List T) (hb : es.length + (pCn (zjr k) (zdZ k) is.length).length + (qZ k ns is is.length).length ≤ 50000000)
    (IH : ∀ i, i < is.length → ∀ es' : List T, es'.length + (is.getD i default).pb.length ≤ 50000000 → Spec Tryz.prog 100 [.row (.par 0), .t (is.getD i default).toT] [(.par 0, .slt 5 1 es')] (.row (.res 0)) [(.res 0, .slt 5 1 (es' ++ u8L (is.getD i default).pb))]) :
    Spec Tryz.prog 100 [.row (.par 0), .t (.agg [.int .i64 k, .bool b, .int .i64 n, .str t, .sl 1 (ns.map .str), .sl 6 (is.map Nd.toT)])] [(.par 0, .slt 5 1 es)] (.row (.res 0)) [(.res 0, .slt 5 1 (es ++ u8L (pCn (zjr k) (zdZ k) is.length) ++ u8L (qZ k ns is is.length)))] := by
  have hI := za5 k b n t ns is
  have hH4 := zeY es (by omega) 144 220 is.length (by omega) (by omega) (by omega)
  have hH5 := zeY es (by omega) 128 222 is.length (by omega) (by omega) (by omega)
  obtain rfl | rfl := hk45
  · rw [show zjr 4 = 144 from rfl, show zdZ 4 = 220 from rfl] at hb ⊢
    refine wIG Tryz.func100 ?_
    repeat' (first | refine wC ?_ | refine wK ?_ | ((with_reducible refine ze ?_); first | refine wN (.row (.loc 903)) [(.res 0, .loc 903)] hH4 ?_ | refine wN (.fn 230 [.ref (.loc 904) 0 0 0]) [(.res 0, .loc 904)] hI ?_))
    refine zi ((za [2, 3, 49] [.loc 2, .loc 3, .loc 903, .loc 904] rfl rfl).trans ((qx 3 (.loc 3) [.int .i64 4, .bool b, .int .i64 n, .str t, .sl 1 (ns.map .str), .sl 6 (is.map Nd.toT)] rfl rfl rfl rfl rfl).trans (qv 49 (.loc 904) [.int .i64 4, .bool b, .int .i64 n, .str t, .sl 1 (ns.map .str), .sl 6 (is.map Nd.toT)] rfl rfl rfl rfl rfl))) ?_
    refine yV (.par 50) (.loc 905) [(.par 50, .loc 905), (.par 10, .loc 2), (.par 11, .loc 903), (.res 0, .loc 906)] rfl (fun fn B => wJ 4 b n t ns is (by omega) hk ⟨62, fn, #[50, 51], _, _, B⟩ 2 3 (.agg [.int .i64 4, .bool b, .int .i64 n, .str t, .sl 1 (ns.map .str), .sl 6 (is.map Nd.toT)]) (fun i => es ++ u8L (pCn 144 220 is.length) ++ u8L (qZ 4 ns is i)) ?_) (fun _ _ => rfl) rfl rfl rfl (ArgsLE.refl _) ⟨AVLE.refl _, AVLE.refl _, trivial⟩ rfl rfl ⟨rfl, ?_, trivial⟩ rfl rfl rfl rfl rfl rfl ?_
    rotate_left
    · have e0 : u8L (qZ 4 ns is 0) = [] := by simp [qZ, Nd.pbs, u8L]
      rw [e0, List.append_nil]; rfl
    · repeat' (first | refine wC ?_ | refine wK ?_ | fail)
      refine zk ((za [4] [.loc 906] rfl rfl).trans (zd (.loc 906) (.res 0) rfl rfl rfl rfl)) ?_
      exact zE (zm (zt rfl (AVLE.of_eq rfl)) (zc ⟨rfl, trivial⟩))
    intro i hi
    have hle : (qZ 4 ns is (i + 1)).length ≤ (qZ 4 ns is is.length).length := zcW hk (by omega) (by omega)
    have hP := IH i hi (es ++ u8L (pCn 144 220 is.length) ++ u8L (qZ 4 ns is i)) (by
      rw [k9 (by decide) hi, List.length_append] at hle
      simp only [List.length_append, zK]; omega)
    have hT := (is.getD i default).toT_full
    rw [hT] at hP ⊢
    rw [k9 (by decide) hi, zz, ← List.append_assoc]
    generalize es ++ u8L (pCn 144 220 is.length) ++ u8L (qZ 4 ns is i) = xs at hP ⊢
    refine xZ rfl rfl rfl rfl rfl ?_
    repeat' (first | refine wC ?_ | refine wK ?_ | ((with_reducible refine ze ?_); refine wN (.row (.loc 907)) [(.par 0, .par 11), (.res 0, .loc 907)] hP ?_))
    refine zk ((za [] [.par 10, .loc 907] rfl rfl).trans (zd (.loc 907) (.res 0) rfl rfl rfl rfl)) ?_
    exact zb4 ⟨rfl, rfl, trivial⟩
  · rw [show zjr 5 = 128 from rfl, show zdZ 5 = 222 from rfl] at hb ⊢
    refine wIG Tryz.func100 ?_
    repeat' (first | refine wC ?_ | refine wK ?_ | ((with_reducible refine ze ?_); first | refine wN (.row (.loc 903)) [(.res 0, .loc 903)] hH5 ?_ | refine wN (.fn 230 [.ref (.loc 904) 0 0 0]) [(.res 0, .loc 904)] hI ?_))
    refine zi ((za [2, 3, 49] [.loc 2, .loc 3, .loc 903, .loc 904] rfl rfl).trans ((qx 3 (.loc 3) [.int .i64 5, .bool b, .int .i64 n, .str t, .sl 1 (ns.map .str), .sl 6 (is.map Nd.toT)] rfl rfl rfl rfl rfl).trans (qv 49 (.loc 904) [.int .i64 5, .bool b, .int .i64 n, .str t, .sl 1 (ns.map .str), .sl 6 (is.map Nd.toT)] rfl rfl rfl rfl rfl))) ?_
    refine yV (.par 50) (.loc 905) [(.par 50, .loc 905), (.par 10, .loc 2), (.par 11, .loc 903), (.res 0, .loc 906)] rfl (fun fn B => wJ 5 b n t ns is (by omega) hk ⟨62, fn, #[50, 51], _, _, B⟩ 2 3 (.agg [.int .i64 5, .bool b, .int .i64 n, .str t, .sl 1 (ns.map .str), .sl 6 (is.map Nd.toT)]) (fun i => es ++ u8L (pCn 128 222 is.length) ++ u8L (qZ 5 ns is i)) ?_) (fun _ _ => rfl) rfl rfl rfl (ArgsLE.refl _) ⟨AVLE.refl _, AVLE.refl _, trivial⟩ rfl rfl ⟨rfl, ?_, trivial⟩ rfl rfl rfl rfl rfl rfl ?_
    rotate_left
    · have e0 : u8L (qZ 5 ns is 0) = [] := by simp [qZ, Nd.pbm, u8L]
      rw [e0, List.append_nil]; rfl
    · repeat' (first | refine wC ?_ | refine wK ?_ | fail)
      refine zk ((za [4] [.loc 906] rfl rfl).trans (zd (.loc 906) (.res 0) rfl rfl rfl rfl)) ?_
      exact zE (zm (zt rfl (AVLE.of_eq rfl)) (zc ⟨rfl, trivial⟩))
    intro i hi
    have hle : (qZ 5 ns is (i + 1)).length ≤ (qZ 5 ns is is.length).length := zcW hk (by omega) (by omega)
    have hl5 := hk rfl
    have hsz : (ns.getD i default).size ≤ 65536 := hns _ (by rw [List.getD_eq_getElem?_getD, List.getElem?_eq_getElem (by omega)]; simp)
    have hnm : qo 5 ns i = ns.getD i default := by simp [qo]
    rw [hnm]
    rw [zbr hl5 hi, List.length_append, List.length_append] at hle
    rw [zbr hl5 hi, zz, zz, ← List.append_assoc, ← List.append_assoc]
    have hxs : (es ++ u8L (pCn 128 222 is.length) ++ u8L (qZ 5 ns is i)).length + (pTx (ns.getD i default)).length + (is.getD i default).pb.length ≤ 50000000 := by
      simp only [List.length_append, zK]; omega
    have hP := IH i hi
    have hT := (is.getD i default).toT_full
    rw [hT] at hP ⊢
    generalize es ++ u8L (pCn 128 222 is.length) ++ u8L (qZ 5 ns is i) = xs at hP hxs ⊢
    generalize ns.getD i default = s at hsz hxs ⊢
    have hH3 := zeL xs (by omega) s (by omega)
    have hP2 := hP (xs ++ u8L (pTx s)) (by simp only [List.length_append, zK]; omega)
    refine xZ rfl rfl rfl rfl rfl ?_
    repeat' (first | refine wC ?_ | refine wK ?_ | ((with_reducible refine ze ?_); first | refine wN (.row (.loc 908)) [(.par 0, .par 11), (.res 0, .loc 908)] hH3 ?_ | refine wN (.row (.loc 907)) [(.par 0, .loc 908), (.res 0, .loc 907)] hP2 ?_))
    refine zk ((za [] [.par 10, .loc 907] rfl rfl).trans (zd (.loc 907) (.res 0) rfl rfl rfl rfl)) ?_
    exact zb4 ⟨rfl, rfl, trivial⟩
set_option maxHeartbeats 8000000 in
theorem zcL {V : ByteArray → Bool} : ∀ (x : Nd) (e : Int), x.validB V e = true → x.In → ∀ es : List T, es.length + x.pb.length ≤ 50000000 →
    Spec Tryz.prog 100 [.row (.par 0), .t x.toT] [(.par 0, .slt 5 1 es)] (.row (.res 0)) [(.res 0, .slt 5 1 (es ++ u8L x.pb))]
  | .mk k b n t ns is, e, hv, hin, es, hb => by
    rw [yz] at hv
    obtain ⟨h1, h2, h3, h4, h5, h6, h7, h8⟩ := hv
    cases hin with
    | mk i1 i2 i3 =>
    rw [Nd.toT_eq]
    have hk : k = 0 ∨ k = 1 ∨ k = 2 ∨ k = 3 ∨ (k = 4 ∨ k = 5) := by omega
    rcases hk with rfl | rfl | rfl | rfl | hk
    · have ec : (Nd.mk 0 b n t ns is).pb = [UInt8.ofNat 192] := by simp [Nd.pb]
      rw [ec]
      refine wIG Tryz.func100 ?_
      repeat' (first | refine wC ?_ | refine wK ?_ | ((with_reducible refine zo ?_); refine zf rfl rfl rfl rfl rfl rfl rfl rfl rfl rfl ?_ ?_ ?_))
      all_goals try (simp only [List.length_cons, List.length_nil]; omega)
      refine zk ((za [4] [.loc 18] rfl rfl).trans (zd (.loc 18) (.res 0) rfl rfl rfl rfl)) ?_
      exact zE (zm (zt rfl (AVLE.of_eq rfl)) (zc ⟨rfl, trivial⟩))
    · cases b with
      | true =>
        have ec : (Nd.mk 1 true n t ns is).pb = [UInt8.ofNat 195] := by simp [Nd.pb]
        rw [ec]
        refine wIG Tryz.func100 ?_
        repeat' (first | refine wC ?_ | refine wK ?_ | ((with_reducible refine zo ?_); refine zf rfl rfl rfl rfl rfl rfl rfl rfl rfl rfl ?_ ?_ ?_))
        all_goals try (simp only [List.length_cons, List.length_nil]; omega)
        refine zk ((za [4] [.loc 25] rfl rfl).trans (zd (.loc 25) (.res 0) rfl rfl rfl rfl)) ?_
        exact zE (zm (zt rfl (AVLE.of_eq rfl)) (zc ⟨rfl, trivial⟩))
      | false =>
        have ec : (Nd.mk 1 false n t ns is).pb = [UInt8.ofNat 194] := by simp [Nd.pb]
        rw [ec]
        refine wIG Tryz.func100 ?_
        repeat' (first | refine wC ?_ | refine wK ?_ | ((with_reducible refine zo ?_); refine zf rfl rfl rfl rfl rfl rfl rfl rfl rfl rfl ?_ ?_ ?_))
        all_goals try (simp only [List.length_cons, List.length_nil]; omega)
        refine zk ((za [4] [.loc 28] rfl rfl).trans (zd (.loc 28) (.res 0) rfl rfl rfl rfl)) ?_
        exact zE (zm (zt rfl (AVLE.of_eq rfl)) (zc ⟨rfl, trivial⟩))
    · have ec : (Nd.mk 2 b n t ns is).pb = kY n := by simp [Nd.pb]
      have hN := zg6 es (by omega) n i1 i2
      rw [ec]
      refine wIG Tryz.func100 ?_
      repeat' (first | refine wC ?_ | refine wK ?_ | ((with_reducible refine ze ?_); refine wN (.row (.loc 903)) [(.res 0, .loc 903)] hN ?_))
      refine zk ((za [4] [.loc 903] rfl rfl).trans (zd (.loc 903) (.res 0) rfl rfl rfl rfl)) ?_
      exact zE (zm (zt rfl (AVLE.of_eq rfl)) (zc ⟨rfl, trivial⟩))
    · have ec : (Nd.mk 3 b n t ns is).pb = pTx t := by simp [Nd.pb]
      have ht : t.size ≤ 65536 := by
        simp only [yG, Bool.and_eq_true, decide_eq_true_eq] at h5; omega
      have hN := zeL es (by omega) t (by omega)
      rw [ec]
      refine wIG Tryz.func100 ?_
      repeat' (first | refine wC ?_ | refine wK ?_ | ((with_reducible refine ze ?_); refine wN (.row (.loc 903)) [(.res 0, .loc 903)] hN ?_))
      refine zk ((za [4] [.loc 903] rfl rfl).trans (zd (.loc 903) (.res 0) rfl rfl rfl rfl)) ?_
      exact zE (zm (zt rfl (AVLE.of_eq rfl)) (zc ⟨rfl, trivial⟩))
    · have ec : (Nd.mk k b n t ns is).pb = pCn (zjr k) (zdZ k) is.length ++ qZ k ns is is.length := by
        have e1 : is.take is.length = is := List.take_length
        rcases hk with rfl | rfl
        · simp [Nd.pb, qZ, zjr, zdZ]
        · have e2 : ns.take is.length = ns := by rw [← (h7 rfl).2]; exact List.take_length
          simp [Nd.pb, qZ, e2, zjr, zdZ]
      rw [ec] at hb ⊢
      rw [zz, ← List.append_assoc]
      rw [List.length_append] at hb
      have hl : k = 5 → ns.length = is.length := fun h => by have := (h7 h).2; omega
      refine ziq k hk b n t ns is (by omega) hl (fun s hs => ?_) es (by omega) fun i hi es' hb' => ?_
      · by_cases h : k = 5
        · have := ((yZ (yG V) ns []).1 (h7 h).1).2 s hs
          have := this.2
          simp only [yG, Bool.and_eq_true, decide_eq_true_eq] at this; omega
        · have hz : ns.length = 0 := by
            simp only [Nd.fieldsOK, Bool.and_eq_true, Bool.or_eq_true, decide_eq_true_eq] at h4
            have := h4.2; omega
          rw [List.eq_nil_of_length_eq_zero hz] at hs; cases hs
      · have hm : is.getD i default ∈ is := by rw [List.getD_eq_getElem?_getD, List.getElem?_eq_getElem hi]; exact List.getElem_mem _
        exact zcL (is.getD i default) (e - 1) (h8 _ hm) (i3 _ hm) es' hb'
termination_by x => SizeOf.sizeOf x
decreasing_by
  have := List.sizeOf_lt_of_mem hm
  simp only [Nd.mk.sizeOf_spec]
  omega
set_option maxHeartbeats 4000000 in
theorem qA {oF oA : Obj} {V : ByteArray → Bool} (hS : vm oF oA V) (x : Nd) (hx : x.Ok) (hin : x.In) (hsz : x.validB V 8 = true → x.pb.length ≤ 49999999) : Spec Tryz.prog 50 [.t x.toT] [(.par 100, .dat (.fix 0 oF)), (.par 101, .dat (.fix 1 oA))] (.tup [.t (.str (zb7 pkC V x).1), .t (.int .i64 (zb7 pkC V x).2)]) [(.par 100, .dat (.fix 0 oF)), (.par 101, .dat (.fix 1 oA))] := by
  have hC : Spec Tryz.prog 99 [.t x.toT, .t (.fn 100)] [(.par 100, .dat (.fix 0 oF)), (.par 101, .dat (.fix 1 oA))] (.tup [.t (.str (zb7 pkC V x).1), .t (.int .i64 (zb7 pkC V x).2)]) [(.par 100, .dat (.fix 0 oF)), (.par 101, .dat (.fix 1 oA))] := by
    have hV := wm hS x hx
    have hT := x.toT_full
    unfold zb7
    show Spec _ _ _ _ (.tup [.t (.str (if x.validB V 8 = true then (if 65536 < x.pb.length then (eS, (3 : Int)) else (ofL x.pb, 0)) else (eS, 1)).1), .t (.int .i64 (if x.validB V 8 = true then (if 65536 < x.pb.length then (eS, (3 : Int)) else (ofL x.pb, 0)) else (eS, 1)).2)]) _
    cases hv : x.validB V 8 with
    | false =>
      rw [hv] at hV
      rw [hT] at hV ⊢
      refine wI Tryz.func99 ?_
      repeat' (first | refine wC ?_ | refine wK ?_ | ((with_reducible refine ze ?_); refine wN (.t (.bool false)) [] hV ?_))
      exact zm (zI rfl rfl rfl rfl rfl) (zc ⟨rfl, rfl, trivial⟩)
    | true =>
      have hP := Spec.nilArg (zcL x 8 hv hin [] (by have := hsz hv; simp; omega)) rfl rfl rfl
      rw [List.nil_append] at hP
      rw [hv] at hV
      rw [hT] at hV hP ⊢
      have hlen : (u8L x.pb).length = x.pb.length := zK _
      have hsz' := hsz hv
      refine wI Tryz.func99 ?_
      repeat' (first | refine wC ?_ | refine wK ?_ | ((with_reducible refine yP ?_); refine yf rfl rfl rfl rfl rfl rfl ?_ ?_) | ((with_reducible refine ze ?_); first | refine wN (.t (.bool true)) [] hV ?_ | refine wN (.row (.loc 903)) [(.res 0, .loc 903)] hP ?_) | refine zh rfl ?_ ?_ <;> intro hc)
      · exact zm (zI rfl rfl rfl (by rw [if_pos rfl, if_pos (by omega)]; rfl) (by rw [if_pos rfl, if_pos (by omega)])) (zc ⟨rfl, rfl, trivial⟩)
      · exact k7 _
      · exact zm (zI rfl rfl rfl (by rw [if_pos rfl, if_neg (by omega), kT]) (by rw [if_pos rfl, if_neg (by omega)])) (zc ⟨rfl, rfl, trivial⟩)
  generalize (zb7 pkC V x).1 = s1 at hC ⊢
  generalize (zb7 pkC V x).2 = s2 at hC ⊢
  have hT := x.toT_full
  rw [hT] at hC ⊢
  refine wI Tryz.func50 ?_
  repeat' (first | refine wC ?_ | refine wK ?_ | ((with_reducible refine ze ?_); refine wN (.tup [.t (.str s1), .t (.int .i64 s2)]) [] hC ?_))
  exact zm (zI rfl rfl rfl rfl rfl) (zc ⟨rfl, rfl, trivial⟩)
set_option maxHeartbeats 4000000 in
theorem zd3 {oF oA : Obj} {V : ByteArray → Bool} (hS : vm oF oA V) (hV : VOk V) : Spec Tryz.prog 13 [] [(.par 100, .dat (.fix 0 oF)), (.par 101, .dat (.fix 1 oA))] (.t (.bool true)) [(.par 100, .dat (.fix 0 oF)), (.par 101, .dat (.fix 1 oA))] := by
  have v1 : (Nd.ofNum 128).validB V 8 = true := jJ hV _ _ (by decide)
  have v2 : (Nd.ofNum (-33)).validB V 8 = true := jJ hV _ _ (by decide)
  have c1 : (Nd.ofNum 128).pb = [204, 128] := by decide
  have c2 : (Nd.ofNum (-33)).pb = [208, 223] := by decide
  have h1 := qA hS (Nd.ofNum 128) (ze1 128) (.mk (by decide) (by decide) (by simp)) (fun _ => by rw [c1]; decide)
  have h2 := qA hS (Nd.ofNum (-33)) (ze1 (-33)) (.mk (by decide) (by decide) (by simp)) (fun _ => by rw [c2]; decide)
  have e1 : zb7 pkC V (Nd.ofNum 128) = (⟨#[204, 128]⟩, 0) := by
    rw [zbY v1 (by show (Nd.ofNum 128).pb.length ≤ 65536; rw [c1]; decide)]; show (ofL (Nd.ofNum 128).pb, (0 : Int)) = _; rw [c1]; rfl
  have e2 : zb7 pkC V (Nd.ofNum (-33)) = (⟨#[208, 223]⟩, 0) := by
    rw [zbY v2 (by show (Nd.ofNum (-33)).pb.length ≤ 65536; rw [c2]; decide)]; show (ofL (Nd.ofNum (-33)).pb, (0 : Int)) = _; rw [c2]; rfl
  rw [e1] at h1; rw [e2] at h2
  simp only [Nd.ofNum, Nd.toT_eq, List.map_nil] at h1 h2
  have hA1 : ArgsLE [.t (.agg [.int .i64 2, .bool false, .int .i64 128, .str ⟨#[]⟩, .nilsl, .nilsl])] [.t (.agg [.int .i64 2, .bool false, .int .i64 128, .str eS, .sl 1 [], .sl 6 []])] := wA
  have hA2 : ArgsLE [.t (.agg [.int .i64 2, .bool false, .int .i64 (-33), .str ⟨#[]⟩, .nilsl, .nilsl])] [.t (.agg [.int .i64 2, .bool false, .int .i64 (-33), .str eS, .sl 1 [], .sl 6 []])] := wA
  refine wI Tryz.func13 ?_
  repeat' (first | refine wC ?_ | refine wK ?_ | ((with_reducible refine ze ?_); first | refine wP (r' := .tup [.t (.str ⟨#[204, 128]⟩), .t (.int .i64 0)]) [] rfl rfl h1 hA1 rfl ⟨rfl, rfl, trivial⟩ rfl rfl rfl rfl rfl rfl rfl rfl rfl rfl ?_ | refine wP (r' := .tup [.t (.str ⟨#[208, 223]⟩), .t (.int .i64 0)]) [] rfl rfl h2 hA2 rfl ⟨rfl, rfl, trivial⟩ rfl rfl rfl rfl rfl rfl rfl rfl rfl rfl ?_))
  all_goals try (first | decide | (simp; done))
  exact zm (zj rfl rfl rfl) (zc ⟨rfl, rfl, trivial⟩)
def Rs.row (ty : TypeId) (r : Rs) : Row := .var ty [.t (.str r.s), .t (.bool r.bad)]
set_option maxHeartbeats 2000000 in
theorem xu (ty : TypeId) (r : Rs) (n : Int) (hs : r.s.size ≤ 1000000000) : Spec Tryz.prog 240 [.ref (.par 0) 0 0 0, .t (.int .i64 n)] [(.par 0, r.row ty)] (.t (.str (r.take n).1)) [(.par 0, (r.take n).2.row ty)] := by
  obtain ⟨s, bad⟩ := r
  unfold Rs.row
  simp only at hs ⊢
  by_cases hb : n < 0 ∨ (s.size : Int) < n
  · have e : Rs.take ⟨s, bad⟩ n = (eS, ⟨s, true⟩) := by
      unfold Rs.take; rw [if_pos (.inr hb)]
    rw [e]
    refine wI Tryz.func240 ?_
    repeat' (first | refine wC ?_ | refine wK ?_ | ((with_reducible refine zbm ?_); first | refine y3 rfl rfl rfl ⟨_, rfl⟩ rfl rfl rfl ?_ ?_ ?_ ?_ | refine y3 rfl rfl ⟨_, rfl⟩ rfl rfl rfl rfl ?_ ?_ ?_ ?_) | refine zh rfl ?_ ?_ <;> intro hc | refine zbv rfl ?_ ?_ <;> intro hc | refine zq rfl ?_ ?_ <;> intro hc)
    all_goals try (exfalso; omega)
    all_goals exact zm (zj rfl rfl rfl) (zc ⟨rfl, trivial⟩)
  · cases bad with
    | true =>
      have e : Rs.take ⟨s, true⟩ n = (eS, ⟨s, true⟩) := by
        unfold Rs.take; rw [if_pos (.inl rfl)]
      rw [e]
      refine wI Tryz.func240 ?_
      repeat' (first | refine wC ?_ | refine wK ?_ | refine zh rfl ?_ ?_ <;> intro hc | refine zq rfl ?_ ?_ <;> intro hc)
      all_goals try (exfalso; omega)
      all_goals exact zm (zj rfl rfl rfl) (zc ⟨rfl, trivial⟩)
    | false =>
      have e : Rs.take ⟨s, false⟩ n = (s.extract 0 n.toNat, ⟨s.extract n.toNat s.size, false⟩) := by
        unfold Rs.take; rw [if_neg (by simp only [Bool.false_eq_true, false_or]; exact hb)]
      rw [e]
      refine wI Tryz.func240 ?_
      repeat' (first | refine wC ?_ | refine wK ?_ | ((with_reducible refine zbm ?_); first | refine y3 rfl rfl rfl ⟨_, rfl⟩ rfl rfl rfl ?_ ?_ ?_ ?_ | refine y3 rfl rfl ⟨_, rfl⟩ rfl rfl rfl rfl ?_ ?_ ?_ ?_) | refine zh rfl ?_ ?_ <;> intro hc | refine zq rfl ?_ ?_ <;> intro hc)
      all_goals try (exfalso; omega)
      all_goals try omega
      exact zm (zj rfl rfl rfl) (zc ⟨rfl, trivial⟩)
theorem jG (r : Rs) (n : Int) : (r.take n).2.s.size ≤ r.s.size ∧ (r.take n).1.size ≤ r.s.size := by
  unfold Rs.take
  split
  · exact ⟨Nat.le_refl _, Nat.zero_le _⟩
  · simp only [ByteArray.size_extract]; omega
theorem zfv {r : Rs} {n : Int} (h : (r.take n).1 ≠ eS) : ((r.take n).1.size : Int) = n := by
  unfold Rs.take at h ⊢
  split at h
  · exact absurd rfl h
  · rename_i hn
    rw [if_neg hn]
    simp only [not_or, Bool.not_eq_true, Int.not_lt] at hn
    simp only [ByteArray.size_extract]; omega
set_option maxHeartbeats 2000000 in
theorem wy (ty : TypeId) (r : Rs) (hs : r.s.size ≤ 1000000000) : Spec Tryz.prog 243 [.ref (.par 0) 0 0 0] [(.par 0, r.row ty)] (.t (.int .u8 r.byte.1)) [(.par 0, r.byte.2.row ty)] := by
  have hT := xu ty r 1 hs
  have h1 := zfv (r := r) (n := 1)
  unfold Rs.byte
  generalize r.take 1 = p at hT h1 ⊢
  obtain ⟨a, q⟩ := p
  simp only at hT h1 ⊢
  obtain ⟨qs, qb⟩ := q
  obtain ⟨s, bad⟩ := r
  unfold Rs.row at hT ⊢
  simp only at hT hs ⊢
  refine wI Tryz.func243 ?_
  repeat' (first | refine wC ?_ | refine wK ?_ | ((with_reducible refine xM ?_); refine zZ rfl rfl rfl rfl rfl rfl ?_ ?_ ?_) | ((with_reducible refine ze ?_); refine wN (.t (.str a)) [] hT ?_) | refine xj rfl ?_ ?_ <;> intro hc)
  · exact zm (zj rfl rfl (congrArg (T.int .u8) (by rw [if_pos (show a = eS from hc)]))) (zc ⟨rfl, trivial⟩)
  · omega
  · have := h1 (show a ≠ eS from hc); omega
  · exact zm (zj rfl rfl (congrArg (T.int .u8) (by rw [if_neg (show ¬ a = eS from hc)]))) (zc ⟨rfl, trivial⟩)
set_option maxHeartbeats 2000000 in
theorem jS (ty : TypeId) (r : Rs) (n : Int) (h0 : 0 ≤ n) (h1 : n < 18446744073709551616) (hs : r.s.size ≤ 1000000000) : Spec Tryz.prog 241 [.ref (.par 0) 0 0 0, .t (.int .u64 n)] [(.par 0, r.row ty)] (.t (.int .i64 (r.fits n).1)) [(.par 0, (r.fits n).2.row ty)] := by
  obtain ⟨s, bad⟩ := r
  unfold Rs.fits Rs.row
  simp only at hs ⊢
  have hw : IntKind.u64.wrap (s.size : Int) = s.size := yX (by omega) (by omega)
  by_cases hc0 : (s.size : Int) < n
  · rw [if_pos hc0]
    refine wI Tryz.func241 ?_
    repeat' (first | refine wC ?_ | refine wK ?_ | refine zh rfl ?_ ?_ <;> intro hc)
    all_goals try (exfalso; omega)
    exact zm (zj rfl rfl rfl) (zc ⟨rfl, trivial⟩)
  · rw [if_neg hc0]
    refine wI Tryz.func241 ?_
    repeat' (first | refine wC ?_ | refine wK ?_ | refine zh rfl ?_ ?_ <;> intro hc)
    all_goals try (exfalso; omega)
    exact zm (zj rfl rfl (congrArg (T.int .i64) (zy (by omega) (by omega)))) (zc ⟨rfl, trivial⟩)
theorem zkQ {v b : Int} (h0 : 0 ≤ v) (h1 : v < 18446744073709551616) (hb0 : 0 ≤ b) (hb : b < 256) : IntKind.u64.wrap ((BitVec.ofInt IntKind.u64.bits (IntKind.u64.wrap (v * 2 ^ min (Int.toNat 8) IntKind.u64.bits)) ||| BitVec.ofInt IntKind.u64.bits (IntKind.u64.wrap b)).toNat : Int) = v * 256 % 18446744073709551616 + b := by
  have e8 : min (Int.toNat 8) IntKind.u64.bits = 8 := by decide
  rw [e8, yX (n := b) hb0 (by omega)]
  obtain ⟨x, hx⟩ : ∃ x : Nat, x = (v % 72057594037927936).toNat := ⟨_, rfl⟩
  obtain ⟨c, hc⟩ : ∃ c : Nat, c = b.toNat := ⟨_, rfl⟩
  have e1 : IntKind.u64.wrap (v * 2 ^ 8) = ((x * 256 : Nat) : Int) := by
    simp only [IntKind.wrap, IntKind.bits, IntKind.signed, Bool.false_and, Bool.false_eq_true, if_false]
    omega
  rw [e1, show b = (c : Int) by omega]
  have e2 : (BitVec.ofInt IntKind.u64.bits ((x * 256 : Nat) : Int) ||| BitVec.ofInt IntKind.u64.bits (c : Int)).toNat = x * 256 + c := by
    rw [BitVec.toNat_or, BitVec.ofInt_natCast, BitVec.ofInt_natCast, BitVec.toNat_ofNat, BitVec.toNat_ofNat]
    have : IntKind.u64.bits = 64 := rfl
    rw [this, Nat.mod_eq_of_lt (by omega), Nat.mod_eq_of_lt (by omega)]
    have := Nat.shiftLeft_add_eq_or_of_lt (i := 8) (b := c) (by omega) x
    rw [Nat.shiftLeft_eq] at this
    rw [← this]
  rw [e2, yX (by omega) (by omega)]
  omega
set_option maxHeartbeats 4000000 in
theorem jY (ty : TypeId) (r : Rs) (k : Int) (hk : k ≤ 8) (hs : r.s.size ≤ 1000000000) : Spec Tryz.prog 281 [.ref (.par 0) 0 0 0, .t (.int .i64 k)] [(.par 0, r.row ty)] (.t (.int .u64 (r.uint k).1)) [(.par 0, (r.uint k).2.row ty)] := by
  have hT := xu ty r k hs
  have hz := (jG r k).2
  unfold Rs.uint
  generalize r.take k = p at hT hz ⊢
  obtain ⟨a, q⟩ := p
  simp only at hT hz ⊢
  obtain ⟨qs, qb⟩ := q
  obtain ⟨s, bad⟩ := r
  unfold Rs.row at hT ⊢
  simp only at hT hs hz ⊢
  refine wI Tryz.func281 ?_
  repeat' (first | refine wC ?_ | refine wK ?_ | ((with_reducible refine yP ?_); refine za0 rfl rfl rfl rfl rfl rfl ?_ ?_) | ((with_reducible refine ze ?_); refine wN (.t (.str a)) [] hT ?_))
  · omega
  refine zi (zv (id := .loc 11) rfl rfl rfl) ?_
  refine zi (za [5, 11, 12, 13] [.par 0] rfl rfl) ?_
  have ela : a.data.toList.length = a.size := yq a
  unfold yo
  generalize a.data.toList = L at ela ⊢
  refine zw (fun p env st => ∃ (j : Nat) (v : Int), j ≤ L.length ∧ p = L.length - j ∧ v = (L.take j).foldl xN 0 ∧ 0 ≤ v ∧ v < 18446744073709551616 ∧
      env = EnvL.get [(5, .t (.int .u64 v)), (11, .t (.sl 1 (L.map u8T))), (12, .t (.int .i64 L.length)), (13, .t (.int .i64 (j : Int)))] ∧ st = StO.get [(.par 0, some (.var ty [.t (.str qs), .t (.bool qb)]))])
    ?_ (n := L.length) ⟨0, 0, by omega, rfl, rfl, by omega, by omega, rfl, rfl⟩
  rintro p env st ⟨j, v, hj, rfl, hv, h0, h1, rfl, rfl⟩
  by_cases hlt : j < L.length
  · repeat' (first | refine wC ?_ | refine wK ?_ | fail)
    refine zh rfl (fun hc => ?_) (fun hc => absurd (by omega) hc)
    repeat' (first | refine wC ?_ | refine wK ?_ | ((with_reducible refine zu ?_); refine zr rfl rfl rfl rfl rfl rfl ?_ ?_ ?_))
    all_goals try omega
    have hb := (L.getD (j : Int).toNat default).toNat_lt
    have hst : v * 256 % 18446744073709551616 + ((L.getD (j : Int).toNat default).toNat : Int) = (L.take (j + 1)).foldl xN 0 := by
      rw [List.take_add_one, List.getElem?_eq_getElem hlt, Option.toList_some, List.foldl_append, ← hv]
      have hg : L.getD (j : Int).toNat default = L[j] := by simp [List.getD_eq_getElem?_getD, hlt]
      rw [hg]; rfl
    rw [zkQ h0 h1 (b := ((L.getD (j : Int).toNat default).toNat : Int)) (by omega) (by omega)]
    refine zM (n' := L.length - (j + 1)) (by omega) (za [5, 11, 12, 13] [.par 0] rfl rfl) ⟨j + 1, v * 256 % 18446744073709551616 + ((L.getD (j : Int).toNat default).toNat : Int), by omega, rfl, hst, by omega, by omega, ?_, rfl⟩
    rw [zy (by omega) (by omega)]; rfl
  · repeat' (first | refine wC ?_ | refine wK ?_ | fail)
    refine zh rfl (fun hc => absurd hc (by omega)) (fun hc => ?_)
    repeat' (first | refine wC ?_ | refine wK ?_ | fail)
    rw [List.take_of_length_le (by omega)] at hv
    exact zm (zj rfl rfl (congrArg (T.int .u64) hv)) (zc ⟨rfl, trivial⟩)
theorem zdD {b : Int} (h0 : 0 ≤ b) (h1 : b < 256) : IntKind.i64.wrap (b / 2 ^ min (Int.toNat 5) IntKind.u8.bits) = b / 32 := by
  rw [show min (Int.toNat 5) IntKind.u8.bits = 5 by decide, zy (by omega) (by omega)]; omega
theorem zko : ∀ b : Fin 256, IntKind.u64.wrap (IntKind.u8.wrap ((BitVec.ofInt IntKind.u8.bits (b.val : Int) &&& BitVec.ofInt IntKind.u8.bits 31).toNat : Int)) = ((b.val % 32 : Nat) : Int) := by decide +kernel
theorem zjc {b : Int} (h0 : 0 ≤ b) (h1 : b < 256) : IntKind.u64.wrap (IntKind.u8.wrap ((BitVec.ofInt IntKind.u8.bits b &&& BitVec.ofInt IntKind.u8.bits 31).toNat : Int)) = b % 32 := by
  have := zko ⟨b.toNat, by omega⟩
  simp only at this
  rw [show ((b.toNat : Nat) : Int) = b by omega] at this
  rw [this]; omega
theorem zjJ {l : Int} (h0 : 24 ≤ l) (h1 : l ≤ 27) : IntKind.i64.wrap (1 * 2 ^ min (IntKind.u64.wrap (l - 24)).toNat IntKind.i64.bits) = 2 ^ (l - 24).toNat := by
  have : l = 24 ∨ l = 25 ∨ l = 26 ∨ l = 27 := by omega
  rcases this with rfl | rfl | rfl | rfl <;> decide
set_option maxHeartbeats 4000000 in
theorem qI (r : Rs) (hs : r.s.size ≤ 1000000) : Spec Tryz.prog 239 [.ref (.par 0) 0 0 0] [(.par 0, r.row 195)] (.tup [.t (.int .i64 (zU r).1.1), .t (.int .u64 (zU r).1.2)]) [(.par 0, (zU r).2.row 195)] := by
  have hB := wy 195 r (by omega)
  have hr := y4 r
  have hle := xy r
  have hU : ∀ k : Int, k = 2 ^ (r.byte.1 % 32 - 24).toNat → 24 ≤ r.byte.1 % 32 → r.byte.1 % 32 ≤ 27 → Spec Tryz.prog 281 [.ref (.par 0) 0 0 0, .t (.int .i64 k)] [(.par 0, r.byte.2.row 195)] (.t (.int .u64 (r.byte.2.uint (2 ^ (r.byte.1 % 32 - 24).toNat)).1)) [(.par 0, (r.byte.2.uint (2 ^ (r.byte.1 % 32 - 24).toNat)).2.row 195)] := fun k hk h1 h2 => by
    subst hk
    refine jY 195 r.byte.2 _ ?_ (by omega)
    have : r.byte.1 % 32 = 24 ∨ r.byte.1 % 32 = 25 ∨ r.byte.1 % 32 = 26 ∨ r.byte.1 % 32 = 27 := by omega
    rcases this with h | h | h | h <;> rw [h] <;> decide
  unfold zU
  generalize r.byte.2.uint (2 ^ (r.byte.1 % 32 - 24).toNat) = u at hU ⊢
  generalize r.byte = p at hB hr hU hle ⊢
  obtain ⟨b, q⟩ := p
  obtain ⟨n, u⟩ := u
  simp only at hB hr hU hle ⊢
  obtain ⟨us, ub⟩ := u
  obtain ⟨qs, qb⟩ := q
  obtain ⟨s, bad⟩ := r
  unfold Rs.row at hB hU ⊢
  simp only at hs hB hU ⊢
  by_cases h24 : b % 32 < 24
  · rw [if_pos h24]
    refine wI Tryz.func239 ?_
    repeat' (first | refine wC ?_ | refine wK ?_ | ((with_reducible refine zO ?_); refine xB rfl rfl rfl rfl rfl rfl ?_ ?_) | ((with_reducible refine ze ?_); refine wN (.t (.int .u8 b)) [] hB ?_) | refine zh rfl ?_ ?_ <;> intro hc)
    all_goals simp only [zjc hr.1 hr.2, zdD hr.1 hr.2] at *
    all_goals try (exfalso; omega)
    exact zm (jP rfl rfl rfl wT wT) (zc ⟨rfl, trivial⟩)
  · rw [if_neg h24]
    by_cases h27 : 27 < b % 32
    · rw [if_pos h27]
      refine wI Tryz.func239 ?_
      repeat' (first | refine wC ?_ | refine wK ?_ | ((with_reducible refine zO ?_); refine xB rfl rfl rfl rfl rfl rfl ?_ ?_) | ((with_reducible refine ze ?_); refine wN (.t (.int .u8 b)) [] hB ?_) | refine zh rfl ?_ ?_ <;> intro hc)
      all_goals simp only [zjc hr.1 hr.2, zdD hr.1 hr.2] at *
      all_goals try (exfalso; omega)
      exact zm (jP rfl rfl rfl wT wT) (zc ⟨rfl, trivial⟩)
    · rw [if_neg h27]
      refine wI Tryz.func239 ?_
      repeat' (first | refine wC ?_ | refine wK ?_ | ((with_reducible refine zO ?_); refine xB rfl rfl rfl rfl rfl rfl ?_ ?_) | ((with_reducible refine ze ?_); first | refine wN (.t (.int .u8 b)) [] hB ?_ | refine wP (r' := .t (.int .u64 n)) [] rfl rfl (hU _ ?_ (by omega) (by omega)) (ArgsLE.refl _) rfl ⟨rfl, trivial⟩ rfl rfl rfl rfl rfl rfl rfl rfl rfl rfl ?_) | refine zh rfl ?_ ?_ <;> intro hc)
      all_goals simp only [zjc hr.1 hr.2, zdD hr.1 hr.2] at *
      all_goals try (exfalso; omega)
      all_goals try (exact zm (jP rfl rfl rfl wT wT) (zc ⟨rfl, trivial⟩))
      · rw [yX (by omega) (by omega)]; omega
      · exact zjJ (by omega) (by omega)
set_option maxHeartbeats 4000000 in
theorem zfr (r : Rs) (hs : r.s.size ≤ 1000000) : Spec Tryz.prog 282 [.ref (.par 0) 0 0 0] [(.par 0, r.row 195)] (.t (.str (xV r).1)) [(.par 0, (xV r).2.row 195)] := by
  have hH := qI r hs
  have hr := jd r
  have hle := qd r
  have hF : ∀ q : Rs, q.s.size ≤ r.s.size → Spec Tryz.prog 241 [.ref (.par 0) 0 0 0, .t (.int .u64 (zU r).1.2)] [(.par 0, q.row 195)] (.t (.int .i64 (q.fits (zU r).1.2).1)) [(.par 0, (q.fits (zU r).1.2).2.row 195)] := fun q hq => jS 195 q _ hr.2.2.1 hr.2.2.2 (by omega)
  have hT : ∀ q : Rs, q.s.size ≤ r.s.size → Spec Tryz.prog 240 [.ref (.par 0) 0 0 0, .t (.int .i64 (q.fits (zU r).1.2).1)] [(.par 0, (q.fits (zU r).1.2).2.row 195)] (.t (.str (y7 q (zU r).1.2).1)) [(.par 0, (y7 q (zU r).1.2).2.row 195)] := fun q hq => xu 195 (q.fits (zU r).1.2).2 _ (by have := (qU q (zU r).1.2).1; omega)
  unfold xV
  generalize hh : zU r = h at hH hr hle hF hT ⊢
  obtain ⟨⟨m, n⟩, q⟩ := h
  simp only at hH hr hle hF hT ⊢
  by_cases h3 : m = 3
  · rw [if_pos h3]
    replace hF := hF q hle
    replace hT := hT q hle
    generalize y7 q n = t at hT ⊢
    generalize q.fits n = u at hF hT ⊢
    obtain ⟨t, ts, tb⟩ := t
    obtain ⟨u, us, ub⟩ := u
    obtain ⟨qs, qb⟩ := q
    obtain ⟨s, bad⟩ := r
    unfold Rs.row at hH hF hT ⊢
    simp only at hH hF hT ⊢
    refine wI Tryz.func282 ?_
    repeat' (first | refine wC ?_ | refine wK ?_ | ((with_reducible refine ze ?_); first | refine wN (.tup [.t (.int .i64 m), .t (.int .u64 n)]) [] hH ?_ | exact absurd h3 ‹_› | refine wN (.t (.int .i64 u)) [] hF ?_ | refine wN (.t (.str t)) [] hT ?_) | refine xj rfl ?_ ?_ <;> intro hc)
    exact zm (zj rfl rfl rfl) (zc ⟨rfl, trivial⟩)
  · rw [if_neg h3]
    replace hF := hF ⟨q.s, true⟩ hle
    replace hT := hT ⟨q.s, true⟩ hle
    generalize y7 ⟨q.s, true⟩ n = t at hT ⊢
    generalize Rs.fits ⟨q.s, true⟩ n = u at hF hT ⊢
    obtain ⟨t, ts, tb⟩ := t
    obtain ⟨u, us, ub⟩ := u
    obtain ⟨qs, qb⟩ := q
    obtain ⟨s, bad⟩ := r
    unfold Rs.row at hH hF hT ⊢
    simp only at hH hF hT ⊢
    refine wI Tryz.func282 ?_
    repeat' (first | refine wC ?_ | refine wK ?_ | ((with_reducible refine ze ?_); first | refine wN (.tup [.t (.int .i64 m), .t (.int .u64 n)]) [] hH ?_ | exact absurd ‹_› h3 | refine wN (.t (.int .i64 u)) [] hF ?_ | refine wN (.t (.str t)) [] hT ?_) | refine xj rfl ?_ ?_ <;> intro hc)
    exact zm (zj rfl rfl rfl) (zc ⟨rfl, trivial⟩)
set_option maxHeartbeats 8000000 in
theorem zdm (d : Nat) (hd : d ≤ 1000) (B : Nat) (hB : B ≤ 1000000)
    (IH : ∀ q : Rs, q.s.size ≤ B → Spec Tryz.prog 168 [.ref (.par 0) 0 0 0, .t (.int .i64 (d : Int))] [(.par 0, q.row 195)] (.t (yQ d q).1.toT) [(.par 0, (yQ d q).2.row 195)])
    (k : Int) (hk : k = 4 ∨ k = 5) (c : Nat) (hc : c ≤ 1000000) (r : Rs) (hr : r.s.size ≤ B) :
    Spec Tryz.prog 242 [.ref (.par 0) 0 0 0, .t (.agg [.int .i64 k, .bool false, .int .i64 0, .str ⟨#[]⟩, .nilsl, .nilsl]), .t (.int .i64 (c : Int)), .t (.int .i64 ((d + 1 : Nat) : Int))] [(.par 0, r.row 195)] (.t (zS (yQ d) k c [] [] r).1.toT) [(.par 0, (zS (yQ d) k c [] [] r).2.row 195)] := by
  generalize hres : zS (yQ d) k c [] [] r = res
  have hNB := kU B (by omega) d
  generalize yQ d = f at *
  unfold Rs.row
  refine wIG Tryz.func242 ?_
  repeat' (first | refine wC ?_ | refine wK ?_ | fail)
  refine zi (zJ (r := .loc 5) 5 (.loc 900) 30 6 rfl rfl rfl rfl rfl) ?_
  refine zi (zJ (r := .loc 5) 4 (.loc 901) 9 1 rfl rfl rfl rfl rfl) ?_
  refine zi (za [0, 2, 3, 5, 8] [.par 0, .loc 5, .loc 8, .loc 900, .loc 901] rfl rfl) ?_
  refine zw (fun m env st => ∃ (j : Nat) (ns : List ByteArray) (is : List Nd) (q : Rs), m = j ∧ j ≤ 1000000 ∧ ns.length + j ≤ 1000000 ∧ is.length + j ≤ 1000000 ∧ q.s.size ≤ B ∧ zS f k j ns is q = res ∧
      env = EnvL.get [(0, .ref (.par 0) 0 0 0), (2, .t (.int .i64 (j : Int))), (3, .t (.int .i64 ((d + 1 : Nat) : Int))), (5, .ref (.loc 5) 0 0 0), (8, .ref (.loc 8) 0 0 0)] ∧
      st = StO.get [(.par 0, some (.var 195 [.t (.str q.s), .t (.bool q.bad)])), (.loc 5, some (.var 30 [.t (.int .i64 k), .t (.bool false), .t (.int .i64 0), .t (.str ⟨#[]⟩), .row (.loc 901), .row (.loc 900)])), (.loc 8, some (.var 30 [.t (.int .i64 0), .t (.bool false), .t (.int .i64 0), .t (.str ⟨#[]⟩), .t .nilsl, .t .nilsl])), (.loc 900, some (.slt 30 6 (is.map Nd.toT))), (.loc 901, some (.slt 9 1 (ns.map .str)))])
    ?_ (n := c) ⟨c, [], [], r, rfl, by omega, by simp; omega, by simp; omega, hr, hres, rfl, rfl⟩
  rintro m env st ⟨j, ns, is, q, rfl, hj, hns, his, hq, hi, rfl, rfl⟩
  have hN : ∀ (v : Int) (q : Rs), v = (d : Int) → q.s.size ≤ B → Spec Tryz.prog 168 [.ref (.par 0) 0 0 0, .t (.int .i64 v)] [(.par 0, .var 195 [.t (.str q.s), .t (.bool q.bad)])] (.t (f q).1.toT) [(.par 0, .var 195 [.t (.str (f q).2.s), .t (.bool (f q).2.bad)])] := fun v q hv hq => by subst hv; exact IH q hq
  cases m with
  | zero =>
    rw [zS] at hi
    repeat' (first | refine wC ?_ | refine wK ?_ | fail)
    rw [← hi]
    simp only
    rw [Nd.toT_eq]
    refine zk (za [8] [.par 0, .loc 8, .loc 900, .loc 901] rfl rfl) ?_
    refine zk (zv (id := .loc 900) rfl rfl rfl) ?_; refine zk (zv (id := .loc 901) rfl rfl rfl) ?_
    exact wB
  | succ j =>
    rw [zS] at hi
    obtain ⟨qs, qb⟩ := q
    cases qb with
    | true =>
      rw [if_pos rfl] at hi
      repeat' (first | refine wC ?_ | refine wK ?_ | refine zq rfl ?_ ?_ <;> intro hc)
      all_goals try (exfalso; omega)
      rw [← hi]
      simp only
      rw [Nd.toT_eq]
      refine zk (za [8] [.par 0, .loc 8, .loc 900, .loc 901] rfl rfl) ?_
      refine zk (zv (id := .loc 900) rfl rfl rfl) ?_; refine zk (zv (id := .loc 901) rfl rfl rfl) ?_
      exact wB
    | false =>
      rw [if_neg (by simp)] at hi
      rcases hk with rfl | rfl
      · rw [if_neg (by decide)] at hi
        replace hN := hN (IntKind.i64.wrap (((d + 1 : Nat) : Int) - 1)) ⟨qs, false⟩ (by rw [zy (by omega) (by omega)]; omega) hq
        have hb := hNB ⟨qs, false⟩ hq
        generalize f ⟨qs, false⟩ = y at hi hN hb
        obtain ⟨x, us, ub⟩ := y
        have hT := x.toT_full
        simp only at hN hi hb
        rw [hT] at hN
        repeat' (first | refine wC ?_ | refine wK ?_ | ((with_reducible refine zo ?_); refine zf rfl rfl rfl rfl rfl rfl rfl rfl rfl rfl ?_ ?_ ?_) | ((with_reducible refine ze ?_); refine wN (.t (.agg [.int .i64 x.kind, .bool x.bool, .int .i64 x.num, .str x.text, .sl 1 (x.names.map .str), .sl 6 (x.items.map Nd.toT)])) [] hN ?_) | refine zq rfl ?_ ?_ <;> intro hc)
        all_goals try (exfalso; omega)
        all_goals try (simp only [List.length_map, List.length_cons, List.length_nil]; omega)
        refine zM (n' := j) (by omega) ((za [0, 2, 3, 5, 8] [.par 0, .loc 5, .loc 8, .loc 38, .loc 901] rfl rfl).trans (zd (.loc 38) (.loc 900) rfl rfl rfl rfl)) ⟨j, ns, is ++ [x], ⟨us, ub⟩, rfl, by omega, by omega, by simp only [List.length_append, List.length_cons, List.length_nil]; omega, hb.1, hi, ?_, ?_⟩
        · rw [zy (by omega) (by omega), show ((j + 1 : Nat) : Int) - 1 = j by omega]; rfl
        · rw [List.map_append, List.map_singleton, hT]; rfl
      · rw [if_pos rfl] at hi
        have hM := zfr ⟨qs, false⟩ (Nat.le_trans hq hB)
        have hM2 := zer ⟨qs, false⟩
        generalize xV ⟨qs, false⟩ = z at hi hM hM2
        obtain ⟨nm, ps, pb⟩ := z
        simp only at hi hM hM2
        replace hN := hN (IntKind.i64.wrap (((d + 1 : Nat) : Int) - 1)) ⟨ps, pb⟩ (by rw [zy (by omega) (by omega)]; omega) (Nat.le_trans hM2.1 hq)
        have hb := hNB ⟨ps, pb⟩ (Nat.le_trans hM2.1 hq)
        generalize f ⟨ps, pb⟩ = y at hi hN hb
        obtain ⟨x, us, ub⟩ := y
        have hT := x.toT_full
        unfold Rs.row at hM
        simp only at hN hi hb hM
        rw [hT] at hN
        repeat' (first | refine wC ?_ | refine wK ?_ | ((with_reducible refine zo ?_); refine zf rfl rfl rfl rfl rfl rfl rfl rfl rfl rfl ?_ ?_ ?_) | ((with_reducible refine ze ?_); first | refine wN (.t (.str nm)) [] hM ?_ | refine wN (.t (.agg [.int .i64 x.kind, .bool x.bool, .int .i64 x.num, .str x.text, .sl 1 (x.names.map .str), .sl 6 (x.items.map Nd.toT)])) [] hN ?_) | refine zq rfl ?_ ?_ <;> intro hc)
        all_goals try (exfalso; omega)
        all_goals try (simp only [List.length_map, List.length_cons, List.length_nil]; omega)
        refine zM (n' := j) (by omega) ((za [0, 2, 3, 5, 8] [.par 0, .loc 5, .loc 8, .loc 38, .loc 29] rfl rfl).trans ((zd (.loc 38) (.loc 900) rfl rfl rfl rfl).trans (zd (.loc 29) (.loc 901) rfl rfl rfl rfl))) ⟨j, ns ++ [nm], is ++ [x], ⟨us, ub⟩, rfl, by omega, by simp only [List.length_append, List.length_cons, List.length_nil]; omega, by simp only [List.length_append, List.length_cons, List.length_nil]; omega, hb.1, hi, ?_, ?_⟩
        · rw [zy (by omega) (by omega), show ((j + 1 : Nat) : Int) - 1 = j by omega]; rfl
        · rw [List.map_append, List.map_append, List.map_singleton, List.map_singleton, hT]; rfl
theorem zf9 {r : Rs} {n : Int} (h : 0 ≤ n) : 0 ≤ (r.fits n).1 := by
  unfold Rs.fits; split
  · simp
  · exact h
set_option maxHeartbeats 8000000 in
theorem za6 : ∀ (d : Nat), d ≤ 1000 → ∀ r : Rs, r.s.size ≤ 1000000 → Spec Tryz.prog 168 [.ref (.par 0) 0 0 0, .t (.int .i64 (d : Int))] [(.par 0, r.row 195)] (.t (yQ d r).1.toT) [(.par 0, (yQ d r).2.row 195)]
  | 0, hd, r, hr => by
    have hH := qI r hr
    rw [yQ]
    generalize zU r = h at hH ⊢
    obtain ⟨⟨m, n⟩, qs, qb⟩ := h
    obtain ⟨s, bad⟩ := r
    unfold Rs.row at hH ⊢
    simp only at hH ⊢
    rw [yR]
    refine wI Tryz.func168 ?_
    repeat' (first | refine wC ?_ | refine wK ?_ | ((with_reducible refine ze ?_); refine wN (.tup [.t (.int .i64 m), .t (.int .u64 n)]) [] hH ?_))
    exact wD
  | d + 1, hd, r, hr => by
    have hH := qI r hr
    have hhr := jd r
    have hhl := qd r
    have IH := za6 d (by omega)
    obtain ⟨m, n, q, hh⟩ : ∃ m n q, zU r = ((m, n), q) := ⟨_, _, _, rfl⟩
    rw [y9 hh]
    rw [hh] at hH hhr hhl
    simp only at hH hhr hhl
    have hF := jS 195 q n hhr.2.2.1 hhr.2.2.2 (by omega)
    have hfl := qU q n
    have hfg := zf9 (r := q) hhr.2.2.1
    have hT := xu 195 (q.fits n).2 (q.fits n).1 (by omega)
    replace hT : Spec Tryz.prog 240 [.ref (.par 0) 0 0 0, .t (.int .i64 (q.fits n).1)] [(.par 0, (q.fits n).2.row 195)] (.t (.str (y7 q n).1)) [(.par 0, (y7 q n).2.row 195)] := hT
    have hI : ∀ k : Int, k = 4 ∨ k = 5 → Spec Tryz.prog 242 [.ref (.par 0) 0 0 0, .t (.agg [.int .i64 k, .bool false, .int .i64 0, .str ⟨#[]⟩, .nilsl, .nilsl]), .t (.int .i64 (q.fits n).1), .t (.int .i64 ((d + 1 : Nat) : Int))] [(.par 0, (q.fits n).2.row 195)] (.t (zS (yQ d) k (q.fits n).1.toNat [] [] (q.fits n).2).1.toT) [(.par 0, (zS (yQ d) k (q.fits n).1.toNat [] [] (q.fits n).2).2.row 195)] := fun k hk => by
      have := zdm d (by omega) 1000000 (by omega) (fun q hq => IH q hq) k hk (q.fits n).1.toNat (by omega) (q.fits n).2 (by omega)
      rw [show (((q.fits n).1.toNat : Nat) : Int) = (q.fits n).1 by omega] at this
      exact this
    have hI4 := hI 4 (.inl rfl)
    have hI5 := hI 5 (.inr rfl)
    clear hI IH
    generalize zS (yQ d) 4 (q.fits n).1.toNat [] [] (q.fits n).2 = i4 at hI4 ⊢
    generalize zS (yQ d) 5 (q.fits n).1.toNat [] [] (q.fits n).2 = i5 at hI5 ⊢
    generalize y7 q n = t at hT ⊢
    generalize q.fits n = u at hF hT hI4 hI5 hfl hfg
    obtain ⟨u, us, ub⟩ := u
    obtain ⟨t, ts, tb⟩ := t
    obtain ⟨i4, i4s, i4b⟩ := i4
    obtain ⟨i5, i5s, i5b⟩ := i5
    obtain ⟨qs, qb⟩ := q
    obtain ⟨s, bad⟩ := r
    have e4 := i4.toT_full
    have e5 := i5.toT_full
    unfold Rs.row at *
    simp only at *
    rw [e4] at hI4
    rw [e5] at hI5
    have hm : m = 0 ∨ m = 1 ∨ m = 2 ∨ m = 3 ∨ m = 4 ∨ m = 5 ∨ m = 6 ∨ m = 7 := by omega
    clear hh hhl hfl hfg
    rcases hm with rfl | rfl | rfl | rfl | rfl | rfl | rfl | rfl
    · rw [if_pos rfl]
      simp only
      rw [Nd.toT_eq]
      refine wI Tryz.func168 ?_
      repeat' (first | refine wC ?_ | refine wK ?_ | ((with_reducible refine ze ?_); refine wN (.tup [.t (.int .i64 0), .t (.int .u64 n)]) [] hH ?_))
      all_goals try (exfalso; omega)
      exact wD
    · rw [if_neg (by decide), if_pos rfl]
      simp only
      rw [Nd.toT_eq, ← zkt (qi n).1 (qi n).2]
      refine wI Tryz.func168 ?_
      repeat' (first | refine wC ?_ | refine wK ?_ | ((with_reducible refine ze ?_); refine wN (.tup [.t (.int .i64 1), .t (.int .u64 n)]) [] hH ?_))
      all_goals try (exfalso; omega)
      exact wD
    · rw [if_neg (by decide), if_neg (by decide), if_neg (by decide), if_neg (by decide), if_neg (by decide), if_neg (fun h => absurd h.1 (by decide))]
      simp only
      rw [yR]
      refine wI Tryz.func168 ?_
      repeat' (first | refine wC ?_ | refine wK ?_ | ((with_reducible refine ze ?_); refine wN (.tup [.t (.int .i64 2), .t (.int .u64 n)]) [] hH ?_))
      all_goals try (exfalso; omega)
      exact wD
    · rw [if_neg (by decide), if_neg (by decide), if_pos rfl]
      simp only
      rw [Nd.toT_eq]
      refine wI Tryz.func168 ?_
      repeat' (first | refine wC ?_ | refine wK ?_ | ((with_reducible refine ze ?_); first | refine wN (.tup [.t (.int .i64 3), .t (.int .u64 n)]) [] hH ?_ | refine wN (.t (.int .i64 u)) [] hF ?_ | refine wN (.t (.str t)) [] hT ?_))
      all_goals try (exfalso; omega)
      exact wD
    · rw [if_neg (by decide), if_neg (by decide), if_neg (by decide), if_pos rfl]
      simp only
      rw [e4]
      refine wI Tryz.func168 ?_
      repeat' (first | refine wC ?_ | refine wK ?_ | ((with_reducible refine ze ?_); first | refine wN (.tup [.t (.int .i64 4), .t (.int .u64 n)]) [] hH ?_ | refine wN (.t (.int .i64 u)) [] hF ?_ | refine wN (.t (.agg [.int .i64 i4.kind, .bool i4.bool, .int .i64 i4.num, .str i4.text, .sl 1 (i4.names.map .str), .sl 6 (i4.items.map Nd.toT)])) [] hI4 ?_))
      all_goals try (exfalso; omega)
      exact wD
    · rw [if_neg (by decide), if_neg (by decide), if_neg (by decide), if_neg (by decide), if_pos rfl]
      simp only
      rw [e5]
      refine wI Tryz.func168 ?_
      repeat' (first | refine wC ?_ | refine wK ?_ | ((with_reducible refine ze ?_); first | refine wN (.tup [.t (.int .i64 5), .t (.int .u64 n)]) [] hH ?_ | refine wN (.t (.int .i64 u)) [] hF ?_ | refine wN (.t (.agg [.int .i64 i5.kind, .bool i5.bool, .int .i64 i5.num, .str i5.text, .sl 1 (i5.names.map .str), .sl 6 (i5.items.map Nd.toT)])) [] hI5 ?_))
      all_goals try (exfalso; omega)
      exact wD
    · rw [if_neg (by decide), if_neg (by decide), if_neg (by decide), if_neg (by decide), if_neg (by decide), if_neg (fun h => absurd h.1 (by decide))]
      simp only
      rw [yR]
      refine wI Tryz.func168 ?_
      repeat' (first | refine wC ?_ | refine wK ?_ | ((with_reducible refine ze ?_); refine wN (.tup [.t (.int .i64 6), .t (.int .u64 n)]) [] hH ?_))
      all_goals try (exfalso; omega)
      exact wD
    · rw [if_neg (by decide), if_neg (by decide), if_neg (by decide), if_neg (by decide), if_neg (by decide)]
      by_cases h21 : n = 21
      · subst h21
        rw [if_pos ⟨rfl, .inl rfl⟩]
        simp only
        rw [Nd.toT_eq]
        refine wI Tryz.func168 ?_
        repeat' (first | refine wC ?_ | refine wK ?_ | ((with_reducible refine ze ?_); refine wN (.tup [.t (.int .i64 7), .t (.int .u64 21)]) [] hH ?_))
        all_goals try (exfalso; omega)
        exact wD
      by_cases h20 : n = 20
      · subst h20
        rw [if_pos ⟨rfl, .inr rfl⟩]
        simp only
        rw [Nd.toT_eq]
        refine wI Tryz.func168 ?_
        repeat' (first | refine wC ?_ | refine wK ?_ | ((with_reducible refine ze ?_); refine wN (.tup [.t (.int .i64 7), .t (.int .u64 20)]) [] hH ?_))
        all_goals try (exfalso; omega)
        exact wD
      · rw [if_neg (fun h => h.2.elim h21 h20)]
        simp only
        rw [yR]
        refine wI Tryz.func168 ?_
        repeat' (first | refine wC ?_ | refine wK ?_ | ((with_reducible refine ze ?_); refine wN (.tup [.t (.int .i64 7), .t (.int .u64 n)]) [] hH ?_) | refine zh rfl ?_ ?_ <;> intro hc | refine zq rfl ?_ ?_ <;> intro hc)
        all_goals try (exfalso; omega)
        exact wD
set_option maxHeartbeats 8000000 in
theorem jv {oF oA : Obj} {V : ByteArray → Bool} (hS : vm oF oA V) (ty : TypeId) (ef : FuncId) [FnB Tryz.prog ef] (s : ByteArray) (x : Nd) (hx : x.Ok) (r : Rs) (E : ByteArray × Int)
    (hE : r.bad = false → r.s = eS → x.validB V 8 = true → Spec Tryz.prog ef [.t x.toT] [(.par 100, .dat (.fix 0 oF)), (.par 101, .dat (.fix 1 oA))] (.tup [.t (.str E.1), .t (.int .i64 E.2)]) [(.par 100, .dat (.fix 0 oF)), (.par 101, .dat (.fix 1 oA))])
    (res : Nd × Int) (hres : res = if r.bad = false ∧ r.s = eS ∧ x.validB V 8 = true ∧ E = (s, 0) then (x, 0) else (Nd.zero, 4)) :
    Spec Tryz.prog 166 [.t (.str s), .t x.toT, .ref (.par 0) 0 0 0, .t (.fn ef)] [(.par 0, r.row ty), (.par 100, .dat (.fix 0 oF)), (.par 101, .dat (.fix 1 oA))] (.tup [.t res.1.toT, .t (.int .i64 res.2)]) [(.par 0, r.row ty), (.par 100, .dat (.fix 0 oF)), (.par 101, .dat (.fix 1 oA))] := by
  have hV := wm hS x hx
  have hT := x.toT_full
  obtain ⟨rs, bad⟩ := r
  obtain ⟨es, en⟩ := E
  unfold Rs.row
  simp only at hE hres ⊢
  have fail : res = (Nd.zero, 4) → res.1.toT = .agg [.int .i64 0, .bool false, .int .i64 0, .str ⟨#[]⟩, .sl 1 [], .sl 6 []] ∧ res.2 = 4 := fun h => by rw [h]; exact ⟨yR, rfl⟩
  cases bad with
  | true =>
    rw [if_neg (by simp)] at hres
    obtain ⟨f1, f2⟩ := fail hres
    rw [f1, f2, hT]
    refine wI Tryz.func166 ?_
    repeat' (first | refine wC ?_ | refine wK ?_ | fail)
    exact wE
  | false =>
    by_cases hrs : rs = eS
    · subst hrs
      cases hv : x.validB V 8 with
      | false =>
        rw [hv] at hV hres
        rw [if_neg (by simp)] at hres
        obtain ⟨f1, f2⟩ := fail hres
        rw [hT] at hV
        rw [f1, f2, hT]
        refine wI Tryz.func166 ?_
        repeat' (first | refine wC ?_ | refine wK ?_ | ((with_reducible refine ze ?_); refine wN (.t (.bool false)) [] hV ?_))
        all_goals try (exact absurd rfl hc)
        exact wE
      | true =>
        rw [hv] at hV hres
        replace hE := hE rfl rfl hv
        rw [hT] at hV hE
        by_cases h0 : en = 0
        · subst h0
          by_cases hs : es = s
          · subst hs
            rw [if_pos ⟨rfl, rfl, rfl, rfl⟩] at hres
            rw [hres]
            simp only
            rw [hT]
            refine wI Tryz.func166 ?_
            repeat' (first | refine wC ?_ | refine wK ?_ | ((with_reducible refine ze ?_); first | refine wN (.t (.bool true)) [] hV ?_ | refine wN (.tup [.t (.str es), .t (.int .i64 0)]) [] hE ?_) | refine xj rfl ?_ ?_ <;> intro hc)
            · exact wE
            all_goals exact absurd rfl hc
          · rw [if_neg (fun h => hs (congrArg (·.1) h.2.2.2))] at hres
            obtain ⟨f1, f2⟩ := fail hres
            rw [f1, f2, hT]
            refine wI Tryz.func166 ?_
            repeat' (first | refine wC ?_ | refine wK ?_ | ((with_reducible refine ze ?_); first | refine wN (.t (.bool true)) [] hV ?_ | refine wN (.tup [.t (.str es), .t (.int .i64 0)]) [] hE ?_) | refine xj rfl ?_ ?_ <;> intro hc)
            · exact absurd hc hs
            exact wE
        · rw [if_neg (fun h => h0 (congrArg (·.2) h.2.2.2))] at hres
          obtain ⟨f1, f2⟩ := fail hres
          rw [f1, f2, hT]
          refine wI Tryz.func166 ?_
          repeat' (first | refine wC ?_ | refine wK ?_ | ((with_reducible refine ze ?_); first | refine wN (.t (.bool true)) [] hV ?_ | refine wN (.tup [.t (.str es), .t (.int .i64 en)]) [] hE ?_) | refine xj rfl ?_ ?_ <;> intro hc | refine wq rfl ?_ ?_ <;> intro hc)
          all_goals try (exact absurd ‹en = 0› h0)
          all_goals exact wE
    · rw [if_neg (fun h => hrs h.2.1)] at hres
      obtain ⟨f1, f2⟩ := fail hres
      rw [f1, f2, hT]
      refine wI Tryz.func166 ?_
      repeat' (first | refine wC ?_ | refine wK ?_ | ((with_reducible refine ze ?_); exact absurd ‹_› hrs) | refine wq rfl ?_ ?_ <;> intro hc)
      exact wE
theorem zhF {V : ByteArray → Bool} (s : ByteArray) : zjt V s = if (x8 s).2.bad = false ∧ (x8 s).2.s = eS ∧ (x8 s).1.validB V 8 = true ∧ zfC V (x8 s).1 = (s, 0) then ((x8 s).1, 0) else (Nd.zero, 4) := rfl
set_option maxHeartbeats 8000000 in
theorem zg4 {oF oA : Obj} {V : ByteArray → Bool} (hS : vm oF oA V) (s : ByteArray) (hs : s.size ≤ 1000000) : Spec Tryz.prog 104 [.t (.str s)] [(.par 100, .dat (.fix 0 oF)), (.par 101, .dat (.fix 1 oA))] (.tup [.t (zjt V s).1.toT, .t (.int .i64 (zjt V s).2)]) [(.par 100, .dat (.fix 0 oF)), (.par 101, .dat (.fix 1 oA))] := by
  have hR : Spec Tryz.prog 168 [.ref (.par 0) 0 0 0, .t (.int .i64 8)] [(.par 0, Rs.row 195 ⟨s, false⟩)] (.t (x8 s).1.toT) [(.par 0, (x8 s).2.row 195)] := za6 8 (by omega) ⟨s, false⟩ hs
  have hle := kU 1000000 (by omega) 8 ⟨s, false⟩ hs
  have hg := zhs (s := s)
  have hD := zhF (V := V) s
  have hF := jv hS 195 103 s (x8 s).1 hle.2 (x8 s).2 (zfC V (x8 s).1) (fun h1 h2 h3 => by
    have := hg h1
    exact zcE hS (x8 s).1 hle.2 this.2 (fun _ => by omega)) (zjt V s) hD
  clear hD hg hle
  generalize zjt V s = res at hF ⊢
  generalize x8 s = y at hR hF
  obtain ⟨x, rs, rb⟩ := y
  obtain ⟨z, e⟩ := res
  have hT := x.toT_full
  have hZ := z.toT_full
  unfold Rs.row at hR hF
  simp only at hR hF ⊢
  rw [hT] at hR hF
  rw [hZ] at hF ⊢
  refine wI Tryz.func104 ?_
  repeat' (first | refine wC ?_ | refine wK ?_ | ((with_reducible refine ze ?_); first | refine wN (.t (.agg [.int .i64 x.kind, .bool x.bool, .int .i64 x.num, .str x.text, .sl 1 (x.names.map .str), .sl 6 (x.items.map Nd.toT)])) [(.par 0, .loc 9)] hR ?_ | refine wN (.tup [.t (.agg [.int .i64 z.kind, .bool z.bool, .int .i64 z.num, .str z.text, .sl 1 (z.names.map .str), .sl 6 (z.items.map Nd.toT)]), .t (.int .i64 e)]) [(.par 0, .loc 9)] hF ?_))
  exact wE
theorem vu {α : Type} [Inhabited α] (l : List α) (j : Nat) (h : j < l.length) : l.drop j = l.getD j default :: l.drop (j + 1) := by
  rw [List.drop_eq_getElem_cons h]; simp [List.getD_eq_getElem?_getD, h]
set_option maxHeartbeats 8000000 in
theorem zfn (x : Nd) (hx : x.Ok) : ∀ y : Nd, Spec Tryz.prog 22 [.t x.toT, .t y.toT] [] (.t (.bool (x.same y))) [] := by
  induction hx with
  | @mk k b n t ns is h1 h2 h3 ih =>
  intro y
  cases y with
  | mk k' b' n' t' ns' is' =>
  generalize hres : (Nd.mk k b n t ns is).same (Nd.mk k' b' n' t' ns' is') = res
  rw [Nd.same] at hres
  rw [Nd.toT_eq, Nd.toT_eq]
  by_cases hA : k = k' ∧ b = b' ∧ n = n' ∧ t = t' ∧ ns.length = ns'.length ∧ is.length = is'.length
  · obtain ⟨rfl, rfl, rfl, rfl, hn, hi⟩ := hA
    simp only [decide_true, Bool.true_and] at hres
    refine wI Tryz.func22 ?_
    repeat' (first | refine wC ?_ | refine wK ?_ | refine xj rfl ?_ ?_ <;> intro hc | refine wq rfl ?_ ?_ <;> intro hc)
    all_goals try (exact absurd rfl hc)
    all_goals try (exact absurd (congrArg (fun n : Nat => (n : Int)) hn) hc)
    all_goals try (exact absurd (congrArg (fun n : Nat => (n : Int)) hi) hc)
    refine zi (za [2, 3, 54, 55, 56] [.loc 2, .loc 3] rfl rfl) ?_
    refine zw (fun m env st => ∃ (j : Nat), j ≤ ns.length ∧ m = ns.length - j ∧ res = (decide (ns.drop j = ns'.drop j) && Nd.sames is is') ∧
        env = EnvL.get [(2, .ref (.loc 2) 0 0 0), (3, .ref (.loc 3) 0 0 0), (54, .t (.sl 1 (ns.map .str))), (55, .t (.int .i64 ns.length)), (56, .t (.int .i64 (j : Int)))] ∧
        st = StO.get [(.loc 2, some (.var 30 [.t (.int .i64 k), .t (.bool b), .t (.int .i64 n), .t (.str t), .t (.sl 1 (ns.map .str)), .t (.sl 6 (is.map Nd.toT))])), (.loc 3, some (.var 30 [.t (.int .i64 k), .t (.bool b), .t (.int .i64 n), .t (.str t), .t (.sl 1 (ns'.map .str)), .t (.sl 6 (is'.map Nd.toT))]))])
      ?_ (n := ns.length) ⟨0, by omega, by omega, hres.symm, rfl, rfl⟩
    rintro m env st ⟨j, hj, rfl, hr, rfl, rfl⟩
    by_cases hlt : j < ns.length
    · have e1 := vu ns j hlt
      have e2 := vu ns' j (by omega)
      rw [e1, e2] at hr
      repeat' (first | refine wC ?_ | refine wK ?_ | ((with_reducible refine zu ?_); refine zr rfl rfl rfl rfl rfl rfl ?_ ?_ ?_) | refine zh rfl ?_ ?_ <;> intro hc | refine xj rfl ?_ ?_ <;> intro hc)
      all_goals try omega
      all_goals try (exfalso; omega)
      · have hc' : ns'.getD j default = ns.getD j default := hc
        refine zM (n' := ns.length - (j + 1)) (by omega) (za [2, 3, 54, 55, 56] [.loc 2, .loc 3] rfl rfl) ⟨j + 1, by omega, rfl, ?_, ?_, rfl⟩
        · rw [hr, hc']; simp
        · rw [zy (by omega) (by omega)]; rfl
      · have hc' : ¬ ns'.getD j default = ns.getD j default := hc
        have hf : res = false := by
          rw [hr]
          simp only [List.cons.injEq, decide_eq_false (fun h : ns.getD j default = ns'.getD j default ∧ _ => hc' h.1.symm), Bool.false_and]
        rw [hf]
        exact zm (zj rfl rfl rfl) (by simp)
    · have hje : j = ns.length := by omega
      subst hje
      replace hr : res = Nd.sames is is' := by rw [hr, List.drop_length, hn, List.drop_length]; simp
      repeat' (first | refine wC ?_ | refine wK ?_ | ((with_reducible refine zu ?_); refine zr rfl rfl rfl rfl rfl rfl ?_ ?_ ?_) | refine zh rfl ?_ ?_ <;> intro hc | refine xj rfl ?_ ?_ <;> intro hc)
      all_goals try (exfalso; omega)
      refine zi (za [2, 3, 70, 71, 72] [.loc 2, .loc 3] rfl rfl) ?_
      refine zw (fun m env st => ∃ (j : Nat), j ≤ is.length ∧ m = is.length - j ∧ res = Nd.sames (is.drop j) (is'.drop j) ∧
          env = EnvL.get [(2, .ref (.loc 2) 0 0 0), (3, .ref (.loc 3) 0 0 0), (70, .t (.sl 6 (is.map Nd.toT))), (71, .t (.int .i64 is.length)), (72, .t (.int .i64 (j : Int)))] ∧
          st = StO.get [(.loc 2, some (.var 30 [.t (.int .i64 k), .t (.bool b), .t (.int .i64 n), .t (.str t), .t (.sl 1 (ns.map .str)), .t (.sl 6 (is.map Nd.toT))])), (.loc 3, some (.var 30 [.t (.int .i64 k), .t (.bool b), .t (.int .i64 n), .t (.str t), .t (.sl 1 (ns'.map .str)), .t (.sl 6 (is'.map Nd.toT))]))])
        ?_ (n := is.length) ⟨0, by omega, by omega, hr, rfl, rfl⟩
      clear hr hres
      rintro m env st ⟨j, hj, rfl, hr, rfl, rfl⟩
      by_cases hlt : j < is.length
      · have e1 := vu is j hlt
        have e2 := vu is' j (by omega)
        rw [e1, e2, Nd.sames] at hr
        have hm : is.getD (j : Int).toNat default ∈ is := by
          show is.getD j default ∈ is
          rw [List.getD_eq_getElem?_getD, List.getElem?_eq_getElem hlt]; exact List.getElem_mem _
        have hS : Spec Tryz.prog 22 [.t (is.getD (j : Int).toNat default).toT, .t (is'.getD (j : Int).toNat default).toT] [] (.t (.bool ((is.getD j default).same (is'.getD j default)))) [] := ih _ hm _
        generalize (is.getD j default).same (is'.getD j default) = v at hS hr
        have eX := (is.getD (j : Int).toNat default).toT_full
        have eY := (is'.getD (j : Int).toNat default).toT_full
        rw [eX, eY] at hS
        cases v with
        | false =>
          rw [Bool.false_and] at hr
          subst hr
          repeat' (first | refine wC ?_ | refine yh rfl rfl eX rfl rfl rfl rfl rfl rfl ?_ | refine yh rfl rfl eY rfl rfl rfl rfl rfl rfl ?_ | refine wK ?_ | ((with_reducible refine zu ?_); refine zr rfl rfl rfl rfl rfl rfl ?_ ?_ ?_) | ((with_reducible refine ze ?_); refine wL hS ?_) | refine zh rfl ?_ ?_ <;> intro hc)
          all_goals try omega
          all_goals try (exfalso; omega)
          exact zm (zj rfl rfl rfl) (by simp)
        | true =>
          rw [Bool.true_and] at hr
          repeat' (first | refine wC ?_ | refine yh rfl rfl eX rfl rfl rfl rfl rfl rfl ?_ | refine yh rfl rfl eY rfl rfl rfl rfl rfl rfl ?_ | refine wK ?_ | ((with_reducible refine zu ?_); refine zr rfl rfl rfl rfl rfl rfl ?_ ?_ ?_) | ((with_reducible refine ze ?_); refine wL hS ?_) | refine zh rfl ?_ ?_ <;> intro hc)
          all_goals try omega
          all_goals try (exfalso; omega)
          refine zM (n' := is.length - (j + 1)) (by omega) (za [2, 3, 70, 71, 72] [.loc 2, .loc 3] rfl rfl) ⟨j + 1, by omega, rfl, hr, ?_, rfl⟩
          rw [zy (by omega) (by omega)]; rfl
      · have hje : j = is.length := by omega
        subst hje
        replace hr : res = true := by rw [hr, List.drop_length, hi, List.drop_length]; rfl
        subst hr
        repeat' (first | refine wC ?_ | refine wK ?_ | ((with_reducible refine zu ?_); refine zr rfl rfl rfl rfl rfl rfl ?_ ?_ ?_) | refine zh rfl ?_ ?_ <;> intro hc)
        all_goals try (exfalso; omega)
        exact zm (zj rfl rfl rfl) (by simp)
  · have hf : res = false := by
      cases res with
      | false => rfl
      | true =>
        simp only [Bool.and_eq_true, decide_eq_true_eq] at hres
        obtain ⟨⟨⟨⟨⟨a1, a2⟩, a3⟩, a4⟩, a5⟩, a6⟩ := hres
        have a6 := (Nd.sames_iff is is').1 a6
        exact absurd ⟨a1, a2, a3, a4, by rw [a5], by rw [a6]⟩ hA
    subst hf
    refine wI Tryz.func22 ?_
    repeat' (first | refine wC ?_ | refine wK ?_ | refine xj rfl ?_ ?_ <;> intro hc | refine wq rfl ?_ ?_ <;> intro hc)
    · exact absurd ⟨‹k = k'›, ‹b = b'›, ‹n = n'›, ‹t = t'›, by omega, by omega⟩ hA
    all_goals exact zm (zj rfl rfl rfl) (by simp)
set_option maxHeartbeats 4000000 in
theorem zaT (ty : TypeId) (r : Rs) (i : Nat) (hi : i ≤ 3) (k : Int) (hk : k = 2 ^ i) (hs : r.s.size ≤ 1000000) : Spec Tryz.prog 245 [.ref (.par 0) 0 0 0, .t (.int .i64 k)] [(.par 0, r.row ty)] (.t (.int .i64 (r.count k).1)) [(.par 0, (r.count k).2.row ty)] := by
  subst hk
  have h8 : (2 : Int) ^ i ≤ 8 := by
    match i, hi with
    | 0, _ | 1, _ | 2, _ | 3, _ => decide
  have hU := jY ty r (2 ^ i) h8 (by omega)
  have hr := zaG (r := r) hi
  have hl := jm r (2 ^ i)
  have hF := jS ty (r.uint (2 ^ i)).2 (r.uint (2 ^ i)).1 hr.1 hr.2 (by omega)
  unfold Rs.count
  generalize (r.uint (2 ^ i)).2.fits (r.uint (2 ^ i)).1 = z at hF ⊢
  generalize r.uint (2 ^ i) = y at hU hF
  generalize (2 : Int) ^ i = k at *
  obtain ⟨z, zs, zb⟩ := z
  obtain ⟨y, ys, yb⟩ := y
  obtain ⟨s, bad⟩ := r
  unfold Rs.row at *
  simp only at hU hF ⊢
  refine wI Tryz.func245 ?_
  repeat' (first | refine wC ?_ | refine wK ?_ | ((with_reducible refine ze ?_); first | refine wN (.t (.int .u64 y)) [] hU ?_ | refine wN (.t (.int .i64 z)) [] hF ?_))
  exact zm (zj rfl rfl rfl) (zc ⟨rfl, trivial⟩)
theorem zg3 {l m : Int} (h0 : m ≤ l) (h1 : l ≤ m + 3) (h2 : 0 ≤ m) (h3 : l < 256) : IntKind.i64.wrap (1 * 2 ^ min (IntKind.u8.wrap (l - m)).toNat IntKind.i64.bits) = 2 ^ (l - m).toNat := by
  rw [xx (n := l - m) (by omega) (by omega)]
  have : (l - m).toNat = 0 ∨ (l - m).toNat = 1 ∨ (l - m).toNat = 2 ∨ (l - m).toNat = 3 := by omega
  rcases this with h | h | h | h <;> rw [h] <;> decide
set_option maxHeartbeats 8000000 in
theorem zbg (r : Rs) (hs : r.s.size ≤ 1000000) (c : Int) (c0 : 0 ≤ c) (c1 : c < 256) : Spec Tryz.prog 246 [.ref (.par 0) 0 0 0, .t (.int .u8 c)] [(.par 0, r.row 197)] (.t (.str (xA r c).1)) [(.par 0, (xA r c).2.row 197)] := by
  unfold xA
  by_cases hA : 160 ≤ c ∧ c < 192
  · rw [if_pos hA]
    have hT : ∀ k : Int, k = c - 160 → Spec Tryz.prog 240 [.ref (.par 0) 0 0 0, .t (.int .i64 k)] [(.par 0, r.row 197)] (.t (.str (r.take (c - 160)).1)) [(.par 0, (r.take (c - 160)).2.row 197)] := fun k hk => by subst hk; exact xu 197 r _ (by omega)
    generalize r.take (c - 160) = t at hT ⊢
    obtain ⟨t, ts, tb⟩ := t
    obtain ⟨s, bad⟩ := r
    unfold Rs.row at *
    simp only at hT ⊢
    refine wI Tryz.func246 ?_
    repeat' (first | refine wC ?_ | refine wK ?_ | ((with_reducible refine zO ?_); refine xB rfl rfl rfl rfl rfl rfl ?_ ?_) | ((with_reducible refine ze ?_); refine wP (r' := .t (.str t)) [] rfl rfl (hT _ ?_) (ArgsLE.refl _) rfl ⟨rfl, trivial⟩ rfl rfl rfl rfl rfl rfl rfl rfl rfl rfl ?_) | refine zh rfl ?_ ?_ <;> intro hc | refine zq rfl ?_ ?_ <;> intro hc)
    all_goals try (exfalso; omega)
    · rw [xx (by omega) (by omega), zy (by omega) (by omega)]
    · exact zm (zj rfl rfl rfl) (zc ⟨rfl, trivial⟩)
  · rw [if_neg hA]
    by_cases hB : 217 ≤ c ∧ c ≤ 219
    · rw [if_pos hB]
      obtain ⟨i, hi⟩ : ∃ i, (c - 217).toNat = i := ⟨_, rfl⟩
      have hsh := zg3 (l := c) (m := 217) hB.1 (by omega) (by omega) c1
      rw [hi] at hsh ⊢
      have hC : ∀ k : Int, k = 2 ^ i → Spec Tryz.prog 245 [.ref (.par 0) 0 0 0, .t (.int .i64 k)] [(.par 0, r.row 197)] (.t (.int .i64 (r.count (2 ^ i)).1)) [(.par 0, (r.count (2 ^ i)).2.row 197)] := fun k hk => by subst hk; exact zaT 197 r i (by omega) _ rfl hs
      have hl := (k6 r (2 ^ i)).1
      have hT := xu 197 (r.count (2 ^ i)).2 (r.count (2 ^ i)).1 (by omega)
      generalize (r.count (2 ^ i)).2.take (r.count (2 ^ i)).1 = t at hT ⊢
      generalize r.count (2 ^ i) = y at hC hT
      generalize (2 : Int) ^ i = k at *
      obtain ⟨y, ys, yb⟩ := y
      obtain ⟨t, ts, tb⟩ := t
      obtain ⟨s, bad⟩ := r
      unfold Rs.row at *
      simp only at hC hT ⊢
      refine wI Tryz.func246 ?_
      repeat' (first | refine wC ?_ | refine wK ?_ | ((with_reducible refine zO ?_); refine xB rfl rfl rfl rfl rfl rfl ?_ ?_) | ((with_reducible refine ze ?_); first | refine wN (.t (.int .i64 y)) [] (hC _ hsh) ?_ | refine wN (.t (.str t)) [] hT ?_) | refine zh rfl ?_ ?_ <;> intro hc | refine zq rfl ?_ ?_ <;> intro hc)
      all_goals try (exfalso; omega)
      all_goals try (rw [xx (by omega) (by omega)]; omega)
      exact zm (zj rfl rfl rfl) (zc ⟨rfl, trivial⟩)
    · rw [if_neg hB]
      obtain ⟨s, bad⟩ := r
      unfold Rs.row at *
      simp only
      refine wI Tryz.func246 ?_
      repeat' (first | refine wC ?_ | refine wK ?_ | ((with_reducible refine zO ?_); refine xB rfl rfl rfl rfl rfl rfl ?_ ?_) | refine zh rfl ?_ ?_ <;> intro hc | refine zq rfl ?_ ?_ <;> intro hc)
      all_goals try (exfalso; omega)
      all_goals exact zm (zj rfl rfl rfl) (zc ⟨rfl, trivial⟩)
theorem zi8 {i : Nat} (hi : i ≤ 3) {u : Int} (h0 : 0 ≤ u) (h1 : u < (256 : Int) ^ (2 ^ i)) : IntKind.i64.wrap (IntKind.u64.wrap (u * 2 ^ min (IntKind.i64.wrap (64 - IntKind.i64.wrap (8 * (2 : Int) ^ i))).toNat IntKind.u64.bits)) / 2 ^ min (IntKind.i64.wrap (64 - IntKind.i64.wrap (8 * (2 : Int) ^ i))).toNat IntKind.i64.bits = sx (2 ^ i) u := by
  have w : ∀ x : Int, IntKind.u64.wrap x = x % 18446744073709551616 := fun x => by
    simp only [IntKind.wrap, IntKind.bits, IntKind.signed, Bool.false_and, Bool.false_eq_true, if_false]; rfl
  have v : ∀ x : Int, 0 ≤ x → x < 18446744073709551616 → IntKind.i64.wrap x = if x < 9223372036854775808 then x else x - 18446744073709551616 := fun x hx hx2 => by
    simp only [IntKind.wrap, IntKind.signed, IntKind.bits]
    simp
    split <;> split <;> omega
  match i, hi with
  | 0, _ =>
    rw [show min (IntKind.i64.wrap (64 - IntKind.i64.wrap (8 * (2 : Int) ^ 0))).toNat IntKind.u64.bits = 56 by decide, show min (IntKind.i64.wrap (64 - IntKind.i64.wrap (8 * (2 : Int) ^ 0))).toNat IntKind.i64.bits = 56 by decide, w, v _ (by omega) (by omega)]
    simp at h1
    unfold sx
    simp
    split <;> split <;> omega
  | 1, _ =>
    rw [show min (IntKind.i64.wrap (64 - IntKind.i64.wrap (8 * (2 : Int) ^ 1))).toNat IntKind.u64.bits = 48 by decide, show min (IntKind.i64.wrap (64 - IntKind.i64.wrap (8 * (2 : Int) ^ 1))).toNat IntKind.i64.bits = 48 by decide, w, v _ (by omega) (by omega)]
    simp at h1
    unfold sx
    simp
    split <;> split <;> omega
  | 2, _ =>
    rw [show min (IntKind.i64.wrap (64 - IntKind.i64.wrap (8 * (2 : Int) ^ 2))).toNat IntKind.u64.bits = 32 by decide, show min (IntKind.i64.wrap (64 - IntKind.i64.wrap (8 * (2 : Int) ^ 2))).toNat IntKind.i64.bits = 32 by decide, w, v _ (by omega) (by omega)]
    simp at h1
    unfold sx
    simp
    split <;> split <;> omega
  | 3, _ =>
    rw [show min (IntKind.i64.wrap (64 - IntKind.i64.wrap (8 * (2 : Int) ^ 3))).toNat IntKind.u64.bits = 0 by decide, show min (IntKind.i64.wrap (64 - IntKind.i64.wrap (8 * (2 : Int) ^ 3))).toNat IntKind.i64.bits = 0 by decide, w, v _ (by omega) (by omega)]
    simp at h1
    unfold sx
    simp
    split <;> split <;> omega
theorem zkc : ∀ c : Fin 256, 224 ≤ c.val → IntKind.i64.wrap (IntKind.i8.wrap (c.val : Int)) = (c.val : Int) - 256 := by decide +kernel
theorem zaX {r : Rs} {i : Nat} (hi : i ≤ 3) : 0 ≤ (r.uint (2 ^ i)).1 ∧ (r.uint (2 ^ i)).1 < (256 : Int) ^ (2 ^ i) := by
  by_cases h : (r.uint (2 ^ i)).2.bad = false
  · exact (ww hi h).2.2
  · have hb : (r.take (2 ^ i)).2.bad = true := by
      have : (r.uint (2 ^ i)).2 = (r.take (2 ^ i)).2 := rfl
      rw [this] at h; simpa using h
    have he : (r.take (2 ^ i)).1 = eS := by
      unfold Rs.take at hb ⊢
      split
      · rfl
      · rename_i hn; rw [if_neg hn] at hb; simp at hb
    unfold Rs.uint
    rw [he]
    exact ⟨Int.le_refl 0, Int.pow_pos (by decide)⟩
set_option maxHeartbeats 8000000 in
theorem zfQ (r : Rs) (hs : r.s.size ≤ 1000000) (c : Int) (c0 : 0 ≤ c) (c1 : c < 256) : Spec Tryz.prog 247 [.ref (.par 0) 0 0 0, .t (.int .u8 c)] [(.par 0, r.row 197)] (.t (.int .i64 (xz r c).1)) [(.par 0, (xz r c).2.row 197)] := by
  have hU : ∀ (m : Int) (i : Nat) (k : Int), k = 2 ^ i → i ≤ 3 → Spec Tryz.prog 281 [.ref (.par 0) 0 0 0, .t (.int .i64 k)] [(.par 0, r.row 197)] (.t (.int .u64 (r.uint (2 ^ i)).1)) [(.par 0, (r.uint (2 ^ i)).2.row 197)] := fun m i k hk hi => by
    subst hk
    refine jY 197 r _ ?_ (by omega)
    match i, hi with
    | 0, _ | 1, _ | 2, _ | 3, _ => decide
  unfold xz
  by_cases hA : c < 128
  · rw [if_pos hA]
    obtain ⟨s, bad⟩ := r
    unfold Rs.row at *
    simp only
    refine wI Tryz.func247 ?_
    repeat' (first | refine wC ?_ | refine wK ?_ | ((with_reducible refine zO ?_); refine xB rfl rfl rfl rfl rfl rfl ?_ ?_) | refine zh rfl ?_ ?_ <;> intro hc | refine zq rfl ?_ ?_ <;> intro hc)
    all_goals try (exfalso; omega)
    exact zm (zj rfl rfl (congrArg (T.int .i64) (zy (by omega) (by omega)))) (zc ⟨rfl, trivial⟩)
  rw [if_neg hA]
  by_cases hB : 224 ≤ c
  · rw [if_pos hB]
    have h8 := zkc ⟨c.toNat, by omega⟩ (by simp only; omega)
    simp only at h8
    rw [show ((c.toNat : Nat) : Int) = c by omega] at h8
    obtain ⟨s, bad⟩ := r
    unfold Rs.row at *
    simp only
    refine wI Tryz.func247 ?_
    repeat' (first | refine wC ?_ | refine wK ?_ | ((with_reducible refine zO ?_); refine xB rfl rfl rfl rfl rfl rfl ?_ ?_) | refine zh rfl ?_ ?_ <;> intro hc | refine zq rfl ?_ ?_ <;> intro hc)
    all_goals try (exfalso; omega)
    exact zm (zj rfl rfl (congrArg (T.int .i64) h8)) (zc ⟨rfl, trivial⟩)
  rw [if_neg hB]
  by_cases hC : 204 ≤ c ∧ c ≤ 207
  · rw [if_pos hC]
    obtain ⟨i, hi⟩ : ∃ i, (c - 204).toNat = i := ⟨_, rfl⟩
    have hsh := zg3 (l := c) (m := 204) hC.1 (by omega) (by omega) c1
    rw [hi] at hsh ⊢
    have hU := hU 0 i _ hsh (by omega)
    generalize r.uint (2 ^ i) = y at hU ⊢
    obtain ⟨y, ys, yb⟩ := y
    obtain ⟨s, bad⟩ := r
    unfold Rs.row at *
    simp only at hU ⊢
    clear hsh
    refine wI Tryz.func247 ?_
    repeat' (first | refine wC ?_ | refine wK ?_ | ((with_reducible refine zO ?_); refine xB rfl rfl rfl rfl rfl rfl ?_ ?_) | ((with_reducible refine ze ?_); refine wN (.t (.int .u64 y)) [] hU ?_) | refine zh rfl ?_ ?_ <;> intro hc | refine zq rfl ?_ ?_ <;> intro hc)
    all_goals try (exfalso; omega)
    all_goals try (rw [xx (by omega) (by omega)]; omega)
    exact zm (zj rfl rfl rfl) (zc ⟨rfl, trivial⟩)
  rw [if_neg hC]
  by_cases hD : 208 ≤ c ∧ c ≤ 211
  · rw [if_pos hD]
    obtain ⟨i, hi⟩ : ∃ i, (c - 208).toNat = i := ⟨_, rfl⟩
    have hsh := zg3 (l := c) (m := 208) hD.1 (by omega) (by omega) c1
    rw [hi] at hsh ⊢
    have hi3 : i ≤ 3 := by omega
    have hU := hU 0 i _ hsh hi3
    have hub := zaX (r := r) hi3
    have hsx := zi8 hi3 hub.1 hub.2
    generalize r.uint (2 ^ i) = y at hU hub hsx ⊢
    rw [← hsh] at hsx
    obtain ⟨y, ys, yb⟩ := y
    obtain ⟨s, bad⟩ := r
    unfold Rs.row at *
    simp only at hU hsx ⊢
    have hpos : 0 ≤ IntKind.i64.wrap (64 - IntKind.i64.wrap (8 * IntKind.i64.wrap (1 * 2 ^ min (IntKind.u8.wrap (c - 208)).toNat IntKind.i64.bits))) := by
      rw [hsh]
      match i, hi3 with
      | 0, _ | 1, _ | 2, _ | 3, _ => decide
    refine wI Tryz.func247 ?_
    repeat' (first | refine wC ?_ | refine wK ?_ | ((with_reducible refine zO ?_); first | refine xB rfl rfl rfl rfl rfl rfl ?_ ?_ | refine zas rfl rfl rfl rfl rfl rfl ?_ ?_) | ((with_reducible refine ze ?_); refine wN (.t (.int .u64 y)) [] hU ?_) | refine zh rfl ?_ ?_ <;> intro hc | refine zq rfl ?_ ?_ <;> intro hc)
    all_goals try (exfalso; omega)
    all_goals try (rw [xx (by omega) (by omega)]; omega)
    all_goals try (exact hpos)
    exact zm (zj rfl rfl (congrArg (T.int .i64) hsx)) (zc ⟨rfl, trivial⟩)
  · rw [if_neg hD]
    obtain ⟨s, bad⟩ := r
    unfold Rs.row at *
    simp only
    refine wI Tryz.func247 ?_
    repeat' (first | refine wC ?_ | refine wK ?_ | ((with_reducible refine zO ?_); refine xB rfl rfl rfl rfl rfl rfl ?_ ?_) | refine zh rfl ?_ ?_ <;> intro hc | refine zq rfl ?_ ?_ <;> intro hc)
    all_goals try (exfalso; omega)
    all_goals exact zm (zj rfl rfl rfl) (zc ⟨rfl, trivial⟩)
set_option maxHeartbeats 8000000 in
theorem zdj (d : Nat) (hd : d ≤ 1000) (B : Nat) (hB : B ≤ 1000000)
    (IH : ∀ q : Rs, q.s.size ≤ B → Spec Tryz.prog 169 [.ref (.par 0) 0 0 0, .t (.int .i64 (d : Int))] [(.par 0, q.row 197)] (.t (z6 d q).1.toT) [(.par 0, (z6 d q).2.row 197)])
    (k : Int) (hk : k = 4 ∨ k = 5) (c : Nat) (hc : c ≤ 1000000) (r : Rs) (hr : r.s.size ≤ B) :
    Spec Tryz.prog 244 [.ref (.par 0) 0 0 0, .t (.agg [.int .i64 k, .bool false, .int .i64 0, .str ⟨#[]⟩, .nilsl, .nilsl]), .t (.int .i64 (c : Int)), .t (.int .i64 ((d + 1 : Nat) : Int))] [(.par 0, r.row 197)] (.t (zG z7 (z6 d) k c [] [] r).1.toT) [(.par 0, (zG z7 (z6 d) k c [] [] r).2.row 197)] := by
  generalize hres : zG z7 (z6 d) k c [] [] r = res
  have hNB := vH B (by omega) d
  generalize z6 d = f at *
  unfold Rs.row
  refine wIG Tryz.func244 ?_
  repeat' (first | refine wC ?_ | refine wK ?_ | fail)
  refine zi (zJ (r := .loc 5) 5 (.loc 900) 30 6 rfl rfl rfl rfl rfl) ?_
  refine zi (zJ (r := .loc 5) 4 (.loc 901) 9 1 rfl rfl rfl rfl rfl) ?_
  refine zi (za [0, 2, 3, 5, 8] [.par 0, .loc 5, .loc 8, .loc 900, .loc 901] rfl rfl) ?_
  refine zw (fun m env st => ∃ (j : Nat) (ns : List ByteArray) (is : List Nd) (q : Rs), m = j ∧ j ≤ 1000000 ∧ ns.length + j ≤ 1000000 ∧ is.length + j ≤ 1000000 ∧ q.s.size ≤ B ∧ zG z7 f k j ns is q = res ∧
      env = EnvL.get [(0, .ref (.par 0) 0 0 0), (2, .t (.int .i64 (j : Int))), (3, .t (.int .i64 ((d + 1 : Nat) : Int))), (5, .ref (.loc 5) 0 0 0), (8, .ref (.loc 8) 0 0 0)] ∧
      st = StO.get [(.par 0, some (.var 197 [.t (.str q.s), .t (.bool q.bad)])), (.loc 5, some (.var 30 [.t (.int .i64 k), .t (.bool false), .t (.int .i64 0), .t (.str ⟨#[]⟩), .row (.loc 901), .row (.loc 900)])), (.loc 8, some (.var 30 [.t (.int .i64 0), .t (.bool false), .t (.int .i64 0), .t (.str ⟨#[]⟩), .t .nilsl, .t .nilsl])), (.loc 900, some (.slt 30 6 (is.map Nd.toT))), (.loc 901, some (.slt 9 1 (ns.map .str)))])
    ?_ (n := c) ⟨c, [], [], r, rfl, by omega, by simp; omega, by simp; omega, hr, hres, rfl, rfl⟩
  rintro m env st ⟨j, ns, is, q, rfl, hj, hns, his, hq, hi, rfl, rfl⟩
  have hN : ∀ (v : Int) (q : Rs), v = (d : Int) → q.s.size ≤ B → Spec Tryz.prog 169 [.ref (.par 0) 0 0 0, .t (.int .i64 v)] [(.par 0, .var 197 [.t (.str q.s), .t (.bool q.bad)])] (.t (f q).1.toT) [(.par 0, .var 197 [.t (.str (f q).2.s), .t (.bool (f q).2.bad)])] := fun v q hv hq => by subst hv; exact IH q hq
  cases m with
  | zero =>
    rw [zG] at hi
    repeat' (first | refine wC ?_ | refine wK ?_ | fail)
    rw [← hi]
    simp only
    rw [Nd.toT_eq]
    refine zk (za [8] [.par 0, .loc 8, .loc 900, .loc 901] rfl rfl) ?_
    refine zk (zv (id := .loc 900) rfl rfl rfl) ?_; refine zk (zv (id := .loc 901) rfl rfl rfl) ?_
    exact wB
  | succ j =>
    rw [zG] at hi
    obtain ⟨qs, qb⟩ := q
    cases qb with
    | true =>
      rw [if_pos rfl] at hi
      repeat' (first | refine wC ?_ | refine wK ?_ | refine zq rfl ?_ ?_ <;> intro hc)
      all_goals try (exfalso; omega)
      rw [← hi]
      simp only
      rw [Nd.toT_eq]
      refine zk (za [8] [.par 0, .loc 8, .loc 900, .loc 901] rfl rfl) ?_
      refine zk (zv (id := .loc 900) rfl rfl rfl) ?_; refine zk (zv (id := .loc 901) rfl rfl rfl) ?_
      exact wB
    | false =>
      rw [if_neg (by simp)] at hi
      rcases hk with rfl | rfl
      · rw [if_neg (by decide)] at hi
        replace hN := hN (IntKind.i64.wrap (((d + 1 : Nat) : Int) - 1)) ⟨qs, false⟩ (by rw [zy (by omega) (by omega)]; omega) hq
        have hb := hNB ⟨qs, false⟩ hq
        generalize f ⟨qs, false⟩ = y at hi hN hb
        obtain ⟨x, us, ub⟩ := y
        have hT := x.toT_full
        simp only at hN hi hb
        rw [hT] at hN
        repeat' (first | refine wC ?_ | refine wK ?_ | ((with_reducible refine zo ?_); refine zf rfl rfl rfl rfl rfl rfl rfl rfl rfl rfl ?_ ?_ ?_) | ((with_reducible refine ze ?_); refine wN (.t (.agg [.int .i64 x.kind, .bool x.bool, .int .i64 x.num, .str x.text, .sl 1 (x.names.map .str), .sl 6 (x.items.map Nd.toT)])) [] hN ?_) | refine zq rfl ?_ ?_ <;> intro hc)
        all_goals try (exfalso; omega)
        all_goals try (simp only [List.length_map, List.length_cons, List.length_nil]; omega)
        refine zM (n' := j) (by omega) ((za [0, 2, 3, 5, 8] [.par 0, .loc 5, .loc 8, .loc 42, .loc 901] rfl rfl).trans (zd (.loc 42) (.loc 900) rfl rfl rfl rfl)) ⟨j, ns, is ++ [x], ⟨us, ub⟩, rfl, by omega, by omega, by simp only [List.length_append, List.length_cons, List.length_nil]; omega, hb.1, hi, ?_, ?_⟩
        · rw [zy (by omega) (by omega), show ((j + 1 : Nat) : Int) - 1 = j by omega]; rfl
        · rw [List.map_append, List.map_singleton, hT]; rfl
      · rw [if_pos rfl] at hi
        have hB0 := wy 197 ⟨qs, false⟩ (by have := Nat.le_trans hq hB; omega)
        have hBr := y4 ⟨qs, false⟩
        have hBl := xy ⟨qs, false⟩
        have hM : Spec Tryz.prog 246 [.ref (.par 0) 0 0 0, .t (.int .u8 (Rs.mk qs false).byte.1)] [(.par 0, (Rs.mk qs false).byte.2.row 197)] (.t (.str (z7 ⟨qs, false⟩).1)) [(.par 0, (z7 ⟨qs, false⟩).2.row 197)] := zbg (Rs.mk qs false).byte.2 (by have := Nat.le_trans hq hB; have h2 : (Rs.mk qs false).s.size = qs.size := rfl; simp only at hBl; omega) _ hBr.1 hBr.2
        have hM2 := zeI ⟨qs, false⟩
        generalize z7 ⟨qs, false⟩ = z at hi hM hM2
        generalize (Rs.mk qs false).byte = w at hB0 hM hBr hBl
        obtain ⟨cb, ws, wb⟩ := w
        obtain ⟨nm, ps, pb⟩ := z
        simp only at hi hM hM2 hB0
        replace hN := hN (IntKind.i64.wrap (((d + 1 : Nat) : Int) - 1)) ⟨ps, pb⟩ (by rw [zy (by omega) (by omega)]; omega) (Nat.le_trans hM2.1 hq)
        have hb := hNB ⟨ps, pb⟩ (Nat.le_trans hM2.1 hq)
        generalize f ⟨ps, pb⟩ = y at hi hN hb
        obtain ⟨x, us, ub⟩ := y
        have hT := x.toT_full
        unfold Rs.row at hM hB0
        simp only at hN hi hb hM hB0
        rw [hT] at hN
        repeat' (first | refine wC ?_ | refine wK ?_ | ((with_reducible refine zo ?_); refine zf rfl rfl rfl rfl rfl rfl rfl rfl rfl rfl ?_ ?_ ?_) | ((with_reducible refine ze ?_); first | refine wN (.t (.int .u8 cb)) [] hB0 ?_ | refine wN (.t (.str nm)) [] hM ?_ | refine wN (.t (.agg [.int .i64 x.kind, .bool x.bool, .int .i64 x.num, .str x.text, .sl 1 (x.names.map .str), .sl 6 (x.items.map Nd.toT)])) [] hN ?_) | refine zq rfl ?_ ?_ <;> intro hc)
        all_goals try (exfalso; omega)
        all_goals try (simp only [List.length_map, List.length_cons, List.length_nil]; omega)
        refine zM (n' := j) (by omega) ((za [0, 2, 3, 5, 8] [.par 0, .loc 5, .loc 8, .loc 42, .loc 33] rfl rfl).trans ((zd (.loc 42) (.loc 900) rfl rfl rfl rfl).trans (zd (.loc 33) (.loc 901) rfl rfl rfl rfl))) ⟨j, ns ++ [nm], is ++ [x], ⟨us, ub⟩, rfl, by omega, by simp only [List.length_append, List.length_cons, List.length_nil]; omega, by simp only [List.length_append, List.length_cons, List.length_nil]; omega, hb.1, hi, ?_, ?_⟩
        · rw [zy (by omega) (by omega), show ((j + 1 : Nat) : Int) - 1 = j by omega]; rfl
        · rw [List.map_append, List.map_append, List.map_singleton, List.map_singleton, hT]; rfl
set_option maxHeartbeats 16000000 in
theorem zaz : ∀ (d : Nat), d ≤ 1000 → ∀ r : Rs, r.s.size ≤ 1000000 → Spec Tryz.prog 169 [.ref (.par 0) 0 0 0, .t (.int .i64 (d : Int))] [(.par 0, r.row 197)] (.t (z6 d r).1.toT) [(.par 0, (z6 d r).2.row 197)]
  | 0, hd, r, hr => by
    have hH := wy 197 r (by omega)
    rw [z6]
    generalize r.byte = h at hH ⊢
    obtain ⟨c, qs, qb⟩ := h
    obtain ⟨s, bad⟩ := r
    unfold Rs.row at hH ⊢
    simp only at hH ⊢
    rw [yR]
    refine wI Tryz.func169 ?_
    repeat' (first | refine wC ?_ | refine wK ?_ | ((with_reducible refine ze ?_); refine wN (.t (.int .u8 c)) [] hH ?_))
    exact wD
  | d + 1, hd, r, hr => by
    have hH := wy 197 r (by omega)
    have hcr := y4 r
    have hql := xy r
    have IH := zaz d (by omega)
    obtain ⟨c, q, hh⟩ : ∃ c q, r.byte = (c, q) := ⟨_, _, rfl⟩
    rw [yW hh]
    rw [hh] at hH hcr hql
    simp only at hH hcr hql
    have hq1 : q.s.size ≤ 1000000 := by omega
    have hI : ∀ (k : Int), k = 4 ∨ k = 5 → ∀ (v : Int) (n : Nat) (z : Rs), v = (n : Int) → n ≤ 1000000 → z.s.size ≤ 1000000 → Spec Tryz.prog 244 [.ref (.par 0) 0 0 0, .t (.agg [.int .i64 k, .bool false, .int .i64 0, .str ⟨#[]⟩, .nilsl, .nilsl]), .t (.int .i64 v), .t (.int .i64 ((d + 1 : Nat) : Int))] [(.par 0, z.row 197)] (.t (zG z7 (z6 d) k n [] [] z).1.toT) [(.par 0, (zG z7 (z6 d) k n [] [] z).2.row 197)] := fun k hk v n z hv hn hz => by
      subst hv
      exact zdj d (by omega) 1000000 (by omega) (fun q hq => IH q hq) k hk n hn z hz
    have hC := zaT 197 q 1 (by omega) 2 rfl hq1
    have hCl := k6 q 2
    have hCg : 0 ≤ (q.count 2).1 := zf9 (zaX (r := q) (i := 1) (by omega)).1
    have hT := zbg q hq1 c hcr.1 hcr.2
    have hN := zfQ q hq1 c hcr.1 hcr.2
    clear IH
    by_cases h192 : c = 192
    · subst h192
      rw [if_pos rfl]
      clear hI hC hT hN
      obtain ⟨qs, qb⟩ := q
      obtain ⟨s, bad⟩ := r
      unfold Rs.row at *
      simp only at hH ⊢
      rw [yR]
      refine wI Tryz.func169 ?_
      repeat' (first | refine wC ?_ | refine wK ?_ | ((with_reducible refine ze ?_); refine wN (.t (.int .u8 192)) [] hH ?_))
      all_goals try (exfalso; omega)
      exact wD
    by_cases h194 : c = 194
    · subst h194
      rw [if_neg (by decide), if_pos (.inl rfl)]
      clear hI hC hT hN
      obtain ⟨qs, qb⟩ := q
      obtain ⟨s, bad⟩ := r
      unfold Rs.row at *
      simp only at hH ⊢
      rw [Nd.toT_eq]
      refine wI Tryz.func169 ?_
      repeat' (first | refine wC ?_ | refine wK ?_ | ((with_reducible refine ze ?_); refine wN (.t (.int .u8 194)) [] hH ?_))
      all_goals try (exfalso; omega)
      exact wD
    by_cases h195 : c = 195
    · subst h195
      rw [if_neg (by decide), if_pos (.inr rfl)]
      clear hI hC hT hN
      obtain ⟨qs, qb⟩ := q
      obtain ⟨s, bad⟩ := r
      unfold Rs.row at *
      simp only at hH ⊢
      rw [Nd.toT_eq]
      refine wI Tryz.func169 ?_
      repeat' (first | refine wC ?_ | refine wK ?_ | ((with_reducible refine ze ?_); refine wN (.t (.int .u8 195)) [] hH ?_))
      all_goals try (exfalso; omega)
      exact wD
    rw [if_neg h192, if_neg (by omega)]
    by_cases hm : 128 ≤ c ∧ c < 144
    · rw [if_pos hm]
      have hJ := fun v h => hI 5 (by omega) v (c - 128).toNat q h (by omega) hq1
      clear hI hC hT hN
      generalize zG z7 (z6 d) 5 (c - 128).toNat [] [] q = y at hJ ⊢
      obtain ⟨x, xs, xb⟩ := y
      have hx := x.toT_full
      obtain ⟨qs, qb⟩ := q
      obtain ⟨s, bad⟩ := r
      unfold Rs.row at *
      simp only at hH hJ ⊢
      rw [hx] at hJ ⊢
      refine wI Tryz.func169 ?_
      repeat' (first | refine wC ?_ | refine wK ?_ | ((with_reducible refine ze ?_); first | refine wN (.t (.int .u8 c)) [] hH ?_ | refine wP (r' := .t (.agg [.int .i64 x.kind, .bool x.bool, .int .i64 x.num, .str x.text, .sl 1 (x.names.map .str), .sl 6 (x.items.map Nd.toT)])) [] rfl rfl (hJ _ ?_) (ArgsLE.refl _) rfl ⟨rfl, trivial⟩ rfl rfl rfl rfl rfl rfl rfl rfl rfl rfl ?_) | refine zh rfl ?_ ?_ <;> intro hc | refine zq rfl ?_ ?_ <;> intro hc)
      all_goals try (exfalso; omega)
      · rw [xx (by omega) (by omega), zy (by omega) (by omega)]; omega
      · exact wD
    rw [if_neg hm]
    by_cases h222 : c = 222
    · subst h222
      rw [if_pos rfl]
      have hJ := fun v h => hI 5 (by omega) v (q.count 2).1.toNat (q.count 2).2 h (by omega) (by omega)
      replace hJ := hJ (q.count 2).1 (by omega)
      clear hI hT hN
      generalize zG z7 (z6 d) 5 (q.count 2).1.toNat [] [] (q.count 2).2 = y at hJ ⊢
      generalize q.count 2 = z at hC hJ
      obtain ⟨z, zs, zb⟩ := z
      obtain ⟨x, xs, xb⟩ := y
      have hx := x.toT_full
      obtain ⟨qs, qb⟩ := q
      obtain ⟨s, bad⟩ := r
      unfold Rs.row at *
      simp only at hH hC hJ ⊢
      rw [hx] at hJ ⊢
      refine wI Tryz.func169 ?_
      repeat' (first | refine wC ?_ | refine wK ?_ | ((with_reducible refine ze ?_); first | refine wN (.t (.int .u8 222)) [] hH ?_ | refine wN (.t (.int .i64 z)) [] hC ?_ | refine wN (.t (.agg [.int .i64 x.kind, .bool x.bool, .int .i64 x.num, .str x.text, .sl 1 (x.names.map .str), .sl 6 (x.items.map Nd.toT)])) [] hJ ?_))
      all_goals try (exfalso; omega)
      exact wD
    rw [if_neg h222]
    by_cases hl : 144 ≤ c ∧ c < 160
    · rw [if_pos hl]
      have hJ := fun v h => hI 4 (by omega) v (c - 144).toNat q h (by omega) hq1
      clear hI hC hT hN
      generalize zG z7 (z6 d) 4 (c - 144).toNat [] [] q = y at hJ ⊢
      obtain ⟨x, xs, xb⟩ := y
      have hx := x.toT_full
      obtain ⟨qs, qb⟩ := q
      obtain ⟨s, bad⟩ := r
      unfold Rs.row at *
      simp only at hH hJ ⊢
      rw [hx] at hJ ⊢
      refine wI Tryz.func169 ?_
      repeat' (first | refine wC ?_ | refine wK ?_ | ((with_reducible refine ze ?_); first | refine wN (.t (.int .u8 c)) [] hH ?_ | refine wP (r' := .t (.agg [.int .i64 x.kind, .bool x.bool, .int .i64 x.num, .str x.text, .sl 1 (x.names.map .str), .sl 6 (x.items.map Nd.toT)])) [] rfl rfl (hJ _ ?_) (ArgsLE.refl _) rfl ⟨rfl, trivial⟩ rfl rfl rfl rfl rfl rfl rfl rfl rfl rfl ?_) | refine zh rfl ?_ ?_ <;> intro hc | refine zq rfl ?_ ?_ <;> intro hc)
      all_goals try (exfalso; omega)
      · rw [xx (by omega) (by omega), zy (by omega) (by omega)]; omega
      · exact wD
    rw [if_neg hl]
    by_cases h220 : c = 220
    · subst h220
      rw [if_pos rfl]
      have hJ := fun v h => hI 4 (by omega) v (q.count 2).1.toNat (q.count 2).2 h (by omega) (by omega)
      replace hJ := hJ (q.count 2).1 (by omega)
      clear hI hT hN
      generalize zG z7 (z6 d) 4 (q.count 2).1.toNat [] [] (q.count 2).2 = y at hJ ⊢
      generalize q.count 2 = z at hC hJ
      obtain ⟨z, zs, zb⟩ := z
      obtain ⟨x, xs, xb⟩ := y
      have hx := x.toT_full
      obtain ⟨qs, qb⟩ := q
      obtain ⟨s, bad⟩ := r
      unfold Rs.row at *
      simp only at hH hC hJ ⊢
      rw [hx] at hJ ⊢
      refine wI Tryz.func169 ?_
      repeat' (first | refine wC ?_ | refine wK ?_ | ((with_reducible refine ze ?_); first | refine wN (.t (.int .u8 220)) [] hH ?_ | refine wN (.t (.int .i64 z)) [] hC ?_ | refine wN (.t (.agg [.int .i64 x.kind, .bool x.bool, .int .i64 x.num, .str x.text, .sl 1 (x.names.map .str), .sl 6 (x.items.map Nd.toT)])) [] hJ ?_))
      all_goals try (exfalso; omega)
      exact wD
    rw [if_neg h220]
    by_cases ht : (160 ≤ c ∧ c < 192) ∨ (217 ≤ c ∧ c ≤ 219)
    · rw [if_pos ht]
      clear hI hC hN
      generalize xA q c = t at hT ⊢
      obtain ⟨t, ts, tb⟩ := t
      obtain ⟨qs, qb⟩ := q
      obtain ⟨s, bad⟩ := r
      unfold Rs.row at *
      simp only at hH hT ⊢
      rw [Nd.toT_eq]
      refine wI Tryz.func169 ?_
      repeat' (first | refine wC ?_ | refine wK ?_ | ((with_reducible refine ze ?_); first | refine wN (.t (.int .u8 c)) [] hH ?_ | refine wN (.t (.str t)) [] hT ?_) | refine zh rfl ?_ ?_ <;> intro hc | refine zq rfl ?_ ?_ <;> intro hc)
      all_goals try (exfalso; omega)
      all_goals exact wD
    · rw [if_neg ht]
      clear hI hC hT
      generalize xz q c = t at hN ⊢
      obtain ⟨t, ts, tb⟩ := t
      obtain ⟨qs, qb⟩ := q
      obtain ⟨s, bad⟩ := r
      unfold Rs.row at *
      simp only at hH hN ⊢
      rw [Nd.toT_eq]
      refine wI Tryz.func169 ?_
      repeat' (first | refine wC ?_ | refine wK ?_ | ((with_reducible refine ze ?_); first | refine wN (.t (.int .u8 c)) [] hH ?_ | refine wN (.t (.int .i64 t)) [] hN ?_) | refine zh rfl ?_ ?_ <;> intro hc | refine zq rfl ?_ ?_ <;> intro hc)
      all_goals try (exfalso; omega)
      all_goals exact wD
def pkR (s : ByteArray) : Nd × Rs := z6 8 ⟨s, false⟩
theorem zf6 {V : ByteArray → Bool} (s : ByteArray) : zf5 pkC V s = if (pkR s).2.bad = false ∧ (pkR s).2.s = eS ∧ (pkR s).1.validB V 8 = true ∧ zb7 pkC V (pkR s).1 = (s, 0) then ((pkR s).1, 0) else (Nd.zero, 4) := rfl
set_option maxHeartbeats 8000000 in
theorem zg7 {oF oA : Obj} {V : ByteArray → Bool} (hS : vm oF oA V) (s : ByteArray) (hs : s.size ≤ 1000000) : Spec Tryz.prog 105 [.t (.str s)] [(.par 100, .dat (.fix 0 oF)), (.par 101, .dat (.fix 1 oA))] (.tup [.t (zf5 pkC V s).1.toT, .t (.int .i64 (zf5 pkC V s).2)]) [(.par 100, .dat (.fix 0 oF)), (.par 101, .dat (.fix 1 oA))] := by
  have hR : Spec Tryz.prog 169 [.ref (.par 0) 0 0 0, .t (.int .i64 8)] [(.par 0, Rs.row 197 ⟨s, false⟩)] (.t (pkR s).1.toT) [(.par 0, (pkR s).2.row 197)] := zaz 8 (by omega) ⟨s, false⟩ hs
  have hle := vH 1000000 (by omega) 8 ⟨s, false⟩ hs
  have hg : (pkR s).2.bad = false → (pkR s).1.pb.length ≤ s.size ∧ (pkR s).1.In := fun h => ⟨Nat.le_trans (Nat.le_add_right _ _) (wu 8 ⟨s, false⟩ h).2.1, (wu 8 ⟨s, false⟩ h).2.2⟩
  have hD := zf6 (V := V) s
  have hF := jv hS 197 50 s (pkR s).1 hle.2 (pkR s).2 (zb7 pkC V (pkR s).1) (fun h1 h2 h3 => by
    have := hg h1
    exact qA hS (pkR s).1 hle.2 this.2 (fun _ => by have h9 : (pkR s).1.pb.length ≤ s.size := this.1; omega)) (zf5 pkC V s) hD
  clear hD hg hle
  generalize zf5 pkC V s = res at hF ⊢
  generalize pkR s = y at hR hF
  obtain ⟨x, rs, rb⟩ := y
  obtain ⟨z, e⟩ := res
  have hT := x.toT_full
  have hZ := z.toT_full
  unfold Rs.row at hR hF
  simp only at hR hF ⊢
  rw [hT] at hR hF
  rw [hZ] at hF ⊢
  refine wI Tryz.func105 ?_
  repeat' (first | refine wC ?_ | refine wK ?_ | ((with_reducible refine ze ?_); first | refine wN (.t (.agg [.int .i64 x.kind, .bool x.bool, .int .i64 x.num, .str x.text, .sl 1 (x.names.map .str), .sl 6 (x.items.map Nd.toT)])) [(.par 0, .loc 9)] hR ?_ | refine wN (.tup [.t (.agg [.int .i64 z.kind, .bool z.bool, .int .i64 z.num, .str z.text, .sl 1 (z.names.map .str), .sl 6 (z.items.map Nd.toT)]), .t (.int .i64 e)]) [(.par 0, .loc 9)] hF ?_))
  exact wE
end Go.AL
namespace Go.AL
open Go Go.RowKit
def zjX : List (UInt8 × UInt8) := [(34, 34), (92, 92), (8, 98), (9, 116), (10, 110), (12, 102), (13, 114)]
def zje (c : UInt8) : Option UInt8 := zjX.lookup c
def zcg (n : Nat) : UInt8 := if n < 10 then UInt8.ofNat (48 + n) else UInt8.ofNat (87 + n)
def ziO (c : UInt8) : List UInt8 :=
  match zje c with
  | some l => [92, l]
  | none => if c.toNat < 32 then [92, 117, 48, 48, zcg (c.toNat / 16), zcg (c.toNat % 16)] else [c]
def xl : List UInt8 → List UInt8
  | [] => []
  | c :: l => ziO c ++ xl l
def jQ (s : ByteArray) : List UInt8 := 34 :: (xl s.data.toList ++ [34])
theorem zeW (c : UInt8) : 1 ≤ (ziO c).length ∧ (ziO c).length ≤ 6 := by
  unfold ziO
  split
  · simp
  · split <;> simp
theorem km : ∀ a b : List UInt8, xl (a ++ b) = xl a ++ xl b
  | [], b => rfl
  | c :: a, b => by simp [xl, km a b]
theorem jh : ∀ l : List UInt8, (xl l).length ≤ 6 * l.length
  | [] => by simp [xl]
  | c :: l => by
    have := zeW c
    have := jh l
    simp only [xl, List.length_append, List.length_cons]; omega
theorem zfl (l : List UInt8) (i : Nat) (h : i < l.length) : xl (l.take (i + 1)) = xl (l.take i) ++ ziO (l.getD i default) := by
  rw [List.take_add_one, List.getElem?_eq_getElem h, Option.toList_some, km, List.getD_eq_getElem?_getD, List.getElem?_eq_getElem h]
  simp [xl]
def zbO : List UInt8 := [110, 117, 108, 108]
def qa : List UInt8 := [116, 114, 117, 101]
def x4 : List UInt8 := [102, 97, 108, 115, 101]
mutual
def Nd.jb : Nd → List UInt8
  | .mk k b n t ns is =>
    if k = 0 then zbO else if k = 1 then (if b then qa else x4) else if k = 2 then Lib.itoa n
    else if k = 3 then jQ t else if k = 4 then 91 :: (Nd.jbs true is ++ [93]) else 123 :: (Nd.jbm true ns is ++ [125])
def Nd.jbs : Bool → List Nd → List UInt8
  | _, [] => []
  | f, x :: xs => (if f then [] else [44]) ++ (x.jb ++ Nd.jbs false xs)
def Nd.jbm : Bool → List ByteArray → List Nd → List UInt8
  | f, s :: ns, x :: xs => (if f then [] else [44]) ++ (jQ s ++ (58 :: (x.jb ++ Nd.jbm false ns xs)))
  | _, _, _ => []
end
theorem zbR : ∀ (f : Bool) (a : List Nd) (x : Nd), Nd.jbs f (a ++ [x]) = Nd.jbs f a ++ ((if f && a.isEmpty then [] else [44]) ++ x.jb)
  | f, [], x => by simp [Nd.jbs]
  | f, y :: a, x => by simp [Nd.jbs, zbR false a x, List.append_assoc]
theorem zbQ : ∀ (f : Bool) (a : List ByteArray) (b : List Nd) (s : ByteArray) (x : Nd), a.length = b.length → Nd.jbm f (a ++ [s]) (b ++ [x]) = Nd.jbm f a b ++ ((if f && b.isEmpty then [] else [44]) ++ (jQ s ++ (58 :: x.jb)))
  | f, [], [], s, x, _ => by simp [Nd.jbm]
  | f, n :: a, y :: b, s, x, h => by simp [Nd.jbm, zbQ false a b s x (by simpa using h), List.append_assoc]
  | _, [], _ :: _, _, _, h => by simp at h
  | _, _ :: _, [], _, _, h => by simp at h
def wG (k : Int) (ns : List ByteArray) (is : List Nd) (i : Nat) : List UInt8 := if k = 5 then Nd.jbm true (ns.take i) (is.take i) else Nd.jbs true (is.take i)
theorem jO {α : Type} [Inhabited α] (l : List α) (i : Nat) (h : i < l.length) : l.take (i + 1) = l.take i ++ [l.getD i default] := by
  rw [List.take_add_one, List.getElem?_eq_getElem h]; simp [List.getD_eq_getElem?_getD, h]
theorem zaw {α : Type} (l : List α) (i : Nat) (h : i < l.length) : (l.take i).isEmpty = decide (i = 0) := by
  cases i with
  | zero => simp
  | succ i => cases l with
    | nil => simp at h
    | cons x l => simp
theorem j5 {k : Int} {ns : List ByteArray} {is : List Nd} {i : Nat} (hk : k ≠ 5) (hi : i < is.length) : wG k ns is (i + 1) = wG k ns is i ++ ((if i = 0 then [] else [44]) ++ (is.getD i default).jb) := by
  simp only [wG, if_neg hk, jO is i hi, zbR, zaw is i hi, Bool.true_and, decide_eq_true_eq]
theorem zbT {ns : List ByteArray} {is : List Nd} {i : Nat} (hl : ns.length = is.length) (hi : i < is.length) : wG 5 ns is (i + 1) = wG 5 ns is i ++ ((if i = 0 then [] else [44]) ++ (jQ (ns.getD i default) ++ (58 :: (is.getD i default).jb))) := by
  have := zbQ true (ns.take i) (is.take i) (ns.getD i default) (is.getD i default) (by simp; omega)
  simp only [wG, if_true, jO is i hi, jO ns i (by omega), this, zaw is i hi, Bool.true_and, decide_eq_true_eq]
theorem v7 {k : Int} {ns : List ByteArray} {is : List Nd} (hk : k = 5 → ns.length = is.length) {i j : Nat} (hij : i ≤ j) (hj : j ≤ is.length) : (wG k ns is i).length ≤ (wG k ns is j).length := by
  induction j with
  | zero => rw [show i = 0 by omega]; exact Nat.le_refl _
  | succ j ih =>
    rcases Nat.lt_or_ge i (j + 1) with h | h
    · refine Nat.le_trans (ih (by omega) (by omega)) ?_
      by_cases h5 : k = 5
      · subst h5
        rw [zbT (hk rfl) (by omega), List.length_append]; omega
      · rw [j5 h5 (by omega), List.length_append]; omega
    · rw [show i = j + 1 by omega]; exact Nat.le_refl _
theorem zdC (u : Nat) (h : u < 18446744073709551616) : 1 ≤ (Lib.decDigits u).length ∧ (Lib.decDigits u).length ≤ 20 := by
  rw [Lib.decDigits_length]
  have h1 : 1 ≤ Lib.nDigits u := by
    by_cases h : u < 10
    · rw [Lib.nDigits_small h]; omega
    · rw [Lib.nDigits_big h]; omega
  refine ⟨h1, ?_⟩
  by_cases h0 : 1 ≤ u
  · have := Lib.numDigits_eq u h0 h; split at this <;> omega
  · rw [show u = 0 by omega, Lib.nDigits_small (by omega)]; omega
theorem k8 (n : Int) (h0 : -9223372036854775808 ≤ n) (h1 : n ≤ 9223372036854775807) : 1 ≤ (Lib.itoa n).length ∧ (Lib.itoa n).length ≤ 21 := by
  unfold Lib.itoa
  split
  · have := zdC n.natAbs (by omega); simp only [List.length_cons]; omega
  · have := zdC n.toNat (by omega); omega
theorem zcS (s : ByteArray) : 2 ≤ (jQ s).length ∧ (jQ s).length ≤ 6 * s.size + 2 := by
  have := jh s.data.toList
  have hd : s.data.toList.length = s.size := by rw [Array.length_toList]; rfl
  unfold jQ
  simp only [List.length_cons, List.length_append, List.length_nil]; omega
def ziN (V : ByteArray → Bool) (x : Nd) : ByteArray × Int := if x.validB V 8 = true then (if 65536 < x.jb.length then (eS, 3) else (ofL x.jb, 0)) else (eS, 1)
end Go.AL
