/- What functions of the program and of the document answer, and the plain laws behind it; each under the conditions that its own theorem names. -/
import Derived.Test.YtohgkmphkgaabaaGreatAl3
import Derived.Test.YtohgkmphkgaabaaGreatProg
import Derived.Shelf.Strings.Repeat
set_option linter.unusedVariables false
namespace Go.AL
open Go Go.RowKit
inductive Nd where
  | mk (kind : Int) (b : Bool) (num : Int) (text : ByteArray) (names : List ByteArray) (items : List Nd)
  deriving Inhabited
mutual
def Nd.toT : Nd → T
  | .mk k b n t ns is => .agg [.int .i64 k, .bool b, .int .i64 n, .str t, .sl 1 (ns.map .str), .sl 6 (Nd.toTs is)]
def Nd.toTs : List Nd → List T
  | [] => []
  | x :: xs => x.toT :: Nd.toTs xs
end
def Nd.items : Nd → List Nd
  | .mk _ _ _ _ _ is => is
def Nd.names : Nd → List ByteArray
  | .mk _ _ _ _ ns _ => ns
inductive Nd.Ok : Nd → Prop
  | mk {k : Int} {b : Bool} {n : Int} {t : ByteArray} {ns : List ByteArray} {is : List Nd} : ns.length ≤ 8796093021952 → is.length ≤ 1599289640354 → (∀ x ∈ is, x.Ok) → Nd.Ok (.mk k b n t ns is)
section
variable {P : Program} {nt : Nat} {ops : Array Oper} {o : Oper} {rest : List Oper} {env : EnvL} {st : StO} {acc : List SD} {K : EnvL → StO → List SD → Prop} {d : Nat}
end
def Nd.fieldsOK : Nd → Bool
  | .mk k b n t ns is => (decide (k = 1) || !b) && (decide (k = 2) || decide (n = 0)) && (decide (k = 3) || decide (t = ⟨#[]⟩)) && (decide (k = 4) || decide (k = 5) || decide ((is.length : Int) = 0)) && (decide (k = 5) || decide ((ns.length : Int) = 0))
def ziD (V : ByteArray → Bool) (s : ByteArray) : Bool := decide ((s.size : Int) ≤ 65536) && V s
def inB (s : ByteArray) (l : List ByteArray) : Bool := l.any fun x => decide (s = x)
def zfY (tx : ByteArray → Bool) : List ByteArray → List ByteArray → Bool
  | _, [] => true
  | seen, s :: l => if inB s seen || !tx s then false else zfY tx (s :: seen) l
mutual
def Nd.validB (V : ByteArray → Bool) : Nd → Int → Bool
  | .mk k b n t ns is, d => !(decide (d < 1) || decide (k < 0) || decide (5 < k) || !(Nd.mk k b n t ns is).fieldsOK || !ziD V t || decide (256 < (is.length : Int))) && (!decide (k = 5) || (zfY (ziD V) [] ns && decide ((ns.length : Int) = is.length))) && !Nd.anyBad V is (d - 1)
def Nd.anyBad (V : ByteArray → Bool) : List Nd → Int → Bool
  | [], _ => false
  | x :: xs, d => !x.validB V d || Nd.anyBad V xs d
end
def Nd.kind : Nd → Int
  | .mk k _ _ _ _ _ => k
def Nd.bool : Nd → Bool
  | .mk _ b _ _ _ _ => b
def Nd.num : Nd → Int
  | .mk _ _ n _ _ _ => n
def Nd.text : Nd → ByteArray
  | .mk _ _ _ t _ _ => t
def Nd.zero : Nd := .mk 0 false 0 ⟨#[]⟩ [] []
def zij (s : ByteArray) : List ByteArray → Int → Int
  | [], _ => -1
  | x :: xs, j => if s = x then j else zij s xs (j + 1)
def Nd.place (n : Nd) (s : ByteArray) : Int := if n.kind = 5 then zij s (n.names.take (min n.names.length n.items.length)) 0 else -1
def Nd.get (n : Nd) (s : ByteArray) : Nd × Bool := if n.place s < 0 then (Nd.zero, false) else (n.items.getD (n.place s).toNat default, true)
def Nd.set (n : Nd) (s : ByteArray) (v : Nd) : Nd :=
  if 0 ≤ n.place s then .mk n.kind n.bool n.num n.text n.names (n.items.set (n.place s).toNat v)
  else .mk n.kind n.bool n.num n.text (n.names ++ [s]) (n.items ++ [v])
def Nd.put (V : ByteArray → Bool) (n : Nd) (s : ByteArray) (v : Nd) : Nd × Int :=
  if n.kind = 5 ∧ n.validB V 8 = true ∧ (n.set s v).validB V 8 = true then (n.set s v, 0) else (Nd.zero, 1)
theorem zf5 (s : ByteArray) : ∀ (l : List ByteArray) (j : Int) (i : Nat), l.Nodup → l[i]? = some s → zij s l j = j + i
  | [], j, i, _, h => by simp at h
  | x :: xs, j, 0, _, h => by
    simp only [List.getElem?_cons_zero, Option.some.injEq] at h
    simp [zij, h]
  | x :: xs, j, i + 1, hn, h => by
    simp only [List.getElem?_cons_succ] at h
    have hm : s ∈ xs := List.mem_of_getElem? h
    have hx : s ≠ x := fun e => (List.nodup_cons.1 hn).1 (e ▸ hm)
    rw [zij, if_neg hx, zf5 s xs (j + 1) i (List.nodup_cons.1 hn).2 h]
    omega
structure Dc where
  l : List Int
  k : Nat
def zfI (n m : Int) : Int := if m < 1 then 0 else n % m
def Dc.next (d : Dc) (n : Int) : Int × Dc := if (d.l.length : Int) ≤ d.k then (0, d) else (zfI (d.l.getD d.k 0) n, ⟨d.l, d.k + 1⟩)
def Dc.word (d : Dc) (l : List ByteArray) : ByteArray × Dc := (l.getD (d.next l.length).1.toNat default, (d.next l.length).2)
theorem zfe (n m : Int) (h : 1 ≤ m) : 0 ≤ zfI n m ∧ zfI n m < m := by
  unfold zfI
  rw [if_neg (by omega)]
  exact ⟨Int.emod_nonneg _ (by omega), Int.emod_lt_of_pos _ (by omega)⟩
theorem Dc.next_lt (d : Dc) (n : Int) (h : 1 ≤ n) : 0 ≤ (d.next n).1 ∧ (d.next n).1 < n := by
  unfold Dc.next; split
  · exact ⟨Int.le_refl 0, by show (0 : Int) < n; omega⟩
  · exact zfe _ _ h
theorem Dc.next_l (d : Dc) (n : Int) : (d.next n).2.l = d.l := by
  unfold Dc.next; split <;> rfl
def eS : ByteArray := ⟨#[]⟩
def xS : ByteArray := ⟨#[120]⟩
structure VOk (V : ByteArray → Bool) : Prop where
  asc : ∀ s : ByteArray, (∀ b ∈ s.data.toList, b.toNat < 128) → V s = true
  app : ∀ s : ByteArray, V s = true → V (s ++ xS) = true
  odd : V ⟨#[195, 164, 226, 130, 172, 240, 159, 152, 128]⟩ = true
end Go.AL
set_option linter.unusedSimpArgs false
namespace Go.AL
open Go Go.RowKit
end Go.AL
set_option linter.unusedSimpArgs false
namespace Go.AL
open Go Go.RowKit
mutual
def Nd.same : Nd → Nd → Bool
  | .mk k b n t ns is, .mk k' b' n' t' ns' is' => decide (k = k') && decide (b = b') && decide (n = n') && decide (t = t') && decide (ns = ns') && Nd.sames is is'
def Nd.sames : List Nd → List Nd → Bool
  | [], [] => true
  | x :: xs, y :: ys => x.same y && Nd.sames xs ys
  | [], _ :: _ => false
  | _ :: _, [] => false
end
structure Nd.IsMap (m : Nd) : Prop where
  kind : m.kind = 5
  len : m.names.length = m.items.length
  nodup : m.names.Nodup
theorem Nd.IsMap.place_eq {m : Nd} (h : m.IsMap) (s : ByteArray) : m.place s = zij s m.names 0 := by
  unfold Nd.place
  rw [if_pos h.kind, ← h.len, Nat.min_self, List.take_length]
theorem Nd.IsMap.place_at {m : Nd} (h : m.IsMap) {i : Nat} {s : ByteArray} (hi : m.names[i]? = some s) : m.place s = i := by
  rw [h.place_eq, zf5 s _ 0 i h.nodup hi]; omega
theorem Nd.IsMap.set {m : Nd} (h : m.IsMap) (s : ByteArray) (v : Nd) : (m.set s v).IsMap := by
  unfold Nd.set
  split
  · exact ⟨h.kind, by simpa [Nd.names, Nd.items] using h.len, h.nodup⟩
  · rename_i hp
    refine ⟨h.kind, by simp only [Nd.names, Nd.items, List.length_append, List.length_singleton]; have := h.len; simp only [Nd.names, Nd.items] at this; cases m; simpa using this, ?_⟩
    show (m.names ++ [s]).Nodup
    rw [List.nodup_append]
    refine ⟨h.nodup, by simp, fun a ha b hb => ?_⟩
    simp only [List.mem_singleton] at hb
    subst hb
    rintro rfl
    obtain ⟨i, hi⟩ := List.getElem?_of_mem ha
    have := h.place_at hi
    omega
def ofL (l : List UInt8) : ByteArray := ⟨l.toArray⟩
theorem vA (l : List UInt8) : (ofL l).data.toList = l := by simp [ofL]
theorem xV (l : List UInt8) : (ofL l).size = l.length := by simp [ofL, ByteArray.size]
theorem wW (s : ByteArray) : ofL s.data.toList = s := by cases s; simp [ofL]
theorem yM (l : List UInt8) (a b : Nat) : (ofL l).extract a b = ofL ((l.drop a).take (b - a)) := by
  have h : ((ofL l).extract a b).data.toList = (ofL ((l.drop a).take (b - a))).data.toList := by
    rw [vA]; simp [ofL, ByteArray.data_extract]
  have := congrArg ofL h
  rwa [wW, wW] at this
def zdC : Nat → Nat → List UInt8
  | 0, _ => []
  | k + 1, n => UInt8.ofNat (n / 256 ^ k) :: zdC k n
theorem zaF : ∀ k n, (zdC k n).length = k
  | 0, n => rfl
  | k + 1, n => by simp [zdC, zaF k n]
def hdL (m n : Nat) : List UInt8 :=
  if n < 24 then [UInt8.ofNat (32 * m + n)] else if n < 256 then UInt8.ofNat (32 * m + 24) :: zdC 1 n
  else if n < 65536 then UInt8.ofNat (32 * m + 25) :: zdC 2 n else if n < 4294967296 then UInt8.ofNat (32 * m + 26) :: zdC 4 n
  else UInt8.ofNat (32 * m + 27) :: zdC 8 n
mutual
def Nd.cb : Nd → List UInt8
  | .mk k b n t ns is =>
    if k = 0 then hdL 7 22 else if k = 1 then hdL 7 (if b then 21 else 20) else if k = 2 then (if n < 0 then hdL 1 (-1 - n).toNat else hdL 0 n.toNat)
    else if k = 3 then hdL 3 t.size ++ t.data.toList else if k = 4 then hdL 4 is.length ++ Nd.cbs is else hdL 5 is.length ++ Nd.cbm ns is
def Nd.cbs : List Nd → List UInt8
  | [] => []
  | x :: xs => x.cb ++ Nd.cbs xs
def Nd.cbm : List ByteArray → List Nd → List UInt8
  | s :: ns, x :: xs => hdL 3 s.size ++ s.data.toList ++ x.cb ++ Nd.cbm ns xs
  | _, _ => []
end
structure Rs where
  s : ByteArray
  bad : Bool
def Rs.take (r : Rs) (n : Int) : ByteArray × Rs :=
  if r.bad = true ∨ n < 0 ∨ (r.s.size : Int) < n then (eS, ⟨r.s, true⟩) else (r.s.extract 0 n.toNat, ⟨r.s.extract n.toNat r.s.size, false⟩)
def Rs.byte (r : Rs) : Int × Rs := (if (r.take 1).1 = eS then 0 else bAt (r.take 1).1 0, (r.take 1).2)
def zhZ (n : Int) (b : UInt8) : Int := n * 256 % 18446744073709551616 + b.toNat
def Rs.uint (r : Rs) (k : Int) : Int × Rs := ((r.take k).1.data.toList.foldl zhZ 0, (r.take k).2)
def Rs.fits (r : Rs) (n : Int) : Int × Rs := if (r.s.size : Int) < n then (0, ⟨r.s, true⟩) else (n, r)
def zbI (r : Rs) : (Int × Int) × Rs :=
  if r.byte.1 % 32 < 24 then ((r.byte.1 / 32, r.byte.1 % 32), r.byte.2)
  else if 27 < r.byte.1 % 32 then ((r.byte.1 / 32, 0), ⟨r.byte.2.s, true⟩)
  else ((r.byte.1 / 32, (r.byte.2.uint (2 ^ (r.byte.1 % 32 - 24).toNat)).1), (r.byte.2.uint (2 ^ (r.byte.1 % 32 - 24).toNat)).2)
def zhH (r : Rs) (n : Int) : ByteArray × Rs := (r.fits n).2.take (r.fits n).1
def zhW (r : Rs) : ByteArray × Rs := zhH (if (zbI r).1.1 = 3 then (zbI r).2 else ⟨(zbI r).2.s, true⟩) (zbI r).1.2
def zdD (f : Rs → Nd × Rs) (k : Int) : Nat → List ByteArray → List Nd → Rs → Nd × Rs
  | 0, ns, is, r => (.mk k false 0 eS ns is, r)
  | c + 1, ns, is, r => if r.bad = true then (.mk k false 0 eS ns is, r)
    else if k = 5 then zdD f k c (ns ++ [(zhW r).1]) (is ++ [(f (zhW r).2).1]) (f (zhW r).2).2
    else zdD f k c ns (is ++ [(f r).1]) (f r).2
def i64 (n : Int) : Int := IntKind.i64.wrap n
def zhz : Nat → Rs → Nd × Rs
  | 0, r => (Nd.zero, ⟨(zbI r).2.s, true⟩)
  | d + 1, r =>
    let m := (zbI r).1.1
    let n := (zbI r).1.2
    let q := (zbI r).2
    if m = 0 then (.mk 2 false (i64 n) eS [] [], q)
    else if m = 1 then (.mk 2 false (-1 - i64 n) eS [] [], q)
    else if m = 3 then (.mk 3 false 0 (zhH q n).1 [] [], (zhH q n).2)
    else if m = 4 then zdD (zhz d) 4 (q.fits n).1.toNat [] [] (q.fits n).2
    else if m = 5 then zdD (zhz d) 5 (q.fits n).1.toNat [] [] (q.fits n).2
    else if m = 7 ∧ (n = 21 ∨ n = 20) then (.mk 1 (decide (n = 21)) 0 eS [] [], q)
    else (Nd.zero, q)
inductive Nd.In : Nd → Prop
  | mk {k : Int} {b : Bool} {n : Int} {t : ByteArray} {ns : List ByteArray} {is : List Nd} : -9223372036854775808 ≤ n → n ≤ 9223372036854775807 → (∀ x ∈ is, x.In) → Nd.In (.mk k b n t ns is)
theorem zZ (s : ByteArray) : s.data.toList.length = s.size := by rw [Array.length_toList]; rfl
theorem zca (s : ByteArray) (i : Int) : 0 ≤ bAt s i ∧ bAt s i < 256 := by
  unfold bAt
  have := (s.data.toList.getD i.toNat 0).toNat_lt
  omega
def zjf (V : ByteArray → Bool) (x : Nd) : ByteArray × Int := if x.validB V 8 = true then (if 65536 < x.cb.length then (eS, 3) else (ofL x.cb, 0)) else (eS, 1)
def zgU (s : ByteArray) : Nd × Rs := zhz 8 ⟨s, false⟩
def ziH (V : ByteArray → Bool) (s : ByteArray) : Prop := (zgU s).2.bad = false ∧ (zgU s).2.s = eS ∧ (zgU s).1.validB V 8 = true ∧ zjf V (zgU s).1 = (s, 0)
instance (V : ByteArray → Bool) (s : ByteArray) : Decidable (ziH V s) := by unfold ziH; exact inferInstance
theorem zia : Nd.zero.Ok := .mk (by simp) (by simp) (by simp)
def VGood (s : ByteArray) (p : Nat) (r : Nd × Int) : Prop := r.1.Ok ∧ -1 ≤ r.2 ∧ (r.2 ≠ -1 → (p : Int) < r.2 ∧ r.2 ≤ s.size ∧ (r.1.cb.length : Int) + p ≤ r.2 ∧ r.1.In)
theorem VGood.fail (s : ByteArray) (p : Nat) : VGood s p (Nd.zero, -1) := ⟨zia, by decide, fun h => absurd rfl h⟩
def wx (a b : Int) : Int := IntKind.u32.wrap ((BitVec.ofInt 32 a ^^^ BitVec.ofInt 32 b).toNat : Int)
def wa (a b : Int) : Int := IntKind.u32.wrap ((BitVec.ofInt 32 a &&& BitVec.ofInt 32 b).toNat : Int)
def wo (a b : Int) : Int := IntKind.u32.wrap ((BitVec.ofInt 32 a ||| BitVec.ofInt 32 b).toNat : Int)
def wn (a : Int) : Int := IntKind.u32.wrap ((BitVec.ofInt 32 4294967295 ^^^ BitVec.ofInt 32 a).toNat : Int)
def wp (a b : Int) : Int := IntKind.u32.wrap (a + b)
def wr (a : Int) (n : Nat) : Int := a / 2 ^ n
def wl (a : Int) (n : Nat) : Int := IntKind.u32.wrap (a * 2 ^ n)
def rr (x : Int) (n : Nat) : Int := wo (wr x n) (wl x (32 - n))
def bL (p : List UInt8) (i : Nat) : Int := ((p.getD i 0).toNat : Int)
def qx (p : List UInt8) (t : Nat) : Int := wo (wo (wo (wl (bL p (4 * t)) 24) (wl (bL p (4 * t + 1)) 16)) (wl (bL p (4 * t + 2)) 8)) (bL p (4 * t + 3))
def zji (x y u v : Int) : Int := wp (wp (wp (wx (wx (rr y 17) (rr y 19)) (wr y 10)) u) (wx (wx (rr x 7) (rr x 18)) (wr x 3))) v
structure H8 where
  a : Int
  b : Int
  c : Int
  d : Int
  e : Int
  f : Int
  g : Int
  h : Int
  deriving DecidableEq
def H8.l (v : H8) : List Int := [v.a, v.b, v.c, v.d, v.e, v.f, v.g, v.h]
def H8.t (v : H8) : List T := [.int .u32 v.a, .int .u32 v.b, .int .u32 v.c, .int .u32 v.d, .int .u32 v.e, .int .u32 v.f, .int .u32 v.g, .int .u32 v.h]
def rnd (k w : Int) (v : H8) : H8 :=
  let t1 := wp (wp (wp (wp v.h (wx (wx (rr v.e 6) (rr v.e 11)) (rr v.e 25))) (wx (wa v.e v.f) (wa (wn v.e) v.g))) k) w
  let t2 := wp (wx (wx (rr v.a 2) (rr v.a 13)) (rr v.a 22)) (wx (wx (wa v.a v.b) (wa v.a v.c)) (wa v.b v.c))
  ⟨wp t1 t2, v.a, v.b, v.c, wp v.d t1, v.e, v.f, v.g⟩
def xE {α : Type} (f : Nat → α → α) : Nat → Nat → α → α
  | 0, _, a => a
  | c + 1, t, a => xE f c (t + 1) (f t a)
def zdZ : List Int := [
  0x428a2f98, 0x71374491, 0xb5c0fbcf, 0xe9b5dba5, 0x3956c25b, 0x59f111f1, 0x923f82a4, 0xab1c5ed5,
  0xd807aa98, 0x12835b01, 0x243185be, 0x550c7dc3, 0x72be5d74, 0x80deb1fe, 0x9bdc06a7, 0xc19bf174,
  0xe49b69c1, 0xefbe4786, 0x0fc19dc6, 0x240ca1cc, 0x2de92c6f, 0x4a7484aa, 0x5cb0a9dc, 0x76f988da,
  0x983e5152, 0xa831c66d, 0xb00327c8, 0xbf597fc7, 0xc6e00bf3, 0xd5a79147, 0x06ca6351, 0x14292967,
  0x27b70a85, 0x2e1b2138, 0x4d2c6dfc, 0x53380d13, 0x650a7354, 0x766a0abb, 0x81c2c92e, 0x92722c85,
  0xa2bfe8a1, 0xa81a664b, 0xc24b8b70, 0xc76c51a3, 0xd192e819, 0xd6990624, 0xf40e3585, 0x106aa070,
  0x19a4c116, 0x1e376c08, 0x2748774c, 0x34b0bcb5, 0x391c0cb3, 0x4ed8aa4a, 0x5b9cca4f, 0x682e6ff3,
  0x748f82ee, 0x78a5636f, 0x84c87814, 0x8cc70208, 0x90befffa, 0xa4506ceb, 0xbef9a3f7, 0xc67178f2]
def zeJ : H8 := ⟨0x6a09e667, 0xbb67ae85, 0x3c6ef372, 0xa54ff53a, 0x510e527f, 0x9b05688c, 0x1f83d9ab, 0x5be0cd19⟩
def w0L : List Int := List.replicate 64 0
def kj (p : List UInt8) : List Int := xE (fun t w => w.set t (qx p t)) 16 0 w0L
def wq (t : Nat) (w : List Int) : List Int := w.set t (zji (w.getD (t - 15) 0) (w.getD (t - 2) 0) (w.getD (t - 7) 0) (w.getD (t - 16) 0))
def zbS (w : List Int) : List Int := xE wq 48 16 w
def zbT (w : List Int) (v : H8) : H8 := xE (fun t v => rnd (zdZ.getD t 0) (w.getD t 0) v) 64 0 v
def jc (u v : H8) : H8 := ⟨wp u.a v.a, wp u.b v.b, wp u.c v.c, wp u.d v.d, wp u.e v.e, wp u.f v.f, wp u.g v.g, wp u.h v.h⟩
def ze8 (h : H8) (p : List UInt8) : H8 := jc h (zbT (zbS (kj p)) h)
def xQ : Nat → H8 → List UInt8 → H8
  | 0, h, _ => h
  | n + 1, h, p => xQ n (ze8 h p) (p.drop 64)
def w4 (x : Int) : List UInt8 := zdC 4 x.toNat
def H8.out (v : H8) : List UInt8 := w4 v.a ++ w4 v.b ++ w4 v.c ++ w4 v.d ++ w4 v.e ++ w4 v.f ++ w4 v.g ++ w4 v.h
def wX (left : List UInt8) (n : Nat) : List UInt8 := left ++ 128 :: (List.replicate ((119 - left.length % 64) % 64) 0 ++ zdC 8 (8 * n))
def zdX (s : List UInt8) : List UInt8 := wX s s.length
def zh9 (s : List UInt8) : List UInt8 := (xQ ((zdX s).length / 64) zeJ (zdX s)).out
def sha (s : ByteArray) : ByteArray := ofL (zh9 s.data.toList)
theorem jQ {α : Type} {f g : Nat → α → α} : ∀ (c t : Nat) (a : α), (∀ i, t ≤ i → i < t + c → ∀ x, f i x = g i x) → xE f c t a = xE g c t a
  | 0, _, _, _ => rfl
  | c + 1, t, a, h => by
    simp only [xE]
    rw [h t (Nat.le_refl _) (by omega)]
    exact jQ c (t + 1) _ fun i h1 h2 => h i (by omega) (by omega)
theorem zdY {α : Type} {f : Nat → α → α} {Q : α → Prop} (hf : ∀ i x, Q x → Q (f i x)) : ∀ (c t : Nat) (a : α), Q a → Q (xE f c t a)
  | 0, _, _, h => h
  | c + 1, t, a, h => zdY hf c (t + 1) _ (hf t a h)
theorem qf {x y : List UInt8} {i : Nat} (h : i < x.length) : bL (x ++ y) i = bL x i := by
  unfold bL
  rw [List.getD_eq_getElem?_getD, List.getD_eq_getElem?_getD, List.getElem?_append_left h]
theorem zbu {x y : List UInt8} {t : Nat} (hx : 64 ≤ x.length) (ht : t < 16) : qx (x ++ y) t = qx x t := by
  unfold qx
  rw [qf (by omega), qf (by omega), qf (by omega), qf (by omega)]
theorem zbk {x y : List UInt8} (hx : 64 ≤ x.length) : kj (x ++ y) = kj x :=
  jQ 16 0 _ fun i _ h w => by rw [zbu hx (by omega)]
theorem kQ {h : H8} {x y : List UInt8} (hx : 64 ≤ x.length) : ze8 h (x ++ y) = ze8 h x := by
  unfold ze8; rw [zbk hx]
theorem zfq (h : H8) (x : List UInt8) (n : Nat) (hx : 64 ≤ x.length) (hn : 64 ≤ n) : ze8 h (x.take n) = ze8 h x := by
  have h1 : 64 ≤ (x.take n).length := by rw [List.length_take]; omega
  rw [← kQ (y := x.drop n) h1, List.take_append_drop]
theorem qT : ∀ (a b : Nat) (h : H8) (x y : List UInt8), x.length = 64 * a → xQ (a + b) h (x ++ y) = xQ b (xQ a h x) y
  | 0, b, h, x, y, hx => by
    obtain rfl := List.eq_nil_of_length_eq_zero (by omega : x.length = 0)
    simp [xQ]
  | a + 1, b, h, x, y, hx => by
    rw [show a + 1 + b = (a + b) + 1 by omega]
    simp only [xQ]
    rw [kQ (by omega), List.drop_append_of_le_length (by omega)]
    exact qT a b _ _ y (by rw [List.length_drop]; omega)
def H8.In (v : H8) : Prop := (0 ≤ v.a ∧ v.a < 4294967296) ∧ (0 ≤ v.b ∧ v.b < 4294967296) ∧ (0 ≤ v.c ∧ v.c < 4294967296) ∧ (0 ≤ v.d ∧ v.d < 4294967296) ∧ (0 ≤ v.e ∧ v.e < 4294967296) ∧ (0 ≤ v.f ∧ v.f < 4294967296) ∧ (0 ≤ v.g ∧ v.g < 4294967296) ∧ (0 ≤ v.h ∧ v.h < 4294967296)
theorem xU (a b : Int) : 0 ≤ wp a b ∧ wp a b < 4294967296 := by
  unfold wp
  simp only [IntKind.wrap, IntKind.bits, IntKind.signed, Bool.false_and, Bool.false_eq_true, if_false]
  omega
theorem zhr (a b : Int) : wp a b = wp b a := by unfold wp; rw [Int.add_comm]
theorem zgR (u v : H8) : (jc u v).In := ⟨xU _ _, xU _ _, xU _ _, xU _ _, xU _ _, xU _ _, xU _ _, xU _ _⟩
theorem zej (u v : H8) : jc u v = jc v u := by unfold jc; simp only [zhr]
theorem zfU : zeJ.In := by unfold zeJ H8.In; simp
theorem kw : ∀ (n : Nat) (h : H8) (p : List UInt8), h.In → (xQ n h p).In
  | 0, _, _, hh => hh
  | n + 1, h, p, _ => kw n _ _ (zgR _ _)
theorem ziP (x : Int) : (w4 x).length = 4 := zaF 4 _
theorem zgd (v : H8) : v.out.length = 32 := by simp [H8.out, ziP]
theorem zgA (s : List UInt8) : (zh9 s).length = 32 := zgd _
theorem xc (s : ByteArray) : (sha s).size = 32 := by unfold sha; rw [xV, zgA]
theorem jq (left : List UInt8) (n : Nat) : (wX left n).length = left.length + 9 + (119 - left.length % 64) % 64 := by
  simp only [wX, List.length_append, List.length_cons, List.length_replicate, zaF]; omega
theorem zg3 (s : List UInt8) : (zdX s).length % 64 = 0 ∧ s.length + 9 ≤ (zdX s).length ∧ (zdX s).length ≤ s.length + 72 := by
  unfold zdX; rw [jq]; omega
theorem kZ {a b : Nat} (h : a = b) : List.replicate a (0 : UInt8) = List.replicate b 0 := by rw [h]
theorem zew (s : List UInt8) (w : Nat) (hw : w = s.length / 64 * 64) : zdX s = s.take w ++ wX (s.drop w) s.length := by
  unfold zdX wX
  rw [← List.append_assoc, List.take_append_drop]
  congr 2
  rw [List.length_drop, hw]
  congr 1
  exact kZ (by omega)
theorem zeM (s : List UInt8) (w : Nat) (hw : w = s.length / 64 * 64) : zh9 s = (xQ ((wX (s.drop w) s.length).length / 64) (xQ (w / 64) zeJ (s.take w)) (wX (s.drop w) s.length)).out := by
  have hl : (s.take w).length = 64 * (w / 64) := by rw [List.length_take]; omega
  have h := zew s w hw
  unfold zh9
  have h2 : (zdX s).length / 64 = w / 64 + (wX (s.drop w) s.length).length / 64 := by
    rw [h, List.length_append, hl]; omega
  rw [h2]
  conv => lhs; rw [h]
  rw [qT _ _ _ _ _ hl]
def zeX (f : Nat → ByteArray) : Nat → ByteArray
  | 0 => ⟨#[]⟩
  | j + 1 => zeX f j ++ f j
theorem jm {f : Nat → ByteArray} (hf : ∀ i, (f i).size = 16) : ∀ j, (zeX f j).size = 16 * j
  | 0 => rfl
  | j + 1 => by rw [zeX, ByteArray.size_append, jm hf j, hf j]; omega
theorem jX {f g : Nat → ByteArray} : ∀ j, (∀ i, i < j → f i = g i) → zeX f j = zeX g j
  | 0, _ => rfl
  | j + 1, h => by rw [zeX, zeX, jX j (fun i hi => h i (by omega)), h j (by omega)]
theorem zb6 {f : Nat → ByteArray} (hf : ∀ i, (f i).size = 16) : ∀ j c, c < j → (zeX f j).extract (16 * c) (16 * (c + 1)) = f c
  | 0, c, h => by omega
  | j + 1, c, h => by
    have hz := jm hf j
    have hj := hf j
    have hc := hf c
    rw [zeX]
    rcases Nat.lt_or_ge c j with h' | h'
    · have ih := zb6 hf j c h'
      rw [ByteArray.extract_append, ih, hz]
      have : (f j).extract (16 * c - 16 * j) (16 * (c + 1) - 16 * j) = ByteArray.empty := by
        apply ByteArray.size_eq_zero_iff.1
        rw [ByteArray.size_extract]; omega
      rw [this, ByteArray.append_empty]
    · obtain rfl : c = j := by omega
      rw [ByteArray.extract_append, hz]
      have e1 : (zeX f c).extract (16 * c) (16 * (c + 1)) = ByteArray.empty := by
        apply ByteArray.size_eq_zero_iff.1
        rw [ByteArray.size_extract]; omega
      rw [e1, ByteArray.empty_append, show 16 * c - 16 * c = 0 by omega, show 16 * (c + 1) - 16 * c = (f c).size by omega, ByteArray.extract_zero_size]
def ziS (Y : ByteArray) (j : Nat) : Nat := (bAt Y ((j / 4 : Nat) : Int)).toNat / 2 ^ (6 - 2 * (j % 4)) % 4
theorem zge (Y : ByteArray) (j : Nat) : ziS Y j < 4 := Nat.mod_lt _ (by decide)
def xx (Y : ByteArray) : Nat → Nat
  | 0 => 0
  | j + 1 => xx Y j + 3 - ziS Y j
theorem ku (Y : ByteArray) : ∀ j, xx Y j ≤ 3 * j
  | 0 => Nat.le_refl _
  | j + 1 => by have := ku Y j; have := zge Y j; rw [xx]; omega
def vm (Y : ByteArray) (j : Nat) : Nat := if j < 32 then ziS Y j else xx Y 32 / 2 ^ (2 * (35 - j)) % 4
theorem qt (Y : ByteArray) (j : Nat) : vm Y j < 4 := by
  unfold vm
  split
  · exact zge _ _
  · exact Nat.mod_lt _ (by decide)
def zcD (Y : ByteArray) (j : Nat) : List T := (List.range j).map (fun i => T.int .i64 (vm Y i : Int))
theorem qn (Y : ByteArray) (j : Nat) : (zcD Y j).length = j := by simp [zcD]
theorem xM (Y : ByteArray) (j : Nat) : zcD Y (j + 1) = zcD Y j ++ [.int .i64 (vm Y j : Int)] := by simp [zcD, List.range_succ]
end Go.AL
namespace Go.AL
open Go Go.Proofs
instance : TyU Tryz.prog 0 (TypeDesc.tuple #[]) := ⟨Tryz.underlying0⟩
instance : TyI Tryz.prog 0 1 0 (Value.tuple [].toArray) := ⟨by kernel_rfl⟩
instance : TyU Tryz.prog 1 (TypeDesc.func #[] #[] false) := ⟨Tryz.underlying1⟩
instance : TyI Tryz.prog 1 1 8 (Value.nilFunc) := ⟨by kernel_rfl⟩
instance : TyU Tryz.prog 2 (TypeDesc.int IntKind.i64) := ⟨Tryz.underlying2⟩
instance : TyI Tryz.prog 2 1 8 (Value.int IntKind.i64 (0)) := ⟨by kernel_rfl⟩
instance : TyU Tryz.prog 3 (TypeDesc.int IntKind.i64) := ⟨Tryz.underlying3⟩
instance : TyI Tryz.prog 3 1 8 (Value.int IntKind.i64 (0)) := ⟨by kernel_rfl⟩
instance : TyU Tryz.prog 4 TypeDesc.bool := ⟨Tryz.underlying4⟩
instance : TyI Tryz.prog 4 1 1 (Value.bool false) := ⟨by kernel_rfl⟩
instance : TyU Tryz.prog 5 (TypeDesc.int IntKind.u8) := ⟨Tryz.underlying5⟩
instance : TyI Tryz.prog 5 1 1 (Value.int IntKind.u8 (0)) := ⟨by kernel_rfl⟩
instance : TyU Tryz.prog 6 (TypeDesc.int IntKind.u8) := ⟨Tryz.underlying6⟩
instance : TyI Tryz.prog 6 1 1 (Value.int IntKind.u8 (0)) := ⟨by kernel_rfl⟩
instance : TyU Tryz.prog 7 (TypeDesc.struct #[{ name := "x", type := 2, offset := 0, embedded := false, tag := "", pkgPath := "runtime", byteOffset := 0 }, { name := "y", type := 3, offset := 1, embedded := false, tag := "", pkgPath := "runtime", byteOffset := 8 }, { name := "signed", type := 4, offset := 2, embedded := false, tag := "", pkgPath := "runtime", byteOffset := 16 }, { name := "code", type := 6, offset := 3, embedded := false, tag := "", pkgPath := "runtime", byteOffset := 17 }]) := ⟨Tryz.underlying7⟩
instance : TyI Tryz.prog 7 4 24 (Value.agg [Value.int IntKind.i64 (0), Value.int IntKind.i64 (0), Value.bool false, Value.int IntKind.u8 (0)].toArray) := ⟨by kernel_rfl⟩
instance : TyU Tryz.prog 8 (TypeDesc.struct #[{ name := "x", type := 2, offset := 0, embedded := false, tag := "", pkgPath := "runtime", byteOffset := 0 }, { name := "y", type := 3, offset := 1, embedded := false, tag := "", pkgPath := "runtime", byteOffset := 8 }, { name := "signed", type := 4, offset := 2, embedded := false, tag := "", pkgPath := "runtime", byteOffset := 16 }, { name := "code", type := 6, offset := 3, embedded := false, tag := "", pkgPath := "runtime", byteOffset := 17 }]) := ⟨Tryz.underlying8⟩
instance : TyI Tryz.prog 8 4 24 (Value.agg [Value.int IntKind.i64 (0), Value.int IntKind.i64 (0), Value.bool false, Value.int IntKind.u8 (0)].toArray) := ⟨by kernel_rfl⟩
instance : TyU Tryz.prog 9 TypeDesc.string := ⟨Tryz.underlying9⟩
instance : TyI Tryz.prog 9 1 16 (Value.string ⟨#[]⟩) := ⟨by kernel_rfl⟩
instance : TyU Tryz.prog 10 TypeDesc.string := ⟨Tryz.underlying10⟩
instance : TyI Tryz.prog 10 1 16 (Value.string ⟨#[]⟩) := ⟨by kernel_rfl⟩
instance : TyU Tryz.prog 11 TypeDesc.string := ⟨Tryz.underlying11⟩
instance : TyI Tryz.prog 11 1 16 (Value.string ⟨#[]⟩) := ⟨by kernel_rfl⟩
instance : TyU Tryz.prog 12 (TypeDesc.int IntKind.u64) := ⟨Tryz.underlying12⟩
instance : TyI Tryz.prog 12 1 8 (Value.int IntKind.u64 (0)) := ⟨by kernel_rfl⟩
instance : TyU Tryz.prog 13 (TypeDesc.struct #[{ name := "msg", type := 9, offset := 0, embedded := false, tag := "", pkgPath := "runtime", byteOffset := 0 }, { name := "addr", type := 12, offset := 1, embedded := false, tag := "", pkgPath := "runtime", byteOffset := 16 }]) := ⟨Tryz.underlying13⟩
instance : TyI Tryz.prog 13 2 24 (Value.agg [Value.string ⟨#[]⟩, Value.int IntKind.u64 (0)].toArray) := ⟨by kernel_rfl⟩
instance : TyU Tryz.prog 14 (TypeDesc.struct #[{ name := "msg", type := 9, offset := 0, embedded := false, tag := "", pkgPath := "runtime", byteOffset := 0 }, { name := "addr", type := 12, offset := 1, embedded := false, tag := "", pkgPath := "runtime", byteOffset := 16 }]) := ⟨Tryz.underlying14⟩
instance : TyI Tryz.prog 14 2 24 (Value.agg [Value.string ⟨#[]⟩, Value.int IntKind.u64 (0)].toArray) := ⟨by kernel_rfl⟩
instance : TyU Tryz.prog 15 (TypeDesc.pointer 136) := ⟨Tryz.underlying15⟩
instance : TyI Tryz.prog 15 1 8 (Value.pointer none) := ⟨by kernel_rfl⟩
instance : TyU Tryz.prog 16 (TypeDesc.pointer 139) := ⟨Tryz.underlying16⟩
instance : TyI Tryz.prog 16 1 8 (Value.pointer none) := ⟨by kernel_rfl⟩
instance : TyU Tryz.prog 17 (TypeDesc.pointer 146) := ⟨Tryz.underlying17⟩
instance : TyI Tryz.prog 17 1 8 (Value.pointer none) := ⟨by kernel_rfl⟩
instance : TyU Tryz.prog 18 (TypeDesc.struct #[{ name := "typ", type := 17, offset := 0, embedded := false, tag := "", pkgPath := "internal/runtime/maps", byteOffset := 0 }]) := ⟨Tryz.underlying18⟩
instance : TyI Tryz.prog 18 1 8 (Value.agg [Value.pointer none].toArray) := ⟨by kernel_rfl⟩
instance : TyU Tryz.prog 19 (TypeDesc.struct #[{ name := "typ", type := 17, offset := 0, embedded := false, tag := "", pkgPath := "internal/runtime/maps", byteOffset := 0 }]) := ⟨Tryz.underlying19⟩
instance : TyI Tryz.prog 19 1 8 (Value.agg [Value.pointer none].toArray) := ⟨by kernel_rfl⟩
instance : TyU Tryz.prog 20 (TypeDesc.interface #[]) := ⟨Tryz.underlying20⟩
instance : TyI Tryz.prog 20 1 16 (Value.nilIface) := ⟨by kernel_rfl⟩
instance : TyU Tryz.prog 21 (TypeDesc.int IntKind.i32) := ⟨Tryz.underlying21⟩
instance : TyI Tryz.prog 21 1 4 (Value.int IntKind.i32 (0)) := ⟨by kernel_rfl⟩
instance : TyU Tryz.prog 22 (TypeDesc.slice 3) := ⟨Tryz.underlying22⟩
instance : TyI Tryz.prog 22 1 24 (Value.slice none 0 0) := ⟨by kernel_rfl⟩
instance : TyU Tryz.prog 23 (TypeDesc.struct #[{ name := "Seed", type := 9, offset := 0, embedded := false, tag := "", pkgPath := "", byteOffset := 0 }, { name := "Present", type := 3, offset := 1, embedded := false, tag := "", pkgPath := "", byteOffset := 16 }, { name := "Count", type := 3, offset := 2, embedded := false, tag := "", pkgPath := "", byteOffset := 24 }, { name := "NextCount", type := 3, offset := 3, embedded := false, tag := "", pkgPath := "", byteOffset := 32 }, { name := "Used", type := 22, offset := 4, embedded := false, tag := "", pkgPath := "", byteOffset := 40 }]) := ⟨Tryz.underlying23⟩
instance : TyI Tryz.prog 23 5 64 (Value.agg [Value.string ⟨#[]⟩, Value.int IntKind.i64 (0), Value.int IntKind.i64 (0), Value.int IntKind.i64 (0), Value.slice none 0 0].toArray) := ⟨by kernel_rfl⟩
instance : TyU Tryz.prog 24 (TypeDesc.struct #[{ name := "Seed", type := 9, offset := 0, embedded := false, tag := "", pkgPath := "", byteOffset := 0 }, { name := "Present", type := 3, offset := 1, embedded := false, tag := "", pkgPath := "", byteOffset := 16 }, { name := "Count", type := 3, offset := 2, embedded := false, tag := "", pkgPath := "", byteOffset := 24 }, { name := "NextCount", type := 3, offset := 3, embedded := false, tag := "", pkgPath := "", byteOffset := 32 }, { name := "Used", type := 22, offset := 4, embedded := false, tag := "", pkgPath := "", byteOffset := 40 }]) := ⟨Tryz.underlying24⟩
instance : TyI Tryz.prog 24 5 64 (Value.agg [Value.string ⟨#[]⟩, Value.int IntKind.i64 (0), Value.int IntKind.i64 (0), Value.int IntKind.i64 (0), Value.slice none 0 0].toArray) := ⟨by kernel_rfl⟩
instance : TyU Tryz.prog 25 (TypeDesc.func #[22] #[4] false) := ⟨Tryz.underlying25⟩
instance : TyI Tryz.prog 25 1 8 (Value.nilFunc) := ⟨by kernel_rfl⟩
instance : TyU Tryz.prog 26 (TypeDesc.func #[] #[4] false) := ⟨Tryz.underlying26⟩
instance : TyI Tryz.prog 26 1 8 (Value.nilFunc) := ⟨by kernel_rfl⟩
instance : TyU Tryz.prog 27 (TypeDesc.func #[9, 3, 3] #[9] false) := ⟨Tryz.underlying27⟩
instance : TyI Tryz.prog 27 1 8 (Value.nilFunc) := ⟨by kernel_rfl⟩
instance : TyU Tryz.prog 28 (TypeDesc.array 2 3) := ⟨Tryz.underlying28⟩
instance : TyI Tryz.prog 28 2 16 (Value.agg [Value.int IntKind.i64 (0), Value.int IntKind.i64 (0)].toArray) := ⟨by kernel_rfl⟩
instance : TyU Tryz.prog 29 (TypeDesc.func #[3, 3] #[3] false) := ⟨Tryz.underlying29⟩
instance : TyI Tryz.prog 29 1 8 (Value.nilFunc) := ⟨by kernel_rfl⟩
instance : TyU Tryz.prog 30 (TypeDesc.slice 28) := ⟨Tryz.underlying30⟩
instance : TyI Tryz.prog 30 1 24 (Value.slice none 0 0) := ⟨by kernel_rfl⟩
instance : TyU Tryz.prog 31 (TypeDesc.func #[5] #[9] false) := ⟨Tryz.underlying31⟩
instance : TyI Tryz.prog 31 1 8 (Value.nilFunc) := ⟨by kernel_rfl⟩
instance : TyU Tryz.prog 32 (TypeDesc.slice 9) := ⟨Tryz.underlying32⟩
instance : TyI Tryz.prog 32 1 24 (Value.slice none 0 0) := ⟨by kernel_rfl⟩
instance : TyU Tryz.prog 33 (TypeDesc.int IntKind.i64) := ⟨Tryz.underlying33⟩
instance : TyI Tryz.prog 33 1 8 (Value.int IntKind.i64 (0)) := ⟨by kernel_rfl⟩
instance : TyU Tryz.prog 34 (TypeDesc.tuple #[24, 33]) := ⟨Tryz.underlying34⟩
instance : TyI Tryz.prog 34 1 0 (Value.tuple { toList := [Value.agg [Value.string ⟨#[]⟩, Value.int IntKind.i64 (0), Value.int IntKind.i64 (0), Value.int IntKind.i64 (0), Value.slice none 0 0].toArray, Value.int IntKind.i64 (0)] }) := ⟨by kernel_rfl⟩
instance : TyU Tryz.prog 35 (TypeDesc.func #[9, 3, 3] #[24, 33] false) := ⟨Tryz.underlying35⟩
instance : TyI Tryz.prog 35 1 8 (Value.nilFunc) := ⟨by kernel_rfl⟩
instance : TyU Tryz.prog 36 (TypeDesc.func #[24, 24] #[4] false) := ⟨Tryz.underlying36⟩
instance : TyI Tryz.prog 36 1 8 (Value.nilFunc) := ⟨by kernel_rfl⟩
instance : TyU Tryz.prog 37 (TypeDesc.pointer 58) := ⟨Tryz.underlying37⟩
instance : TyI Tryz.prog 37 1 8 (Value.pointer none) := ⟨by kernel_rfl⟩
instance : TyU Tryz.prog 38 (TypeDesc.func #[22] #[37] false) := ⟨Tryz.underlying38⟩
instance : TyI Tryz.prog 38 1 8 (Value.nilFunc) := ⟨by kernel_rfl⟩
instance : TyU Tryz.prog 39 (TypeDesc.func #[37] #[24] false) := ⟨Tryz.underlying39⟩
instance : TyI Tryz.prog 39 1 8 (Value.nilFunc) := ⟨by kernel_rfl⟩
instance : TyU Tryz.prog 40 (TypeDesc.func #[3] #[3] false) := ⟨Tryz.underlying40⟩
instance : TyI Tryz.prog 40 1 8 (Value.nilFunc) := ⟨by kernel_rfl⟩
instance : TyU Tryz.prog 41 (TypeDesc.slice 24) := ⟨Tryz.underlying41⟩
instance : TyI Tryz.prog 41 1 24 (Value.slice none 0 0) := ⟨by kernel_rfl⟩
instance : TyU Tryz.prog 42 (TypeDesc.func #[24] #[4] false) := ⟨Tryz.underlying42⟩
instance : TyI Tryz.prog 42 1 8 (Value.nilFunc) := ⟨by kernel_rfl⟩
instance : TyU Tryz.prog 43 (TypeDesc.slice 47) := ⟨Tryz.underlying43⟩
instance : TyI Tryz.prog 43 1 24 (Value.slice none 0 0) := ⟨by kernel_rfl⟩
instance : TyU Tryz.prog 44 (TypeDesc.tuple #[43, 24, 33]) := ⟨Tryz.underlying44⟩
instance : TyI Tryz.prog 44 1 0 (Value.tuple { toList := [Value.slice none 0 0, Value.agg [Value.string ⟨#[]⟩, Value.int IntKind.i64 (0), Value.int IntKind.i64 (0), Value.int IntKind.i64 (0), Value.slice none 0 0].toArray, Value.int IntKind.i64 (0)] }) := ⟨by kernel_rfl⟩
instance : TyU Tryz.prog 45 (TypeDesc.func #[24, 9] #[43, 24, 33] false) := ⟨Tryz.underlying45⟩
instance : TyI Tryz.prog 45 1 8 (Value.nilFunc) := ⟨by kernel_rfl⟩
instance : TyU Tryz.prog 46 (TypeDesc.struct #[{ name := "Index", type := 3, offset := 0, embedded := false, tag := "", pkgPath := "", byteOffset := 0 }, { name := "Raw", type := 9, offset := 1, embedded := false, tag := "", pkgPath := "", byteOffset := 8 }]) := ⟨Tryz.underlying46⟩
instance : TyI Tryz.prog 46 2 24 (Value.agg [Value.int IntKind.i64 (0), Value.string ⟨#[]⟩].toArray) := ⟨by kernel_rfl⟩
instance : TyU Tryz.prog 47 (TypeDesc.struct #[{ name := "Index", type := 3, offset := 0, embedded := false, tag := "", pkgPath := "", byteOffset := 0 }, { name := "Raw", type := 9, offset := 1, embedded := false, tag := "", pkgPath := "", byteOffset := 8 }]) := ⟨Tryz.underlying47⟩
instance : TyI Tryz.prog 47 2 24 (Value.agg [Value.int IntKind.i64 (0), Value.string ⟨#[]⟩].toArray) := ⟨by kernel_rfl⟩
instance : TyU Tryz.prog 48 (TypeDesc.func #[24, 3] #[24, 33] false) := ⟨Tryz.underlying48⟩
instance : TyI Tryz.prog 48 1 8 (Value.nilFunc) := ⟨by kernel_rfl⟩
instance : TyU Tryz.prog 49 (TypeDesc.func #[24] #[32] false) := ⟨Tryz.underlying49⟩
instance : TyI Tryz.prog 49 1 8 (Value.nilFunc) := ⟨by kernel_rfl⟩
instance : TyU Tryz.prog 50 (TypeDesc.slice 32) := ⟨Tryz.underlying50⟩
instance : TyI Tryz.prog 50 1 24 (Value.slice none 0 0) := ⟨by kernel_rfl⟩
instance : TyU Tryz.prog 51 (TypeDesc.func #[22, 24, 9, 3, 3, 3, 3, 9] #[4] false) := ⟨Tryz.underlying51⟩
instance : TyI Tryz.prog 51 1 8 (Value.nilFunc) := ⟨by kernel_rfl⟩
instance : TyU Tryz.prog 52 (TypeDesc.func #[9, 9, 9] #[4] false) := ⟨Tryz.underlying52⟩
instance : TyI Tryz.prog 52 1 8 (Value.nilFunc) := ⟨by kernel_rfl⟩
instance : TyU Tryz.prog 53 (TypeDesc.func #[32] #[9] false) := ⟨Tryz.underlying53⟩
instance : TyI Tryz.prog 53 1 8 (Value.nilFunc) := ⟨by kernel_rfl⟩
instance : TyU Tryz.prog 54 (TypeDesc.func #[3] #[9] false) := ⟨Tryz.underlying54⟩
instance : TyI Tryz.prog 54 1 8 (Value.nilFunc) := ⟨by kernel_rfl⟩
instance : TyU Tryz.prog 55 (TypeDesc.slice 5) := ⟨Tryz.underlying55⟩
instance : TyI Tryz.prog 55 1 24 (Value.slice none 0 0) := ⟨by kernel_rfl⟩
instance : TyU Tryz.prog 56 (TypeDesc.func #[3, 3] #[4] false) := ⟨Tryz.underlying56⟩
instance : TyI Tryz.prog 56 1 8 (Value.nilFunc) := ⟨by kernel_rfl⟩
instance : TyU Tryz.prog 57 (TypeDesc.struct #[{ name := "l", type := 22, offset := 0, embedded := false, tag := "", pkgPath := "keyevent/keyeventkit", byteOffset := 0 }, { name := "at", type := 3, offset := 1, embedded := false, tag := "", pkgPath := "keyevent/keyeventkit", byteOffset := 24 }]) := ⟨Tryz.underlying57⟩
instance : TyI Tryz.prog 57 2 32 (Value.agg [Value.slice none 0 0, Value.int IntKind.i64 (0)].toArray) := ⟨by kernel_rfl⟩
instance : TyU Tryz.prog 58 (TypeDesc.struct #[{ name := "l", type := 22, offset := 0, embedded := false, tag := "", pkgPath := "keyevent/keyeventkit", byteOffset := 0 }, { name := "at", type := 3, offset := 1, embedded := false, tag := "", pkgPath := "keyevent/keyeventkit", byteOffset := 24 }]) := ⟨Tryz.underlying58⟩
instance : TyI Tryz.prog 58 2 32 (Value.agg [Value.slice none 0 0, Value.int IntKind.i64 (0)].toArray) := ⟨by kernel_rfl⟩
instance : TyU Tryz.prog 59 (TypeDesc.func #[] #[9] false) := ⟨Tryz.underlying59⟩
instance : TyI Tryz.prog 59 1 8 (Value.nilFunc) := ⟨by kernel_rfl⟩
instance : TyU Tryz.prog 60 (TypeDesc.func #[3] #[4] false) := ⟨Tryz.underlying60⟩
instance : TyI Tryz.prog 60 1 8 (Value.nilFunc) := ⟨by kernel_rfl⟩
instance : TyU Tryz.prog 61 (TypeDesc.func #[22, 60] #[4] false) := ⟨Tryz.underlying61⟩
instance : TyI Tryz.prog 61 1 8 (Value.nilFunc) := ⟨by kernel_rfl⟩
instance : TyU Tryz.prog 62 (TypeDesc.func #[24] #[24] false) := ⟨Tryz.underlying62⟩
instance : TyI Tryz.prog 62 1 8 (Value.nilFunc) := ⟨by kernel_rfl⟩
instance : TyU Tryz.prog 63 (TypeDesc.func #[22] #[3] false) := ⟨Tryz.underlying63⟩
instance : TyI Tryz.prog 63 1 8 (Value.nilFunc) := ⟨by kernel_rfl⟩
instance : TyU Tryz.prog 64 (TypeDesc.tuple #[9, 33]) := ⟨Tryz.underlying64⟩
instance : TyI Tryz.prog 64 1 0 (Value.tuple [Value.string ⟨#[]⟩, Value.int IntKind.i64 (0)].toArray) := ⟨by kernel_rfl⟩
instance : TyU Tryz.prog 65 (TypeDesc.func #[9, 3, 9] #[9, 33] false) := ⟨Tryz.underlying65⟩
instance : TyI Tryz.prog 65 1 8 (Value.nilFunc) := ⟨by kernel_rfl⟩
instance : TyU Tryz.prog 66 (TypeDesc.func #[24, 3, 3] #[32] false) := ⟨Tryz.underlying66⟩
instance : TyI Tryz.prog 66 1 8 (Value.nilFunc) := ⟨by kernel_rfl⟩
instance : TyU Tryz.prog 67 (TypeDesc.func #[9] #[9] false) := ⟨Tryz.underlying67⟩
instance : TyI Tryz.prog 67 1 8 (Value.nilFunc) := ⟨by kernel_rfl⟩
instance : TyU Tryz.prog 68 (TypeDesc.func #[3, 9] #[9, 33] false) := ⟨Tryz.underlying68⟩
instance : TyI Tryz.prog 68 1 8 (Value.nilFunc) := ⟨by kernel_rfl⟩
instance : TyU Tryz.prog 69 (TypeDesc.func #[9, 9] #[9, 33] false) := ⟨Tryz.underlying69⟩
instance : TyI Tryz.prog 69 1 8 (Value.nilFunc) := ⟨by kernel_rfl⟩
instance : TyU Tryz.prog 70 (TypeDesc.int IntKind.u64) := ⟨Tryz.underlying70⟩
instance : TyI Tryz.prog 70 1 8 (Value.int IntKind.u64 (0)) := ⟨by kernel_rfl⟩
instance : TyU Tryz.prog 71 (TypeDesc.func #[9, 9] #[9] false) := ⟨Tryz.underlying71⟩
instance : TyI Tryz.prog 71 1 8 (Value.nilFunc) := ⟨by kernel_rfl⟩
instance : TyU Tryz.prog 72 (TypeDesc.pointer 74) := ⟨Tryz.underlying72⟩
instance : TyI Tryz.prog 72 1 8 (Value.pointer none) := ⟨by kernel_rfl⟩
instance : TyU Tryz.prog 73 (TypeDesc.struct #[{ name := "addr", type := 72, offset := 0, embedded := false, tag := "", pkgPath := "strings", byteOffset := 0 }, { name := "buf", type := 55, offset := 1, embedded := false, tag := "", pkgPath := "strings", byteOffset := 8 }]) := ⟨Tryz.underlying73⟩
instance : TyI Tryz.prog 73 2 32 (Value.agg [Value.pointer none, Value.slice none 0 0].toArray) := ⟨by kernel_rfl⟩
instance : TyU Tryz.prog 74 (TypeDesc.struct #[{ name := "addr", type := 72, offset := 0, embedded := false, tag := "", pkgPath := "strings", byteOffset := 0 }, { name := "buf", type := 55, offset := 1, embedded := false, tag := "", pkgPath := "strings", byteOffset := 8 }]) := ⟨Tryz.underlying74⟩
instance : TyI Tryz.prog 74 2 32 (Value.agg [Value.pointer none, Value.slice none 0 0].toArray) := ⟨by kernel_rfl⟩
instance : TyU Tryz.prog 75 (TypeDesc.interface #[("Error", 59)]) := ⟨Tryz.underlying75⟩
instance : TyI Tryz.prog 75 1 16 (Value.nilIface) := ⟨by kernel_rfl⟩
instance : TyU Tryz.prog 76 (TypeDesc.interface #[("Error", 59)]) := ⟨Tryz.underlying76⟩
instance : TyI Tryz.prog 76 1 16 (Value.nilIface) := ⟨by kernel_rfl⟩
instance : TyU Tryz.prog 77 (TypeDesc.tuple #[3, 76]) := ⟨Tryz.underlying77⟩
instance : TyI Tryz.prog 77 1 0 (Value.tuple [Value.int IntKind.i64 (0), Value.nilIface].toArray) := ⟨by kernel_rfl⟩
instance : TyU Tryz.prog 78 (TypeDesc.func #[9] #[3, 76] false) := ⟨Tryz.underlying78⟩
instance : TyI Tryz.prog 78 1 8 (Value.nilFunc) := ⟨by kernel_rfl⟩
instance : TyU Tryz.prog 79 (TypeDesc.func #[22, 60] #[3] false) := ⟨Tryz.underlying79⟩
instance : TyI Tryz.prog 79 1 8 (Value.nilFunc) := ⟨by kernel_rfl⟩
instance : TyU Tryz.prog 80 (TypeDesc.func #[22] #[22] false) := ⟨Tryz.underlying80⟩
instance : TyI Tryz.prog 80 1 8 (Value.nilFunc) := ⟨by kernel_rfl⟩
instance : TyU Tryz.prog 81 (TypeDesc.func #[9, 3] #[9] false) := ⟨Tryz.underlying81⟩
instance : TyI Tryz.prog 81 1 8 (Value.nilFunc) := ⟨by kernel_rfl⟩
instance : TyU Tryz.prog 82 (TypeDesc.array 4 32) := ⟨Tryz.underlying82⟩
instance : TyI Tryz.prog 82 4 96 (Value.agg [Value.slice none 0 0, Value.slice none 0 0, Value.slice none 0 0, Value.slice none 0 0].toArray) := ⟨by kernel_rfl⟩
instance : TyU Tryz.prog 83 (TypeDesc.func #[9] #[82] false) := ⟨Tryz.underlying83⟩
instance : TyI Tryz.prog 83 1 8 (Value.nilFunc) := ⟨by kernel_rfl⟩
instance : TyU Tryz.prog 84 (TypeDesc.func #[9] #[50] false) := ⟨Tryz.underlying84⟩
instance : TyI Tryz.prog 84 1 8 (Value.nilFunc) := ⟨by kernel_rfl⟩
instance : TyU Tryz.prog 85 (TypeDesc.func #[3, 9] #[9] false) := ⟨Tryz.underlying85⟩
instance : TyI Tryz.prog 85 1 8 (Value.nilFunc) := ⟨by kernel_rfl⟩
instance : TyU Tryz.prog 86 (TypeDesc.struct #[{ name := "Code", type := 3, offset := 0, embedded := false, tag := "", pkgPath := "", byteOffset := 0 }, { name := "Raw", type := 9, offset := 1, embedded := false, tag := "", pkgPath := "", byteOffset := 8 }]) := ⟨Tryz.underlying86⟩
instance : TyI Tryz.prog 86 2 24 (Value.agg [Value.int IntKind.i64 (0), Value.string ⟨#[]⟩].toArray) := ⟨by kernel_rfl⟩
instance : TyU Tryz.prog 87 (TypeDesc.struct #[{ name := "Code", type := 3, offset := 0, embedded := false, tag := "", pkgPath := "", byteOffset := 0 }, { name := "Raw", type := 9, offset := 1, embedded := false, tag := "", pkgPath := "", byteOffset := 8 }]) := ⟨Tryz.underlying87⟩
instance : TyI Tryz.prog 87 2 24 (Value.agg [Value.int IntKind.i64 (0), Value.string ⟨#[]⟩].toArray) := ⟨by kernel_rfl⟩
instance : TyU Tryz.prog 88 (TypeDesc.tuple #[87, 3, 33]) := ⟨Tryz.underlying88⟩
instance : TyI Tryz.prog 88 1 0 (Value.tuple { toList := [Value.agg [Value.int IntKind.i64 (0), Value.string ⟨#[]⟩].toArray, Value.int IntKind.i64 (0), Value.int IntKind.i64 (0)] }) := ⟨by kernel_rfl⟩
instance : TyU Tryz.prog 89 (TypeDesc.func #[9] #[87, 3, 33] false) := ⟨Tryz.underlying89⟩
instance : TyI Tryz.prog 89 1 8 (Value.nilFunc) := ⟨by kernel_rfl⟩
instance : TyU Tryz.prog 90 (TypeDesc.func #[9] #[22] false) := ⟨Tryz.underlying90⟩
instance : TyI Tryz.prog 90 1 8 (Value.nilFunc) := ⟨by kernel_rfl⟩
instance : TyU Tryz.prog 91 (TypeDesc.func #[9, 3, 3, 3] #[9] false) := ⟨Tryz.underlying91⟩
instance : TyI Tryz.prog 91 1 8 (Value.nilFunc) := ⟨by kernel_rfl⟩
instance : TyU Tryz.prog 92 (TypeDesc.int IntKind.u32) := ⟨Tryz.underlying92⟩
instance : TyI Tryz.prog 92 1 4 (Value.int IntKind.u32 (0)) := ⟨by kernel_rfl⟩
instance : TyU Tryz.prog 93 (TypeDesc.array 8 92) := ⟨Tryz.underlying93⟩
instance : TyI Tryz.prog 93 8 32 (Value.agg [Value.int IntKind.u32 (0), Value.int IntKind.u32 (0), Value.int IntKind.u32 (0), Value.int IntKind.u32 (0), Value.int IntKind.u32 (0), Value.int IntKind.u32 (0), Value.int IntKind.u32 (0), Value.int IntKind.u32 (0)].toArray) := ⟨by kernel_rfl⟩
instance : TyU Tryz.prog 94 (TypeDesc.func #[] #[93] false) := ⟨Tryz.underlying94⟩
instance : TyI Tryz.prog 94 1 8 (Value.nilFunc) := ⟨by kernel_rfl⟩
instance : TyU Tryz.prog 95 (TypeDesc.array 64 92) := ⟨Tryz.underlying95⟩
instance : TyI Tryz.prog 95 64 256 (Value.agg [Value.int IntKind.u32 (0), Value.int IntKind.u32 (0), Value.int IntKind.u32 (0), Value.int IntKind.u32 (0), Value.int IntKind.u32 (0), Value.int IntKind.u32 (0), Value.int IntKind.u32 (0), Value.int IntKind.u32 (0), Value.int IntKind.u32 (0), Value.int IntKind.u32 (0), Value.int IntKind.u32 (0), Value.int IntKind.u32 (0), Value.int IntKind.u32 (0), Value.int IntKind.u32 (0), Value.int IntKind.u32 (0), Value.int IntKind.u32 (0), Value.int IntKind.u32 (0), Value.int IntKind.u32 (0), Value.int IntKind.u32 (0), Value.int IntKind.u32 (0), Value.int IntKind.u32 (0), Value.int IntKind.u32 (0), Value.int IntKind.u32 (0), Value.int IntKind.u32 (0), Value.int IntKind.u32 (0), Value.int IntKind.u32 (0), Value.int IntKind.u32 (0), Value.int IntKind.u32 (0), Value.int IntKind.u32 (0), Value.int IntKind.u32 (0), Value.int IntKind.u32 (0), Value.int IntKind.u32 (0), Value.int IntKind.u32 (0), Value.int IntKind.u32 (0), Value.int IntKind.u32 (0), Value.int IntKind.u32 (0), Value.int IntKind.u32 (0), Value.int IntKind.u32 (0), Value.int IntKind.u32 (0), Value.int IntKind.u32 (0), Value.int IntKind.u32 (0), Value.int IntKind.u32 (0), Value.int IntKind.u32 (0), Value.int IntKind.u32 (0), Value.int IntKind.u32 (0), Value.int IntKind.u32 (0), Value.int IntKind.u32 (0), Value.int IntKind.u32 (0), Value.int IntKind.u32 (0), Value.int IntKind.u32 (0), Value.int IntKind.u32 (0), Value.int IntKind.u32 (0), Value.int IntKind.u32 (0), Value.int IntKind.u32 (0), Value.int IntKind.u32 (0), Value.int IntKind.u32 (0), Value.int IntKind.u32 (0), Value.int IntKind.u32 (0), Value.int IntKind.u32 (0), Value.int IntKind.u32 (0), Value.int IntKind.u32 (0), Value.int IntKind.u32 (0), Value.int IntKind.u32 (0), Value.int IntKind.u32 (0)].toArray) := ⟨by kernel_rfl⟩
instance : TyU Tryz.prog 96 (TypeDesc.func #[] #[95] false) := ⟨Tryz.underlying96⟩
instance : TyI Tryz.prog 96 1 8 (Value.nilFunc) := ⟨by kernel_rfl⟩
instance : TyU Tryz.prog 97 (TypeDesc.func #[93, 95, 9] #[93] false) := ⟨Tryz.underlying97⟩
instance : TyI Tryz.prog 97 1 8 (Value.nilFunc) := ⟨by kernel_rfl⟩
instance : TyU Tryz.prog 98 (TypeDesc.array 8 92) := ⟨Tryz.underlying98⟩
instance : TyI Tryz.prog 98 8 32 (Value.agg [Value.int IntKind.u32 (0), Value.int IntKind.u32 (0), Value.int IntKind.u32 (0), Value.int IntKind.u32 (0), Value.int IntKind.u32 (0), Value.int IntKind.u32 (0), Value.int IntKind.u32 (0), Value.int IntKind.u32 (0)].toArray) := ⟨by kernel_rfl⟩
instance : TyU Tryz.prog 99 (TypeDesc.func #[] #[98] false) := ⟨Tryz.underlying99⟩
instance : TyI Tryz.prog 99 1 8 (Value.nilFunc) := ⟨by kernel_rfl⟩
instance : TyU Tryz.prog 100 (TypeDesc.pointer 95) := ⟨Tryz.underlying100⟩
instance : TyI Tryz.prog 100 1 8 (Value.pointer none) := ⟨by kernel_rfl⟩
instance : TyU Tryz.prog 101 (TypeDesc.func #[] #[100] false) := ⟨Tryz.underlying101⟩
instance : TyI Tryz.prog 101 1 8 (Value.nilFunc) := ⟨by kernel_rfl⟩
instance : TyU Tryz.prog 102 (TypeDesc.func #[9, 100] #[] false) := ⟨Tryz.underlying102⟩
instance : TyI Tryz.prog 102 1 8 (Value.nilFunc) := ⟨by kernel_rfl⟩
instance : TyU Tryz.prog 103 (TypeDesc.array 32 5) := ⟨Tryz.underlying103⟩
instance : TyI Tryz.prog 103 32 32 (Value.agg [Value.int IntKind.u8 (0), Value.int IntKind.u8 (0), Value.int IntKind.u8 (0), Value.int IntKind.u8 (0), Value.int IntKind.u8 (0), Value.int IntKind.u8 (0), Value.int IntKind.u8 (0), Value.int IntKind.u8 (0), Value.int IntKind.u8 (0), Value.int IntKind.u8 (0), Value.int IntKind.u8 (0), Value.int IntKind.u8 (0), Value.int IntKind.u8 (0), Value.int IntKind.u8 (0), Value.int IntKind.u8 (0), Value.int IntKind.u8 (0), Value.int IntKind.u8 (0), Value.int IntKind.u8 (0), Value.int IntKind.u8 (0), Value.int IntKind.u8 (0), Value.int IntKind.u8 (0), Value.int IntKind.u8 (0), Value.int IntKind.u8 (0), Value.int IntKind.u8 (0), Value.int IntKind.u8 (0), Value.int IntKind.u8 (0), Value.int IntKind.u8 (0), Value.int IntKind.u8 (0), Value.int IntKind.u8 (0), Value.int IntKind.u8 (0), Value.int IntKind.u8 (0), Value.int IntKind.u8 (0)].toArray) := ⟨by kernel_rfl⟩
instance : TyU Tryz.prog 104 (TypeDesc.pointer 5) := ⟨Tryz.underlying104⟩
instance : TyI Tryz.prog 104 1 8 (Value.pointer none) := ⟨by kernel_rfl⟩
instance : TyU Tryz.prog 105 (TypeDesc.func #[9, 22] #[9] false) := ⟨Tryz.underlying105⟩
instance : TyI Tryz.prog 105 1 8 (Value.nilFunc) := ⟨by kernel_rfl⟩
instance : TyU Tryz.prog 106 (TypeDesc.func #[87] #[9, 33] false) := ⟨Tryz.underlying106⟩
instance : TyI Tryz.prog 106 1 8 (Value.nilFunc) := ⟨by kernel_rfl⟩
instance : TyU Tryz.prog 107 (TypeDesc.tuple #[9, 4]) := ⟨Tryz.underlying107⟩
instance : TyI Tryz.prog 107 1 0 (Value.tuple [Value.string ⟨#[]⟩, Value.bool false].toArray) := ⟨by kernel_rfl⟩
instance : TyU Tryz.prog 108 (TypeDesc.func #[3] #[9, 4] false) := ⟨Tryz.underlying108⟩
instance : TyI Tryz.prog 108 1 8 (Value.nilFunc) := ⟨by kernel_rfl⟩
instance : TyU Tryz.prog 109 (TypeDesc.func #[9] #[9, 33] false) := ⟨Tryz.underlying109⟩
instance : TyI Tryz.prog 109 1 8 (Value.nilFunc) := ⟨by kernel_rfl⟩
instance : TyU Tryz.prog 110 (TypeDesc.int IntKind.u64) := ⟨Tryz.underlying110⟩
instance : TyI Tryz.prog 110 1 8 (Value.int IntKind.u64 (0)) := ⟨by kernel_rfl⟩
instance : TyU Tryz.prog 111 (TypeDesc.func #[9] #[92] false) := ⟨Tryz.underlying111⟩
instance : TyI Tryz.prog 111 1 8 (Value.nilFunc) := ⟨by kernel_rfl⟩
instance : TyU Tryz.prog 112 (TypeDesc.func #[92, 3] #[92] false) := ⟨Tryz.underlying112⟩
instance : TyI Tryz.prog 112 1 8 (Value.nilFunc) := ⟨by kernel_rfl⟩
instance : TyU Tryz.prog 113 TypeDesc.unsafePointer := ⟨Tryz.underlying113⟩
instance : TyI Tryz.prog 113 1 8 (Value.pointer none) := ⟨by kernel_rfl⟩
instance : TyU Tryz.prog 114 (TypeDesc.func #[113] #[113] false) := ⟨Tryz.underlying114⟩
instance : TyI Tryz.prog 114 1 8 (Value.nilFunc) := ⟨by kernel_rfl⟩
instance : TyU Tryz.prog 115 (TypeDesc.func #[5] #[76] false) := ⟨Tryz.underlying115⟩
instance : TyI Tryz.prog 115 1 8 (Value.nilFunc) := ⟨by kernel_rfl⟩
instance : TyU Tryz.prog 116 (TypeDesc.pointer 98) := ⟨Tryz.underlying116⟩
instance : TyI Tryz.prog 116 1 8 (Value.pointer none) := ⟨by kernel_rfl⟩
instance : TyU Tryz.prog 117 (TypeDesc.func #[3, 3] #[9] false) := ⟨Tryz.underlying117⟩
instance : TyI Tryz.prog 117 1 8 (Value.nilFunc) := ⟨by kernel_rfl⟩
instance : TyU Tryz.prog 118 (TypeDesc.struct #[{ name := "code", type := 9, offset := 0, embedded := false, tag := "", pkgPath := "keyevent/primitive", byteOffset := 0 }, { name := "raw", type := 3, offset := 1, embedded := false, tag := "", pkgPath := "keyevent/primitive", byteOffset := 16 }]) := ⟨Tryz.underlying118⟩
instance : TyI Tryz.prog 118 2 24 (Value.agg [Value.string ⟨#[]⟩, Value.int IntKind.i64 (0)].toArray) := ⟨by kernel_rfl⟩
instance : TyU Tryz.prog 119 (TypeDesc.struct #[{ name := "code", type := 9, offset := 0, embedded := false, tag := "", pkgPath := "keyevent/primitive", byteOffset := 0 }, { name := "raw", type := 3, offset := 1, embedded := false, tag := "", pkgPath := "keyevent/primitive", byteOffset := 16 }]) := ⟨Tryz.underlying119⟩
instance : TyI Tryz.prog 119 2 24 (Value.agg [Value.string ⟨#[]⟩, Value.int IntKind.i64 (0)].toArray) := ⟨by kernel_rfl⟩
instance : TyU Tryz.prog 120 (TypeDesc.tuple #[119, 4]) := ⟨Tryz.underlying120⟩
instance : TyI Tryz.prog 120 1 0 (Value.tuple { toList := [Value.agg [Value.string ⟨#[]⟩, Value.int IntKind.i64 (0)].toArray, Value.bool false] }) := ⟨by kernel_rfl⟩
instance : TyU Tryz.prog 121 (TypeDesc.map 3 119) := ⟨Tryz.underlying121⟩
instance : TyI Tryz.prog 121 1 8 (Value.map none) := ⟨by kernel_rfl⟩
instance : TyU Tryz.prog 122 (TypeDesc.func #[] #[121] false) := ⟨Tryz.underlying122⟩
instance : TyI Tryz.prog 122 1 8 (Value.nilFunc) := ⟨by kernel_rfl⟩
instance : TyU Tryz.prog 123 (TypeDesc.func #[] #[3] false) := ⟨Tryz.underlying123⟩
instance : TyI Tryz.prog 123 1 8 (Value.nilFunc) := ⟨by kernel_rfl⟩
instance : TyU Tryz.prog 124 (TypeDesc.tuple #[3, 4]) := ⟨Tryz.underlying124⟩
instance : TyI Tryz.prog 124 1 0 (Value.tuple [Value.int IntKind.i64 (0), Value.bool false].toArray) := ⟨by kernel_rfl⟩
instance : TyU Tryz.prog 125 (TypeDesc.func #[5] #[3, 4] false) := ⟨Tryz.underlying125⟩
instance : TyI Tryz.prog 125 1 8 (Value.nilFunc) := ⟨by kernel_rfl⟩
instance : TyU Tryz.prog 126 (TypeDesc.tuple #[70, 70]) := ⟨Tryz.underlying126⟩
instance : TyI Tryz.prog 126 1 0 (Value.tuple [Value.int IntKind.u64 (0), Value.int IntKind.u64 (0)].toArray) := ⟨by kernel_rfl⟩
instance : TyU Tryz.prog 127 (TypeDesc.func #[70, 70] #[70, 70] false) := ⟨Tryz.underlying127⟩
instance : TyI Tryz.prog 127 1 8 (Value.nilFunc) := ⟨by kernel_rfl⟩
instance : TyU Tryz.prog 128 (TypeDesc.func #[9, 9] #[4] false) := ⟨Tryz.underlying128⟩
instance : TyI Tryz.prog 128 1 8 (Value.nilFunc) := ⟨by kernel_rfl⟩
instance : TyU Tryz.prog 129 (TypeDesc.func #[3] #[] false) := ⟨Tryz.underlying129⟩
instance : TyI Tryz.prog 129 1 8 (Value.nilFunc) := ⟨by kernel_rfl⟩
instance : TyU Tryz.prog 130 (TypeDesc.tuple #[92, 92]) := ⟨Tryz.underlying130⟩
instance : TyI Tryz.prog 130 1 0 (Value.tuple [Value.int IntKind.u32 (0), Value.int IntKind.u32 (0)].toArray) := ⟨by kernel_rfl⟩
instance : TyU Tryz.prog 131 (TypeDesc.func #[92, 92] #[92, 92] false) := ⟨Tryz.underlying131⟩
instance : TyI Tryz.prog 131 1 8 (Value.nilFunc) := ⟨by kernel_rfl⟩
instance : TyU Tryz.prog 132 (TypeDesc.tuple #[110, 110]) := ⟨Tryz.underlying132⟩
instance : TyI Tryz.prog 132 1 0 (Value.tuple [Value.int IntKind.u64 (0), Value.int IntKind.u64 (0)].toArray) := ⟨by kernel_rfl⟩
instance : TyU Tryz.prog 133 (TypeDesc.func #[110, 110] #[110, 110] false) := ⟨Tryz.underlying133⟩
instance : TyI Tryz.prog 133 1 8 (Value.nilFunc) := ⟨by kernel_rfl⟩
instance : TyU Tryz.prog 134 (TypeDesc.func #[3] #[55] false) := ⟨Tryz.underlying134⟩
instance : TyI Tryz.prog 134 1 8 (Value.nilFunc) := ⟨by kernel_rfl⟩
instance : TyU Tryz.prog 135 (TypeDesc.struct #[{ name := "_interface", type := 17, offset := 0, embedded := false, tag := "", pkgPath := "runtime", byteOffset := 0 }, { name := "concrete", type := 17, offset := 1, embedded := false, tag := "", pkgPath := "runtime", byteOffset := 8 }, { name := "asserted", type := 17, offset := 2, embedded := false, tag := "", pkgPath := "runtime", byteOffset := 16 }, { name := "missingMethod", type := 9, offset := 3, embedded := false, tag := "", pkgPath := "runtime", byteOffset := 24 }]) := ⟨Tryz.underlying135⟩
instance : TyI Tryz.prog 135 4 40 (Value.agg [Value.pointer none, Value.pointer none, Value.pointer none, Value.string ⟨#[]⟩].toArray) := ⟨by kernel_rfl⟩
instance : TyU Tryz.prog 136 (TypeDesc.struct #[{ name := "_interface", type := 17, offset := 0, embedded := false, tag := "", pkgPath := "runtime", byteOffset := 0 }, { name := "concrete", type := 17, offset := 1, embedded := false, tag := "", pkgPath := "runtime", byteOffset := 8 }, { name := "asserted", type := 17, offset := 2, embedded := false, tag := "", pkgPath := "runtime", byteOffset := 16 }, { name := "missingMethod", type := 9, offset := 3, embedded := false, tag := "", pkgPath := "runtime", byteOffset := 24 }]) := ⟨Tryz.underlying136⟩
instance : TyI Tryz.prog 136 4 40 (Value.agg [Value.pointer none, Value.pointer none, Value.pointer none, Value.string ⟨#[]⟩].toArray) := ⟨by kernel_rfl⟩
instance : TyU Tryz.prog 137 (TypeDesc.array 0 16) := ⟨Tryz.underlying137⟩
instance : TyI Tryz.prog 137 0 0 (Value.agg [].toArray) := ⟨by kernel_rfl⟩
instance : TyU Tryz.prog 138 (TypeDesc.struct #[{ name := "_", type := 137, offset := 0, embedded := false, tag := "", pkgPath := "runtime", byteOffset := 0 }]) := ⟨Tryz.underlying138⟩
instance : TyI Tryz.prog 138 0 0 (Value.agg [].toArray) := ⟨by kernel_rfl⟩
instance : TyU Tryz.prog 139 (TypeDesc.struct #[{ name := "_", type := 137, offset := 0, embedded := false, tag := "", pkgPath := "runtime", byteOffset := 0 }]) := ⟨Tryz.underlying139⟩
instance : TyI Tryz.prog 139 0 0 (Value.agg [].toArray) := ⟨by kernel_rfl⟩
instance : TyU Tryz.prog 140 (TypeDesc.int IntKind.u8) := ⟨Tryz.underlying140⟩
instance : TyI Tryz.prog 140 1 1 (Value.int IntKind.u8 (0)) := ⟨by kernel_rfl⟩
instance : TyU Tryz.prog 141 (TypeDesc.int IntKind.u8) := ⟨Tryz.underlying141⟩
instance : TyI Tryz.prog 141 1 1 (Value.int IntKind.u8 (0)) := ⟨by kernel_rfl⟩
instance : TyU Tryz.prog 142 (TypeDesc.func #[113, 113] #[4] false) := ⟨Tryz.underlying142⟩
instance : TyI Tryz.prog 142 1 8 (Value.nilFunc) := ⟨by kernel_rfl⟩
instance : TyU Tryz.prog 143 (TypeDesc.int IntKind.i32) := ⟨Tryz.underlying143⟩
instance : TyI Tryz.prog 143 1 4 (Value.int IntKind.i32 (0)) := ⟨by kernel_rfl⟩
instance : TyU Tryz.prog 144 (TypeDesc.int IntKind.i32) := ⟨Tryz.underlying144⟩
instance : TyI Tryz.prog 144 1 4 (Value.int IntKind.i32 (0)) := ⟨by kernel_rfl⟩
instance : TyU Tryz.prog 145 (TypeDesc.struct #[{ name := "Size_", type := 12, offset := 0, embedded := false, tag := "", pkgPath := "", byteOffset := 0 }, { name := "PtrBytes", type := 12, offset := 1, embedded := false, tag := "", pkgPath := "", byteOffset := 8 }, { name := "Hash", type := 92, offset := 2, embedded := false, tag := "", pkgPath := "", byteOffset := 16 }, { name := "TFlag", type := 140, offset := 3, embedded := false, tag := "", pkgPath := "", byteOffset := 20 }, { name := "Align_", type := 5, offset := 4, embedded := false, tag := "", pkgPath := "", byteOffset := 21 }, { name := "FieldAlign_", type := 5, offset := 5, embedded := false, tag := "", pkgPath := "", byteOffset := 22 }, { name := "Kind_", type := 141, offset := 6, embedded := false, tag := "", pkgPath := "", byteOffset := 23 }, { name := "Equal", type := 142, offset := 7, embedded := false, tag := "", pkgPath := "", byteOffset := 24 }, { name := "GCData", type := 104, offset := 8, embedded := false, tag := "", pkgPath := "", byteOffset := 32 }, { name := "Str", type := 143, offset := 9, embedded := false, tag := "", pkgPath := "", byteOffset := 40 }, { name := "PtrToThis", type := 144, offset := 10, embedded := false, tag := "", pkgPath := "", byteOffset := 44 }]) := ⟨Tryz.underlying145⟩
instance : TyI Tryz.prog 145 11 48 (Value.agg [Value.int IntKind.u64 (0), Value.int IntKind.u64 (0), Value.int IntKind.u32 (0), Value.int IntKind.u8 (0), Value.int IntKind.u8 (0), Value.int IntKind.u8 (0), Value.int IntKind.u8 (0), Value.nilFunc, Value.pointer none, Value.int IntKind.i32 (0), Value.int IntKind.i32 (0)].toArray) := ⟨by kernel_rfl⟩
instance : TyU Tryz.prog 146 (TypeDesc.struct #[{ name := "Size_", type := 12, offset := 0, embedded := false, tag := "", pkgPath := "", byteOffset := 0 }, { name := "PtrBytes", type := 12, offset := 1, embedded := false, tag := "", pkgPath := "", byteOffset := 8 }, { name := "Hash", type := 92, offset := 2, embedded := false, tag := "", pkgPath := "", byteOffset := 16 }, { name := "TFlag", type := 140, offset := 3, embedded := false, tag := "", pkgPath := "", byteOffset := 20 }, { name := "Align_", type := 5, offset := 4, embedded := false, tag := "", pkgPath := "", byteOffset := 21 }, { name := "FieldAlign_", type := 5, offset := 5, embedded := false, tag := "", pkgPath := "", byteOffset := 22 }, { name := "Kind_", type := 141, offset := 6, embedded := false, tag := "", pkgPath := "", byteOffset := 23 }, { name := "Equal", type := 142, offset := 7, embedded := false, tag := "", pkgPath := "", byteOffset := 24 }, { name := "GCData", type := 104, offset := 8, embedded := false, tag := "", pkgPath := "", byteOffset := 32 }, { name := "Str", type := 143, offset := 9, embedded := false, tag := "", pkgPath := "", byteOffset := 40 }, { name := "PtrToThis", type := 144, offset := 10, embedded := false, tag := "", pkgPath := "", byteOffset := 44 }]) := ⟨Tryz.underlying146⟩
instance : TyI Tryz.prog 146 11 48 (Value.agg [Value.int IntKind.u64 (0), Value.int IntKind.u64 (0), Value.int IntKind.u32 (0), Value.int IntKind.u8 (0), Value.int IntKind.u8 (0), Value.int IntKind.u8 (0), Value.int IntKind.u8 (0), Value.nilFunc, Value.pointer none, Value.int IntKind.i32 (0), Value.int IntKind.i32 (0)].toArray) := ⟨by kernel_rfl⟩
instance : FnB Tryz.prog 3 := ⟨⟨Tryz.f3, Tryz.func3, by kernel_rfl, by kernel_rfl⟩⟩
instance : FnB Tryz.prog 4 := ⟨⟨Tryz.f4, Tryz.func4, by kernel_rfl, by kernel_rfl⟩⟩
instance : FnB Tryz.prog 5 := ⟨⟨Tryz.f5, Tryz.func5, by kernel_rfl, by kernel_rfl⟩⟩
instance : FnB Tryz.prog 6 := ⟨⟨Tryz.f6, Tryz.func6, by kernel_rfl, by kernel_rfl⟩⟩
instance : FnB Tryz.prog 7 := ⟨⟨Tryz.f7, Tryz.func7, by kernel_rfl, by kernel_rfl⟩⟩
instance : FnB Tryz.prog 8 := ⟨⟨Tryz.f8, Tryz.func8, by kernel_rfl, by kernel_rfl⟩⟩
instance : FnB Tryz.prog 9 := ⟨⟨Tryz.f9, Tryz.func9, by kernel_rfl, by kernel_rfl⟩⟩
instance : FnB Tryz.prog 10 := ⟨⟨Tryz.f10, Tryz.func10, by kernel_rfl, by kernel_rfl⟩⟩
instance : FnB Tryz.prog 11 := ⟨⟨Tryz.f11, Tryz.func11, by kernel_rfl, by kernel_rfl⟩⟩
instance : FnB Tryz.prog 12 := ⟨⟨Tryz.f12, Tryz.func12, by kernel_rfl, by kernel_rfl⟩⟩
instance : FnB Tryz.prog 13 := ⟨⟨Tryz.f13, Tryz.func13, by kernel_rfl, by kernel_rfl⟩⟩
instance : FnB Tryz.prog 14 := ⟨⟨Tryz.f14, Tryz.func14, by kernel_rfl, by kernel_rfl⟩⟩
instance : FnB Tryz.prog 15 := ⟨⟨Tryz.f15, Tryz.func15, by kernel_rfl, by kernel_rfl⟩⟩
instance : FnB Tryz.prog 16 := ⟨⟨Tryz.f16, Tryz.func16, by kernel_rfl, by kernel_rfl⟩⟩
instance : FnB Tryz.prog 17 := ⟨⟨Tryz.f17, Tryz.func17, by kernel_rfl, by kernel_rfl⟩⟩
instance : FnB Tryz.prog 18 := ⟨⟨Tryz.f18, Tryz.func18, by kernel_rfl, by kernel_rfl⟩⟩
instance : FnB Tryz.prog 19 := ⟨⟨Tryz.f19, Tryz.func19, by kernel_rfl, by kernel_rfl⟩⟩
instance : FnB Tryz.prog 20 := ⟨⟨Tryz.f20, Tryz.func20, by kernel_rfl, by kernel_rfl⟩⟩
instance : FnB Tryz.prog 21 := ⟨⟨Tryz.f21, Tryz.func21, by kernel_rfl, by kernel_rfl⟩⟩
instance : FnB Tryz.prog 22 := ⟨⟨Tryz.f22, Tryz.func22, by kernel_rfl, by kernel_rfl⟩⟩
instance : FnB Tryz.prog 23 := ⟨⟨Tryz.f23, Tryz.func23, by kernel_rfl, by kernel_rfl⟩⟩
instance : FnB Tryz.prog 24 := ⟨⟨Tryz.f24, Tryz.func24, by kernel_rfl, by kernel_rfl⟩⟩
instance : FnB Tryz.prog 25 := ⟨⟨Tryz.f25, Tryz.func25, by kernel_rfl, by kernel_rfl⟩⟩
instance : FnB Tryz.prog 26 := ⟨⟨Tryz.f26, Tryz.func26, by kernel_rfl, by kernel_rfl⟩⟩
instance : FnB Tryz.prog 27 := ⟨⟨Tryz.f27, Tryz.func27, by kernel_rfl, by kernel_rfl⟩⟩
instance : FnB Tryz.prog 28 := ⟨⟨Tryz.f28, Tryz.func28, by kernel_rfl, by kernel_rfl⟩⟩
instance : FnB Tryz.prog 29 := ⟨⟨Tryz.f29, Tryz.func29, by kernel_rfl, by kernel_rfl⟩⟩
instance : FnB Tryz.prog 30 := ⟨⟨Tryz.f30, Tryz.func30, by kernel_rfl, by kernel_rfl⟩⟩
instance : FnB Tryz.prog 31 := ⟨⟨Tryz.f31, Tryz.func31, by kernel_rfl, by kernel_rfl⟩⟩
instance : FnB Tryz.prog 32 := ⟨⟨Tryz.f32, Tryz.func32, by kernel_rfl, by kernel_rfl⟩⟩
instance : FnB Tryz.prog 33 := ⟨⟨Tryz.f33, Tryz.func33, by kernel_rfl, by kernel_rfl⟩⟩
instance : FnB Tryz.prog 34 := ⟨⟨Tryz.f34, Tryz.func34, by kernel_rfl, by kernel_rfl⟩⟩
instance : FnB Tryz.prog 35 := ⟨⟨Tryz.f35, Tryz.func35, by kernel_rfl, by kernel_rfl⟩⟩
instance : FnB Tryz.prog 36 := ⟨⟨Tryz.f36, Tryz.func36, by kernel_rfl, by kernel_rfl⟩⟩
instance : FnB Tryz.prog 37 := ⟨⟨Tryz.f37, Tryz.func37, by kernel_rfl, by kernel_rfl⟩⟩
instance : FnB Tryz.prog 38 := ⟨⟨Tryz.f38, Tryz.func38, by kernel_rfl, by kernel_rfl⟩⟩
instance : FnB Tryz.prog 39 := ⟨⟨Tryz.f39, Tryz.func39, by kernel_rfl, by kernel_rfl⟩⟩
instance : FnB Tryz.prog 40 := ⟨⟨Tryz.f40, Tryz.func40, by kernel_rfl, by kernel_rfl⟩⟩
instance : FnB Tryz.prog 41 := ⟨⟨Tryz.f41, Tryz.func41, by kernel_rfl, by kernel_rfl⟩⟩
instance : FnB Tryz.prog 42 := ⟨⟨Tryz.f42, Tryz.func42, by kernel_rfl, by kernel_rfl⟩⟩
instance : FnB Tryz.prog 43 := ⟨⟨Tryz.f43, Tryz.func43, by kernel_rfl, by kernel_rfl⟩⟩
instance : FnB Tryz.prog 44 := ⟨⟨Tryz.f44, Tryz.func44, by kernel_rfl, by kernel_rfl⟩⟩
instance : FnB Tryz.prog 45 := ⟨⟨Tryz.f45, Tryz.func45, by kernel_rfl, by kernel_rfl⟩⟩
instance : FnB Tryz.prog 46 := ⟨⟨Tryz.f46, Tryz.func46, by kernel_rfl, by kernel_rfl⟩⟩
instance : FnB Tryz.prog 47 := ⟨⟨Tryz.f47, Tryz.func47, by kernel_rfl, by kernel_rfl⟩⟩
instance : FnB Tryz.prog 48 := ⟨⟨Tryz.f48, Tryz.func48, by kernel_rfl, by kernel_rfl⟩⟩
instance : FnB Tryz.prog 49 := ⟨⟨Tryz.f49, Tryz.func49, by kernel_rfl, by kernel_rfl⟩⟩
instance : FnB Tryz.prog 50 := ⟨⟨Tryz.f50, Tryz.func50, by kernel_rfl, by kernel_rfl⟩⟩
instance : FnB Tryz.prog 51 := ⟨⟨Tryz.f51, Tryz.func51, by kernel_rfl, by kernel_rfl⟩⟩
instance : FnB Tryz.prog 52 := ⟨⟨Tryz.f52, Tryz.func52, by kernel_rfl, by kernel_rfl⟩⟩
instance : FnB Tryz.prog 53 := ⟨⟨Tryz.f53, Tryz.func53, by kernel_rfl, by kernel_rfl⟩⟩
instance : FnB Tryz.prog 54 := ⟨⟨Tryz.f54, Tryz.func54, by kernel_rfl, by kernel_rfl⟩⟩
instance : FnB Tryz.prog 55 := ⟨⟨Tryz.f55, Tryz.func55, by kernel_rfl, by kernel_rfl⟩⟩
instance : FnB Tryz.prog 56 := ⟨⟨Tryz.f56, Tryz.func56, by kernel_rfl, by kernel_rfl⟩⟩
instance : FnB Tryz.prog 57 := ⟨⟨Tryz.f57, Tryz.func57, by kernel_rfl, by kernel_rfl⟩⟩
instance : FnB Tryz.prog 58 := ⟨⟨Tryz.f58, Tryz.func58, by kernel_rfl, by kernel_rfl⟩⟩
instance : FnB Tryz.prog 59 := ⟨⟨Tryz.f59, Tryz.func59, by kernel_rfl, by kernel_rfl⟩⟩
instance : FnB Tryz.prog 60 := ⟨⟨Tryz.f60, Tryz.func60, by kernel_rfl, by kernel_rfl⟩⟩
instance : FnB Tryz.prog 61 := ⟨⟨Tryz.f61, Tryz.func61, by kernel_rfl, by kernel_rfl⟩⟩
instance : FnB Tryz.prog 62 := ⟨⟨Tryz.f62, Tryz.func62, by kernel_rfl, by kernel_rfl⟩⟩
instance : FnB Tryz.prog 63 := ⟨⟨Tryz.f63, Tryz.func63, by kernel_rfl, by kernel_rfl⟩⟩
instance : FnB Tryz.prog 64 := ⟨⟨Tryz.f64, Tryz.func64, by kernel_rfl, by kernel_rfl⟩⟩
instance : FnB Tryz.prog 65 := ⟨⟨Tryz.f65, Tryz.func65, by kernel_rfl, by kernel_rfl⟩⟩
instance : FnB Tryz.prog 66 := ⟨⟨Tryz.f66, Tryz.func66, by kernel_rfl, by kernel_rfl⟩⟩
instance : FnB Tryz.prog 67 := ⟨⟨Tryz.f67, Tryz.func67, by kernel_rfl, by kernel_rfl⟩⟩
instance : FnB Tryz.prog 68 := ⟨⟨Tryz.f68, Tryz.func68, by kernel_rfl, by kernel_rfl⟩⟩
instance : FnB Tryz.prog 69 := ⟨⟨Tryz.f69, Tryz.func69, by kernel_rfl, by kernel_rfl⟩⟩
instance : FnB Tryz.prog 70 := ⟨⟨Tryz.f70, Tryz.func70, by kernel_rfl, by kernel_rfl⟩⟩
instance : FnB Tryz.prog 71 := ⟨⟨Tryz.f71, Tryz.func71, by kernel_rfl, by kernel_rfl⟩⟩
instance : FnB Tryz.prog 72 := ⟨⟨Tryz.f72, Tryz.func72, by kernel_rfl, by kernel_rfl⟩⟩
instance : FnB Tryz.prog 73 := ⟨⟨Tryz.f73, Tryz.func73, by kernel_rfl, by kernel_rfl⟩⟩
instance : FnB Tryz.prog 74 := ⟨⟨Tryz.f74, Tryz.func74, by kernel_rfl, by kernel_rfl⟩⟩
instance : FnB Tryz.prog 75 := ⟨⟨Tryz.f75, Tryz.func75, by kernel_rfl, by kernel_rfl⟩⟩
instance : FnB Tryz.prog 76 := ⟨⟨Tryz.f76, Tryz.func76, by kernel_rfl, by kernel_rfl⟩⟩
instance : FnB Tryz.prog 77 := ⟨⟨Tryz.f77, Tryz.func77, by kernel_rfl, by kernel_rfl⟩⟩
instance : FnB Tryz.prog 78 := ⟨⟨Tryz.f78, Tryz.func78, by kernel_rfl, by kernel_rfl⟩⟩
instance : FnB Tryz.prog 79 := ⟨⟨Tryz.f79, Tryz.func79, by kernel_rfl, by kernel_rfl⟩⟩
instance : FnB Tryz.prog 80 := ⟨⟨Tryz.f80, Tryz.func80, by kernel_rfl, by kernel_rfl⟩⟩
instance : FnB Tryz.prog 81 := ⟨⟨Tryz.f81, Tryz.func81, by kernel_rfl, by kernel_rfl⟩⟩
instance : FnB Tryz.prog 82 := ⟨⟨Tryz.f82, Tryz.func82, by kernel_rfl, by kernel_rfl⟩⟩
instance : FnB Tryz.prog 83 := ⟨⟨Tryz.f83, Tryz.func83, by kernel_rfl, by kernel_rfl⟩⟩
instance : FnB Tryz.prog 84 := ⟨⟨Tryz.f84, Tryz.func84, by kernel_rfl, by kernel_rfl⟩⟩
instance : FnB Tryz.prog 85 := ⟨⟨Tryz.f85, Tryz.func85, by kernel_rfl, by kernel_rfl⟩⟩
instance : FnB Tryz.prog 86 := ⟨⟨Tryz.f86, Tryz.func86, by kernel_rfl, by kernel_rfl⟩⟩
instance : FnB Tryz.prog 87 := ⟨⟨Tryz.f87, Tryz.func87, by kernel_rfl, by kernel_rfl⟩⟩
instance : FnB Tryz.prog 88 := ⟨⟨Tryz.f88, Tryz.func88, by kernel_rfl, by kernel_rfl⟩⟩
instance : FnB Tryz.prog 89 := ⟨⟨Tryz.f89, Tryz.func89, by kernel_rfl, by kernel_rfl⟩⟩
instance : FnB Tryz.prog 90 := ⟨⟨Tryz.f90, Tryz.func90, by kernel_rfl, by kernel_rfl⟩⟩
instance : FnB Tryz.prog 91 := ⟨⟨Tryz.f91, Tryz.func91, by kernel_rfl, by kernel_rfl⟩⟩
instance : FnB Tryz.prog 92 := ⟨⟨Tryz.f92, Tryz.func92, by kernel_rfl, by kernel_rfl⟩⟩
instance : FnB Tryz.prog 93 := ⟨⟨Tryz.f93, Tryz.func93, by kernel_rfl, by kernel_rfl⟩⟩
instance : FnB Tryz.prog 94 := ⟨⟨Tryz.f94, Tryz.func94, by kernel_rfl, by kernel_rfl⟩⟩
instance : FnB Tryz.prog 95 := ⟨⟨Tryz.f95, Tryz.func95, by kernel_rfl, by kernel_rfl⟩⟩
instance : FnB Tryz.prog 97 := ⟨⟨Tryz.f97, Tryz.func97, by kernel_rfl, by kernel_rfl⟩⟩
instance : FnB Tryz.prog 98 := ⟨⟨Tryz.f98, Tryz.func98, by kernel_rfl, by kernel_rfl⟩⟩
instance : FnB Tryz.prog 99 := ⟨⟨Tryz.f99, Tryz.func99, by kernel_rfl, by kernel_rfl⟩⟩
instance : FnB Tryz.prog 100 := ⟨⟨Tryz.f100, Tryz.func100, by kernel_rfl, by kernel_rfl⟩⟩
instance : FnB Tryz.prog 101 := ⟨⟨Tryz.f101, Tryz.func101, by kernel_rfl, by kernel_rfl⟩⟩
instance : FnB Tryz.prog 102 := ⟨⟨Tryz.f102, Tryz.func102, by kernel_rfl, by kernel_rfl⟩⟩
instance : FnB Tryz.prog 103 := ⟨⟨Tryz.f103, Tryz.func103, by kernel_rfl, by kernel_rfl⟩⟩
instance : FnB Tryz.prog 104 := ⟨⟨Tryz.f104, Tryz.func104, by kernel_rfl, by kernel_rfl⟩⟩
instance : FnB Tryz.prog 105 := ⟨⟨Tryz.f105, Tryz.func105, by kernel_rfl, by kernel_rfl⟩⟩
instance : FnB Tryz.prog 106 := ⟨⟨Tryz.f106, Tryz.func106, by kernel_rfl, by kernel_rfl⟩⟩
instance : FnB Tryz.prog 107 := ⟨⟨Tryz.f107, Tryz.func107, by kernel_rfl, by kernel_rfl⟩⟩
instance : FnB Tryz.prog 108 := ⟨⟨Tryz.f108, Tryz.func108, by kernel_rfl, by kernel_rfl⟩⟩
instance : FnB Tryz.prog 109 := ⟨⟨Tryz.f109, Tryz.func109, by kernel_rfl, by kernel_rfl⟩⟩
instance : FnB Tryz.prog 110 := ⟨⟨Tryz.f110, Tryz.func110, by kernel_rfl, by kernel_rfl⟩⟩
instance : FnB Tryz.prog 111 := ⟨⟨Tryz.f111, Tryz.func111, by kernel_rfl, by kernel_rfl⟩⟩
instance : FnB Tryz.prog 112 := ⟨⟨Tryz.f112, Tryz.func112, by kernel_rfl, by kernel_rfl⟩⟩
instance : FnB Tryz.prog 113 := ⟨⟨Tryz.f113, Tryz.func113, by kernel_rfl, by kernel_rfl⟩⟩
instance : FnB Tryz.prog 114 := ⟨⟨Tryz.f114, Tryz.func114, by kernel_rfl, by kernel_rfl⟩⟩
instance : FnB Tryz.prog 115 := ⟨⟨Tryz.f115, Tryz.func115, by kernel_rfl, by kernel_rfl⟩⟩
instance : FnB Tryz.prog 116 := ⟨⟨Tryz.f116, Tryz.func116, by kernel_rfl, by kernel_rfl⟩⟩
instance : FnB Tryz.prog 117 := ⟨⟨Tryz.f117, Tryz.func117, by kernel_rfl, by kernel_rfl⟩⟩
instance : FnB Tryz.prog 118 := ⟨⟨Tryz.f118, Tryz.func118, by kernel_rfl, by kernel_rfl⟩⟩
instance : FnB Tryz.prog 119 := ⟨⟨Tryz.f119, Tryz.func119, by kernel_rfl, by kernel_rfl⟩⟩
instance : FnB Tryz.prog 120 := ⟨⟨Tryz.f120, Tryz.func120, by kernel_rfl, by kernel_rfl⟩⟩
instance : FnB Tryz.prog 121 := ⟨⟨Tryz.f121, Tryz.func121, by kernel_rfl, by kernel_rfl⟩⟩
instance : FnB Tryz.prog 122 := ⟨⟨Tryz.f122, Tryz.func122, by kernel_rfl, by kernel_rfl⟩⟩
instance : TyB Tryz.prog 7 [(0, 1), (1, 1), (2, 1), (3, 1)] := ⟨by kernel_rfl⟩
instance : TyB Tryz.prog 8 [(0, 1), (1, 1), (2, 1), (3, 1)] := ⟨by kernel_rfl⟩
instance : TyB Tryz.prog 13 [(0, 1), (1, 1)] := ⟨by kernel_rfl⟩
instance : TyB Tryz.prog 14 [(0, 1), (1, 1)] := ⟨by kernel_rfl⟩
instance : TyB Tryz.prog 18 [(0, 1)] := ⟨by kernel_rfl⟩
instance : TyB Tryz.prog 19 [(0, 1)] := ⟨by kernel_rfl⟩
instance : TyB Tryz.prog 23 [(0, 1), (1, 1), (2, 1), (3, 1), (4, 1)] := ⟨by kernel_rfl⟩
instance : TyB Tryz.prog 24 [(0, 1), (1, 1), (2, 1), (3, 1), (4, 1)] := ⟨by kernel_rfl⟩
instance : TyB Tryz.prog 46 [(0, 1), (1, 1)] := ⟨by kernel_rfl⟩
instance : TyB Tryz.prog 47 [(0, 1), (1, 1)] := ⟨by kernel_rfl⟩
instance : TyB Tryz.prog 57 [(0, 1), (1, 1)] := ⟨by kernel_rfl⟩
instance : TyB Tryz.prog 58 [(0, 1), (1, 1)] := ⟨by kernel_rfl⟩
instance : TyB Tryz.prog 73 [(0, 1), (1, 1)] := ⟨by kernel_rfl⟩
instance : TyB Tryz.prog 74 [(0, 1), (1, 1)] := ⟨by kernel_rfl⟩
instance : TyB Tryz.prog 86 [(0, 1), (1, 1)] := ⟨by kernel_rfl⟩
instance : TyB Tryz.prog 87 [(0, 1), (1, 1)] := ⟨by kernel_rfl⟩
instance : TyB Tryz.prog 118 [(0, 1), (1, 1)] := ⟨by kernel_rfl⟩
instance : TyB Tryz.prog 119 [(0, 1), (1, 1)] := ⟨by kernel_rfl⟩
instance : TyB Tryz.prog 135 [(0, 1), (1, 1), (2, 1), (3, 1)] := ⟨by kernel_rfl⟩
instance : TyB Tryz.prog 136 [(0, 1), (1, 1), (2, 1), (3, 1)] := ⟨by kernel_rfl⟩
instance : TyB Tryz.prog 138 [(0, 0)] := ⟨by kernel_rfl⟩
instance : TyB Tryz.prog 139 [(0, 0)] := ⟨by kernel_rfl⟩
instance : TyB Tryz.prog 145 [(0, 1), (1, 1), (2, 1), (3, 1), (4, 1), (5, 1), (6, 1), (7, 1), (8, 1), (9, 1), (10, 1)] := ⟨by kernel_rfl⟩
instance : TyB Tryz.prog 146 [(0, 1), (1, 1), (2, 1), (3, 1), (4, 1), (5, 1), (6, 1), (7, 1), (8, 1), (9, 1), (10, 1)] := ⟨by kernel_rfl⟩
end Go.AL
namespace Go.AL
open Go Go.Proofs Go.RowKit
theorem zed : ∀ n : Fin 32, 1 ≤ n.val → IntKind.u64.wrap ((BitVec.ofInt IntKind.u64.bits (IntKind.u64.wrap (IntKind.i64.wrap (0 - (n.val : Int)))) &&& BitVec.ofInt IntKind.u64.bits 31).toNat : Int) = ((32 - n.val : Nat) : Int) := by decide +kernel
theorem yT {n : Int} (h0 : 0 ≤ n) (h1 : n < 18446744073709551616) : IntKind.u64.wrap n = n := by
  simp only [IntKind.wrap, IntKind.bits, IntKind.signed, Bool.false_and, Bool.false_eq_true, if_false]; omega
theorem zgw {n : Int} (h0 : 0 ≤ n) (h1 : n < 4294967296) : IntKind.u32.wrap n = n := by
  simp only [IntKind.wrap, IntKind.bits, IntKind.signed, Bool.false_and, Bool.false_eq_true, if_false]; omega
theorem zdz (s : ByteArray) (i : Int) : IntKind.u32.wrap (bAt s i) = bAt s i := by
  have := zca s i
  exact zgw (by omega) (by omega)
theorem kp {n : Nat} (h : n ≤ 32) : min ((n : Nat) : Int).toNat IntKind.u32.bits = n := by
  have : IntKind.u32.bits = 32 := rfl
  omega
theorem zhn (a b : Int) : wo a b = wo b a := by unfold wo; rw [BitVec.or_comm]
set_option maxHeartbeats 2000000 in
theorem zfx (x : Int) (n : Nat) (h1 : 1 ≤ n) (h2 : n ≤ 31) : Spec Tryz.prog 117 [.t (.int .u32 x), .t (.int .i64 (IntKind.i64.wrap (0 - (n : Int))))] [] (.t (.int .u32 (rr x n))) [] := by
  have ha := zed ⟨n, by omega⟩ h1
  simp only at ha
  refine wI Tryz.func117 ?_
  repeat' (first | refine wC ?_ | refine wK ?_ | ((with_reducible refine zF ?_); first | refine zfp rfl rfl rfl rfl rfl rfl ?_ ?_ | refine qY rfl rfl rfl rfl rfl rfl ?_ ?_))
  all_goals rw [ha]
  · omega
  · rw [yT (by omega) (by omega)]; omega
  · refine zo (zf rfl rfl (congrArg (T.int .u32) ?_)) (by simp)
    rw [yT (by omega) (by omega), show (32 : Int) - ((32 - n : Nat) : Int) = (n : Int) by omega, kp (by omega), kp (by omega)]
    exact zhn _ _
theorem yu (x : Int) (n : Nat) (h1 : 1 ≤ n) (h2 : n ≤ 31) : Spec Tryz.prog 99 [.t (.int .u32 x), .t (.int .i64 (n : Int))] [] (.t (.int .u32 (rr x n))) [] := by
  have hR := zfx x n h1 h2
  refine wI Tryz.func99 ?_
  repeat' (first | refine wC ?_ | refine wK ?_ | ((with_reducible refine zg ?_); refine wL hR ?_) | fail)
  all_goals exact zo (zf rfl rfl rfl) (by simp)
set_option maxHeartbeats 2000000 in
theorem yr (x : Int) (n : Nat) (h1 : 1 ≤ n) (h2 : n ≤ 31) : Spec Tryz.prog 95 [.t (.int .u32 x), .t (.int .i64 (n : Int))] [] (.t (.int .u32 (rr x n))) [] := by
  refine wI Tryz.func95 ?_
  repeat' (first | refine wC ?_ | refine wK ?_ | ((with_reducible refine zF ?_); first | refine zfp rfl rfl rfl rfl rfl rfl ?_ ?_ | refine qY rfl rfl rfl rfl rfl rfl ?_ ?_))
  · rw [yT (by omega) (by omega)]; omega
  · rw [zj (n := (32 : Int) - n) (by omega) (by omega), yT (by omega) (by omega)]; omega
  · refine zo (zf rfl rfl (congrArg (T.int .u32) ?_)) (by simp)
    rw [zj (n := (32 : Int) - n) (by omega) (by omega), yT (n := (n : Int)) (by omega) (by omega), yT (n := (32 : Int) - n) (by omega) (by omega), show (32 : Int) - (n : Int) = ((32 - n : Nat) : Int) by omega, kp (by omega), kp (by omega)]
    rfl
set_option maxHeartbeats 2000000 in
theorem zeI (s : ByteArray) (hs : 4 ≤ s.size) : Spec Tryz.prog 94 [.t (.str s)] [] (.t (.int .u32 (qx s.data.toList 0))) [] := by
  refine wI Tryz.func94 ?_
  repeat' (first | refine wC ?_ | refine wK ?_ | ((with_reducible refine yx ?_); refine zK rfl rfl rfl rfl rfl rfl ?_ ?_ ?_))
  all_goals try omega
  refine zo (zf rfl rfl (congrArg (T.int .u32) ?_)) (by simp)
  simp only [zdz]
  rfl
abbrev wy : Int → T := T.int .u32
theorem xn (l : List Int) : ∀ x ∈ l.map wy, x.isAgg = false := fun x hx => by
  obtain ⟨n, _, rfl⟩ := List.mem_map.1 hx; rfl
theorem zdM {f : Nat → List Int → List Int} (hf : ∀ i l, (f i l).length = l.length) (c t : Nat) (a : List Int) : (xE f c t a).length = a.length :=
  zdY (Q := fun l => l.length = a.length) (fun i x h => (hf i x).trans h) c t a rfl
theorem zbC (p : List UInt8) : (kj p).length = 64 := (zdM (fun i l => by simp) _ _ _).trans rfl
theorem zbz (w : List Int) : (zbS w).length = w.length := zdM (fun i l => by simp [wq]) _ _ _
def vO (v : List Int) (i : Nat) (l : List Int) : List Int := l.set i (wp (l.getD i 0) (v.getD i 0))
theorem kG (u v : H8) : xE (vO v.l) 8 0 u.l = (jc u v).l := rfl
theorem zje (v : H8) : v.t.map AV.t = (v.l.map wy).map AV.t := rfl
set_option maxHeartbeats 8000000 in
theorem zgY (v : H8) (b : ByteArray) (hb : 64 ≤ b.size) (hb2 : b.size ≤ 1000000000) : Spec Tryz.prog 79 [.ref (.par 0) 0 0 0, .t (.str b), .ref (.par 1) 0 0 0] [(.par 0, .var 98 (v.t.map AV.t)), (.par 1, .arr 95 1 (zdZ.map wy))] (.tup []) [(.par 0, .var 98 ((ze8 v b.data.toList).t.map AV.t)), (.par 1, .arr 95 1 (zdZ.map wy))] := by
  unfold ze8
  obtain ⟨V, hV⟩ : ∃ V, V = zbT (zbS (kj b.data.toList)) v := ⟨_, rfl⟩
  obtain ⟨S, hS⟩ : ∃ S, S = zbS (kj b.data.toList) := ⟨_, rfl⟩
  obtain ⟨W, hW⟩ : ∃ W, W = kj b.data.toList := ⟨_, rfl⟩
  have hWl : W.length = 64 := by rw [hW]; exact zbC _
  have hSl : S.length = 64 := by rw [hS, ← hW, zbz]; exact hWl
  rw [← hW] at hS hV
  rw [← hW]
  rw [← hS] at hV ⊢
  rw [← hV]
  unfold zbT at hV
  unfold zbS at hS
  unfold kj at hW
  obtain ⟨K, hK⟩ : ∃ K, K = zdZ := ⟨_, rfl⟩
  have hKl : K.length = 64 := by rw [hK]; rfl
  rw [← hK] at hV ⊢
  refine wIG Tryz.func79 ?_
  repeat' (first | refine wC ?_ | refine wK ?_ | fail)
  refine zb (yh (id := .loc 6) rfl (RowLE.arr (es := w0L.map wy) rfl (xn _)) rfl) ?_
  refine zb (za [0, 1, 2, 6, 21] [.par 0, .par 1, .loc 6] rfl rfl) ?_
  refine ze (fun p env st => ∃ (t : Nat) (w : List Int), t ≤ 16 ∧ p = 16 - t ∧ w.length = 64 ∧ W = xE (fun t w => w.set t (qx b.data.toList t)) (16 - t) t w ∧
      env = EnvL.get [(0, .ref (.par 0) 0 0 0), (1, .t (.str b)), (2, .ref (.par 1) 0 0 0), (6, .ref (.loc 6) 0 0 0), (21, .t (.int .i64 (t : Int)))] ∧
      st = StO.get [(.par 0, some (.var 98 (v.t.map AV.t))), (.par 1, some (.arr 95 1 (K.map wy))), (.loc 6, some (.arr 95 1 (w.map wy)))])
    ?_ (n := 16) ⟨0, w0L, by omega, rfl, rfl, hW, rfl, rfl⟩
  rintro p env st ⟨t, w, ht, rfl, hw, hi, rfl, rfl⟩
  clear hW
  by_cases hlt : t < 16
  · obtain ⟨c, hc⟩ : ∃ c, 16 - t = c + 1 := ⟨16 - t - 1, by omega⟩
    rw [hc] at hi
    simp only [xE] at hi
    have w0 : IntKind.i64.wrap (4 * (t : Int)) = ((4 * t : Nat) : Int) := by rw [zj (by omega) (by omega)]; omega
    have w1 : IntKind.i64.wrap (((4 * t : Nat) : Int) + 1) = ((4 * t + 1 : Nat) : Int) := by rw [zj (by omega) (by omega)]; omega
    have w2 : IntKind.i64.wrap (((4 * t : Nat) : Int) + 2) = ((4 * t + 2 : Nat) : Int) := by rw [zj (by omega) (by omega)]; omega
    have w3 : IntKind.i64.wrap (((4 * t : Nat) : Int) + 3) = ((4 * t + 3 : Nat) : Int) := by rw [zj (by omega) (by omega)]; omega
    repeat' (first | refine wC ?_ | refine wK ?_ | ((with_reducible refine zd ?_); refine zq rfl rfl rfl rfl rfl rfl ?_ ?_ ?_) | ((with_reducible refine yx ?_); refine zK rfl rfl rfl rfl rfl rfl ?_ ?_ ?_) | ((with_reducible refine yY ?_); refine yC rfl rfl rfl rfl rfl rfl rfl ?_ ?_) | refine zi rfl ?_ ?_ <;> intro hc)
    all_goals try simp only [w0, w1, w2, w3, zdz]
    all_goals try omega
    exact zr (n' := 16 - (t + 1)) (by omega) (za [0, 1, 2, 6, 21] [.par 0, .par 1, .loc 6] rfl rfl) ⟨t + 1, w.set t (qx b.data.toList t), by omega, rfl, by simpa using hw, by rw [hi, show 16 - (t + 1) = c by omega], by rw [zj (by omega) (by omega)]; rfl, rfl⟩
  · obtain rfl : t = 16 := by omega
    simp only [Nat.sub_self, xE] at hi
    subst hi
    repeat' (first | refine wC ?_ | refine wK ?_ | fail)
    all_goals try (exfalso; omega)
    refine zb (za [0, 1, 2, 6, 8] [.par 0, .par 1, .loc 6] rfl rfl) ?_
    refine ze (fun p env st => ∃ (t : Nat) (w : List Int), 16 ≤ t ∧ t ≤ 64 ∧ p = 64 - t ∧ w.length = 64 ∧ S = xE wq (64 - t) t w ∧
        env = EnvL.get [(0, .ref (.par 0) 0 0 0), (1, .t (.str b)), (2, .ref (.par 1) 0 0 0), (6, .ref (.loc 6) 0 0 0), (8, .t (.int .i64 (t : Int)))] ∧
        st = StO.get [(.par 0, some (.var 98 (v.t.map AV.t))), (.par 1, some (.arr 95 1 (K.map wy))), (.loc 6, some (.arr 95 1 (w.map wy)))])
      ?_ (n := 48) ⟨16, W, by omega, by omega, rfl, hw, hS, rfl, rfl⟩
    rintro p env st ⟨t, w, ht0, ht, rfl, hwl, hi, rfl, rfl⟩
    clear hS
    by_cases hlt : t < 64
    · obtain ⟨c, hc⟩ : ∃ c, 64 - t = c + 1 := ⟨64 - t - 1, by omega⟩
      rw [hc] at hi
      simp only [xE, wq] at hi
      have w0 : IntKind.i64.wrap ((t : Int) - 15) = ((t - 15 : Nat) : Int) := by rw [zj (by omega) (by omega)]; omega
      have w1 : IntKind.i64.wrap ((t : Int) - 2) = ((t - 2 : Nat) : Int) := by rw [zj (by omega) (by omega)]; omega
      have w2 : IntKind.i64.wrap ((t : Int) - 7) = ((t - 7 : Nat) : Int) := by rw [zj (by omega) (by omega)]; omega
      have w3 : IntKind.i64.wrap ((t : Int) - 16) = ((t - 16 : Nat) : Int) := by rw [zj (by omega) (by omega)]; omega
      have r7 := fun x => yu x 7 (by omega) (by omega)
      have r18 := fun x => yu x 18 (by omega) (by omega)
      have r17 := fun x => yu x 17 (by omega) (by omega)
      have r19 := fun x => yu x 19 (by omega) (by omega)
      repeat' (first | refine wC ?_ | refine wK ?_ | ((with_reducible refine zd ?_); refine zq rfl rfl rfl rfl rfl rfl ?_ ?_ ?_) | ((with_reducible refine zg ?_); first | refine wL (r7 _) ?_ | refine wL (r18 _) ?_ | refine wL (r17 _) ?_ | refine wL (r19 _) ?_) | ((with_reducible refine xu ?_); refine yO rfl rfl rfl rfl rfl rfl rfl rfl ?_ ?_) | ((with_reducible refine yY ?_); refine yC rfl rfl rfl rfl rfl rfl rfl ?_ ?_) | refine zi rfl ?_ ?_ <;> intro hc)
      all_goals try simp only [w0, w1, w2, w3]
      all_goals try omega
      all_goals try (rw [Int.toNat_natCast]; omega)
      exact zr (n' := 64 - (t + 1)) (by omega) (za [0, 1, 2, 6, 8] [.par 0, .par 1, .loc 6] rfl rfl) ⟨t + 1, _, by omega, by omega, rfl, by rw [List.length_set]; exact hwl, by rw [hi, show 64 - (t + 1) = c by omega]; rfl, by rw [zj (by omega) (by omega)]; rfl, rfl⟩
    · obtain rfl : t = 64 := by omega
      simp only [Nat.sub_self, xE] at hi
      subst hi
      repeat' (first | refine wC ?_ | refine wK ?_ | fail)
      all_goals try (exfalso; omega)
      refine zb (za [0, 2, 6, 13, 102] [.par 0, .par 1, .loc 6, .loc 13] rfl rfl) ?_
      refine ze (fun p env st => ∃ (t : Nat) (r : H8), t ≤ 64 ∧ p = 64 - t ∧ V = xE (fun t v => rnd (K.getD t 0) (S.getD t 0) v) (64 - t) t r ∧
          env = EnvL.get [(0, .ref (.par 0) 0 0 0), (2, .ref (.par 1) 0 0 0), (6, .ref (.loc 6) 0 0 0), (13, .ref (.loc 13) 0 0 0), (102, .t (.int .i64 (t : Int)))] ∧
          st = StO.get [(.par 0, some (.var 98 (v.t.map AV.t))), (.par 1, some (.arr 95 1 (K.map wy))), (.loc 6, some (.arr 95 1 (S.map wy))), (.loc 13, some (.var 98 (r.t.map AV.t)))])
        ?_ (n := 64) ⟨0, v, by omega, rfl, hV, rfl, rfl⟩
      rintro p env st ⟨t, r, ht, rfl, hi, rfl, rfl⟩
      clear hV
      by_cases hlt : t < 64
      · obtain ⟨c, hc⟩ : ∃ c, 64 - t = c + 1 := ⟨64 - t - 1, by omega⟩
        rw [hc] at hi
        simp only [xE] at hi
        obtain ⟨a1, a2, a3, a4, a5, a6, a7, a8⟩ := r
        have r6 := fun x => yu x 6 (by omega) (by omega)
        have r11 := fun x => yu x 11 (by omega) (by omega)
        have r25 := fun x => yu x 25 (by omega) (by omega)
        have r2 := fun x => yu x 2 (by omega) (by omega)
        have r13 := fun x => yu x 13 (by omega) (by omega)
        have r22 := fun x => yu x 22 (by omega) (by omega)
        simp only [H8.t, List.map_cons, List.map_nil]
        repeat' (first | refine wC ?_ | refine wK ?_ | ((with_reducible refine zd ?_); refine zq rfl rfl rfl rfl rfl rfl ?_ ?_ ?_) | ((with_reducible refine zg ?_); first | refine wL (r6 _) ?_ | refine wL (r11 _) ?_ | refine wL (r25 _) ?_ | refine wL (r2 _) ?_ | refine wL (r13 _) ?_ | refine wL (r22 _) ?_) | ((with_reducible refine xu ?_); refine yO rfl rfl rfl rfl rfl rfl rfl rfl ?_ ?_) | ((with_reducible refine vc ?_); refine yU (r := (.t (.agg _))) rfl rfl rfl rfl rfl rfl rfl ?_) | refine zi rfl ?_ ?_ <;> intro hc)
        all_goals try omega
        all_goals try (rw [Int.toNat_natCast]; omega)
        exact zr (n' := 64 - (t + 1)) (by omega) (za [0, 2, 6, 13, 102] [.par 0, .par 1, .loc 6, .loc 13] rfl rfl) ⟨t + 1, rnd (K.getD t 0) (S.getD t 0) ⟨a1, a2, a3, a4, a5, a6, a7, a8⟩, by omega, rfl, by rw [hi, show 64 - (t + 1) = c by omega], by rw [zj (by omega) (by omega)]; rfl, rfl⟩
      · obtain rfl : t = 64 := by omega
        simp only [Nat.sub_self, xE] at hi
        subst hi
        obtain ⟨R, hR⟩ : ∃ R, R = (jc v V).l := ⟨_, rfl⟩
        have hR2 : R = xE (vO V.l) 8 0 v.l := by rw [hR, kG]
        have hrt : (V.l.map wy) = V.t := rfl
        have hvl : v.l.length = 8 := rfl
        have hrl : V.l.length = 8 := rfl
        rw [zje (jc v V), ← hR]
        repeat' (first | refine wC ?_ | refine wK ?_ | fail)
        all_goals try (exfalso; omega)
        refine zb (yh (id := .par 0) rfl (RowLE.arr (es := v.l.map wy) rfl (xn _)) rfl) ?_
        refine zb (za [0, 186, 187] [.par 0, .par 1] rfl rfl) ?_
        obtain ⟨vl, hvl'⟩ : ∃ l, l = v.l := ⟨_, rfl⟩
        obtain ⟨rl, hrl'⟩ : ∃ l, l = V.l := ⟨_, rfl⟩
        rw [← hvl'] at hR2 hvl
        rw [← hrl'] at hR2 hrl
        clear hR
        refine ze (fun p env st => ∃ (t : Nat) (l : List Int), t ≤ 8 ∧ p = 8 - t ∧ l.length = 8 ∧ R = xE (vO rl) (8 - t) t l ∧
            env = EnvL.get [(0, .ref (.par 0) 0 0 0), (186, .t (.agg (rl.map wy))), (187, .t (.int .i64 (t : Int)))] ∧
            st = StO.get [(.par 0, some (.arr 98 1 (l.map wy))), (.par 1, some (.arr 95 1 (K.map wy)))])
          ?_ (n := 8) ⟨0, vl, by omega, rfl, hvl, hR2, by rw [hrl']; rfl, by rw [hvl']; rfl⟩
        clear hR2
        rintro p env st ⟨t, l, ht, rfl, hl, hi, rfl, rfl⟩
        by_cases hlt : t < 8
        · obtain ⟨c, hc⟩ : ∃ c, 8 - t = c + 1 := ⟨8 - t - 1, by omega⟩
          rw [hc] at hi
          simp only [xE, vO] at hi
          repeat' (first | refine wC ?_ | refine wK ?_ | ((with_reducible refine zd ?_); refine zq rfl rfl rfl rfl rfl rfl ?_ ?_ ?_) | ((with_reducible refine xu ?_); refine yO rfl rfl rfl rfl rfl rfl rfl rfl ?_ ?_) | ((with_reducible refine yY ?_); refine yC rfl rfl rfl rfl rfl rfl rfl ?_ ?_) | ((with_reducible refine yx ?_); refine wJ rfl rfl rfl rfl rfl rfl rfl ?_ ?_ ?_ ?_) | refine zi rfl ?_ ?_ <;> intro hc)
          all_goals try omega
          all_goals try (rw [Int.toNat_natCast]; omega)
          exact zr (n' := 8 - (t + 1)) (by omega) (za [0, 186, 187] [.par 0, .par 1] rfl rfl) ⟨t + 1, _, by omega, rfl, by rw [List.length_set]; exact hl, by rw [hi, show 8 - (t + 1) = c by omega]; rfl, by rw [zj (by omega) (by omega)]; rfl, rfl⟩
        · obtain rfl : t = 8 := by omega
          simp only [Nat.sub_self, xE] at hi
          subst hi
          repeat' (first | refine wC ?_ | refine wK ?_ | fail)
          all_goals try (exfalso; omega)
          refine zx (yh (id := .par 0) rfl (RowLE.unarr (cs := (R.map wy).map AV.t) rfl (xn _)) rfl) ?_
          exact zQ (zid (jp rfl) (zv ⟨rfl, rfl, trivial⟩))
theorem zhp (l : List UInt8) (n i : Nat) : bL (l.drop n) i = bL l (n + i) := by
  unfold bL
  rw [List.getD_eq_getElem?_getD, List.getD_eq_getElem?_getD, List.getElem?_drop]
theorem jD (b : ByteArray) (i j : Nat) : (b.extract i j).data.toList = (b.data.toList.drop i).take (j - i) := by
  simp [ByteArray.data_extract]
theorem zeV (b : ByteArray) (t : Nat) (hb : 64 ≤ b.size) : qx (b.extract ((4 * t : Nat) : Int).toNat (b.size : Int).toNat).data.toList 0 = qx b.data.toList t := by
  rw [jD, List.take_of_length_le (by rw [List.length_drop]; have := zZ b; omega)]
  unfold qx
  simp only [zhp, Int.toNat_natCast, Nat.mul_zero, Nat.add_zero, Nat.zero_add]
set_option maxHeartbeats 8000000 in
theorem zep (v : H8) (b : ByteArray) (hb : 64 ≤ b.size) (hb2 : b.size ≤ 1000000000) : Spec Tryz.prog 74 [.t (.agg v.t), .t (.agg (zdZ.map wy)), .t (.str b)] [] (.t (.agg (ze8 v b.data.toList).t)) [] := by
  unfold ze8
  obtain ⟨V, hV⟩ : ∃ V, V = zbT (zbS (kj b.data.toList)) v := ⟨_, rfl⟩
  obtain ⟨S, hS⟩ : ∃ S, S = zbS (kj b.data.toList) := ⟨_, rfl⟩
  obtain ⟨W, hW⟩ : ∃ W, W = kj b.data.toList := ⟨_, rfl⟩
  have hWl : W.length = 64 := by rw [hW]; exact zbC _
  have hSl : S.length = 64 := by rw [hS, ← hW, zbz]; exact hWl
  rw [← hW] at hS hV
  rw [← hW]
  rw [← hS] at hV ⊢
  rw [← hV]
  unfold zbT at hV
  unfold zbS at hS
  unfold kj at hW
  refine wIG Tryz.func74 ?_
  repeat' (first | refine wC ?_ | refine wK ?_ | fail)
  refine zb (yh (id := .loc 7) rfl (RowLE.arr (es := w0L.map wy) rfl (xn _)) rfl) ?_
  refine zb (yh (id := .loc 4) rfl (RowLE.arr (es := zdZ.map wy) rfl (xn _)) rfl) ?_
  obtain ⟨K, hK⟩ : ∃ K, K = zdZ := ⟨_, rfl⟩
  have hKl : K.length = 64 := by rw [hK]; rfl
  rw [← hK] at hV ⊢
  refine zb (za [2, 3, 4, 6, 7, 21] [.loc 3, .loc 4, .loc 6, .loc 7] rfl rfl) ?_
  refine ze (fun p env st => ∃ (t : Nat) (w : List Int), t ≤ 16 ∧ p = 16 - t ∧ w.length = 64 ∧ W = xE (fun t w => w.set t (qx b.data.toList t)) (16 - t) t w ∧
      env = EnvL.get [(2, .t (.str b)), (3, .ref (.loc 3) 0 0 0), (4, .ref (.loc 4) 0 0 0), (6, .ref (.loc 6) 0 0 0), (7, .ref (.loc 7) 0 0 0), (21, .t (.int .i64 (t : Int)))] ∧
      st = StO.get [(.loc 3, some (.var 93 (v.t.map AV.t))), (.loc 4, some (.arr 95 1 (K.map wy))), (.loc 6, some (.var 93 [.t (.int .u32 0), .t (.int .u32 0), .t (.int .u32 0), .t (.int .u32 0), .t (.int .u32 0), .t (.int .u32 0), .t (.int .u32 0), .t (.int .u32 0)])), (.loc 7, some (.arr 95 1 (w.map wy)))])
    ?_ (n := 16) ⟨0, w0L, by omega, rfl, rfl, hW, rfl, rfl⟩
  rintro p env st ⟨t, w, ht, rfl, hw, hi, rfl, rfl⟩
  clear hW
  by_cases hlt : t < 16
  · obtain ⟨c, hc⟩ : ∃ c, 16 - t = c + 1 := ⟨16 - t - 1, by omega⟩
    rw [hc] at hi
    simp only [xE] at hi
    have w0 : IntKind.i64.wrap (4 * (t : Int)) = ((4 * t : Nat) : Int) := by rw [zj (by omega) (by omega)]; omega
    have hW : Spec Tryz.prog 94 [.t (.str (b.extract (IntKind.i64.wrap (4 * (t : Int))).toNat (b.size : Int).toNat))] [] (.t (.int .u32 (qx b.data.toList t))) [] := by
      rw [w0, ← zeV b t hb]
      exact zeI _ (by rw [ByteArray.size_extract]; omega)
    repeat' (first | refine wC ?_ | refine wK ?_ | ((with_reducible refine zd ?_); refine zq rfl rfl rfl rfl rfl rfl ?_ ?_ ?_) | ((with_reducible refine yF ?_); refine zy rfl rfl ⟨_, rfl⟩ rfl rfl rfl rfl ?_ ?_ ?_ ?_) | ((with_reducible refine zg ?_); refine wL hW ?_) | ((with_reducible refine yY ?_); refine yC rfl rfl rfl rfl rfl rfl rfl ?_ ?_) | refine zi rfl ?_ ?_ <;> intro hc)
    all_goals try simp only [w0]
    all_goals try omega
    exact zr (n' := 16 - (t + 1)) (by omega) (za [2, 3, 4, 6, 7, 21] [.loc 3, .loc 4, .loc 6, .loc 7] rfl rfl) ⟨t + 1, w.set t (qx b.data.toList t), by omega, rfl, by simpa using hw, by rw [hi, show 16 - (t + 1) = c by omega], by rw [zj (by omega) (by omega)]; rfl, rfl⟩
  · obtain rfl : t = 16 := by omega
    simp only [Nat.sub_self, xE] at hi
    subst hi
    repeat' (first | refine wC ?_ | refine wK ?_ | fail)
    all_goals try (exfalso; omega)
    refine zb (za [2, 3, 4, 6, 7, 9] [.loc 3, .loc 4, .loc 6, .loc 7] rfl rfl) ?_
    refine ze (fun p env st => ∃ (t : Nat) (w : List Int), 16 ≤ t ∧ t ≤ 64 ∧ p = 64 - t ∧ w.length = 64 ∧ S = xE wq (64 - t) t w ∧
        env = EnvL.get [(2, .t (.str b)), (3, .ref (.loc 3) 0 0 0), (4, .ref (.loc 4) 0 0 0), (6, .ref (.loc 6) 0 0 0), (7, .ref (.loc 7) 0 0 0), (9, .t (.int .i64 (t : Int)))] ∧
        st = StO.get [(.loc 3, some (.var 93 (v.t.map AV.t))), (.loc 4, some (.arr 95 1 (K.map wy))), (.loc 6, some (.var 93 [.t (.int .u32 0), .t (.int .u32 0), .t (.int .u32 0), .t (.int .u32 0), .t (.int .u32 0), .t (.int .u32 0), .t (.int .u32 0), .t (.int .u32 0)])), (.loc 7, some (.arr 95 1 (w.map wy)))])
      ?_ (n := 48) ⟨16, W, by omega, by omega, rfl, hw, hS, rfl, rfl⟩
    rintro p env st ⟨t, w, ht0, ht, rfl, hwl, hi, rfl, rfl⟩
    clear hS
    by_cases hlt : t < 64
    · obtain ⟨c, hc⟩ : ∃ c, 64 - t = c + 1 := ⟨64 - t - 1, by omega⟩
      rw [hc] at hi
      simp only [xE, wq] at hi
      have w0 : IntKind.i64.wrap ((t : Int) - 15) = ((t - 15 : Nat) : Int) := by rw [zj (by omega) (by omega)]; omega
      have w1 : IntKind.i64.wrap ((t : Int) - 2) = ((t - 2 : Nat) : Int) := by rw [zj (by omega) (by omega)]; omega
      have w2 : IntKind.i64.wrap ((t : Int) - 7) = ((t - 7 : Nat) : Int) := by rw [zj (by omega) (by omega)]; omega
      have w3 : IntKind.i64.wrap ((t : Int) - 16) = ((t - 16 : Nat) : Int) := by rw [zj (by omega) (by omega)]; omega
      have r7 := fun x => yr x 7 (by omega) (by omega)
      have r18 := fun x => yr x 18 (by omega) (by omega)
      have r17 := fun x => yr x 17 (by omega) (by omega)
      have r19 := fun x => yr x 19 (by omega) (by omega)
      repeat' (first | refine wC ?_ | refine wK ?_ | ((with_reducible refine zd ?_); refine zq rfl rfl rfl rfl rfl rfl ?_ ?_ ?_) | ((with_reducible refine zg ?_); first | refine wL (r7 _) ?_ | refine wL (r18 _) ?_ | refine wL (r17 _) ?_ | refine wL (r19 _) ?_) | ((with_reducible refine xu ?_); refine yO rfl rfl rfl rfl rfl rfl rfl rfl ?_ ?_) | ((with_reducible refine yY ?_); refine yC rfl rfl rfl rfl rfl rfl rfl ?_ ?_) | refine zi rfl ?_ ?_ <;> intro hc)
      all_goals try simp only [w0, w1, w2, w3]
      all_goals try omega
      all_goals try (rw [Int.toNat_natCast]; omega)
      exact zr (n' := 64 - (t + 1)) (by omega) (za [2, 3, 4, 6, 7, 9] [.loc 3, .loc 4, .loc 6, .loc 7] rfl rfl) ⟨t + 1, _, by omega, by omega, rfl, by rw [List.length_set]; exact hwl, by rw [hi, show 64 - (t + 1) = c by omega]; rfl, by rw [zj (by omega) (by omega)]; rfl, rfl⟩
    · obtain rfl : t = 64 := by omega
      simp only [Nat.sub_self, xE] at hi
      subst hi
      repeat' (first | refine wC ?_ | refine wK ?_ | fail)
      all_goals try (exfalso; omega)
      refine zb (za [3, 4, 6, 7, 14, 76] [.loc 3, .loc 4, .loc 6, .loc 7, .loc 14] rfl rfl) ?_
      refine ze (fun p env st => ∃ (t : Nat) (r : H8), t ≤ 64 ∧ p = 64 - t ∧ V = xE (fun t v => rnd (K.getD t 0) (S.getD t 0) v) (64 - t) t r ∧
          env = EnvL.get [(3, .ref (.loc 3) 0 0 0), (4, .ref (.loc 4) 0 0 0), (6, .ref (.loc 6) 0 0 0), (7, .ref (.loc 7) 0 0 0), (14, .ref (.loc 14) 0 0 0), (76, .t (.int .i64 (t : Int)))] ∧
          st = StO.get [(.loc 3, some (.var 93 (v.t.map AV.t))), (.loc 4, some (.arr 95 1 (K.map wy))), (.loc 6, some (.var 93 [.t (.int .u32 0), .t (.int .u32 0), .t (.int .u32 0), .t (.int .u32 0), .t (.int .u32 0), .t (.int .u32 0), .t (.int .u32 0), .t (.int .u32 0)])), (.loc 7, some (.arr 95 1 (S.map wy))), (.loc 14, some (.var 93 (r.t.map AV.t)))])
        ?_ (n := 64) ⟨0, v, by omega, rfl, hV, rfl, rfl⟩
      rintro p env st ⟨t, r, ht, rfl, hi, rfl, rfl⟩
      clear hV
      by_cases hlt : t < 64
      · obtain ⟨c, hc⟩ : ∃ c, 64 - t = c + 1 := ⟨64 - t - 1, by omega⟩
        rw [hc] at hi
        simp only [xE] at hi
        obtain ⟨a1, a2, a3, a4, a5, a6, a7, a8⟩ := r
        have r6 := fun x => yr x 6 (by omega) (by omega)
        have r11 := fun x => yr x 11 (by omega) (by omega)
        have r25 := fun x => yr x 25 (by omega) (by omega)
        have r2 := fun x => yr x 2 (by omega) (by omega)
        have r13 := fun x => yr x 13 (by omega) (by omega)
        have r22 := fun x => yr x 22 (by omega) (by omega)
        simp only [H8.t, List.map_cons, List.map_nil]
        repeat' (first | refine wC ?_ | refine wK ?_ | ((with_reducible refine zd ?_); refine zq rfl rfl rfl rfl rfl rfl ?_ ?_ ?_) | ((with_reducible refine zg ?_); first | refine wL (r6 _) ?_ | refine wL (r11 _) ?_ | refine wL (r25 _) ?_ | refine wL (r2 _) ?_ | refine wL (r13 _) ?_ | refine wL (r22 _) ?_) | ((with_reducible refine xu ?_); refine yO rfl rfl rfl rfl rfl rfl rfl rfl ?_ ?_) | ((with_reducible refine vc ?_); refine yU (r := (.t (.agg _))) rfl rfl rfl rfl rfl rfl rfl ?_) | refine zi rfl ?_ ?_ <;> intro hc)
        all_goals try omega
        all_goals try (rw [Int.toNat_natCast]; omega)
        exact zr (n' := 64 - (t + 1)) (by omega) (za [3, 4, 6, 7, 14, 76] [.loc 3, .loc 4, .loc 6, .loc 7, .loc 14] rfl rfl) ⟨t + 1, rnd (K.getD t 0) (S.getD t 0) ⟨a1, a2, a3, a4, a5, a6, a7, a8⟩, by omega, rfl, by rw [hi, show 64 - (t + 1) = c by omega], by rw [zj (by omega) (by omega)]; rfl, rfl⟩
      · obtain rfl : t = 64 := by omega
        simp only [Nat.sub_self, xE] at hi
        subst hi
        obtain ⟨R, hR⟩ : ∃ R, R = (jc v V).l := ⟨_, rfl⟩
        have hR2 : R = xE (vO v.l) 8 0 V.l := by rw [hR, kG, zej]
        have hvl : v.l.length = 8 := rfl
        have hrl : V.l.length = 8 := rfl
        repeat' (first | refine wC ?_ | refine wK ?_ | fail)
        all_goals try (exfalso; omega)
        refine zb (yh (id := .loc 3) rfl (RowLE.arr (es := v.l.map wy) rfl (xn _)) rfl) ?_
        refine zb (yh (id := .loc 14) rfl (RowLE.arr (es := V.l.map wy) rfl (xn _)) rfl) ?_
        refine zb (za [3, 6, 14, 156] [.loc 3, .loc 6, .loc 14] rfl rfl) ?_
        obtain ⟨vl, hvl'⟩ : ∃ l, l = v.l := ⟨_, rfl⟩
        obtain ⟨rl, hrl'⟩ : ∃ l, l = V.l := ⟨_, rfl⟩
        rw [← hvl', ← hrl'] at hR2
        rw [← hvl'] at hvl
        rw [← hrl'] at hrl
        refine ze (fun p env st => ∃ (t : Nat) (l : List Int), t ≤ 8 ∧ p = 8 - t ∧ l.length = 8 ∧ R = xE (vO vl) (8 - t) t l ∧
            env = EnvL.get [(3, .ref (.loc 3) 0 0 0), (6, .ref (.loc 6) 0 0 0), (14, .ref (.loc 14) 0 0 0), (156, .t (.int .i64 (t : Int)))] ∧
            st = StO.get [(.loc 3, some (.arr 93 1 (vl.map wy))), (.loc 6, some (.var 93 [.t (.int .u32 0), .t (.int .u32 0), .t (.int .u32 0), .t (.int .u32 0), .t (.int .u32 0), .t (.int .u32 0), .t (.int .u32 0), .t (.int .u32 0)])), (.loc 14, some (.arr 93 1 (l.map wy)))])
          ?_ (n := 8) ⟨0, rl, by omega, rfl, hrl, hR2, rfl, by rw [hvl', hrl']; rfl⟩
        clear hR2
        rintro p env st ⟨t, l, ht, rfl, hl, hi, rfl, rfl⟩
        by_cases hlt : t < 8
        · obtain ⟨c, hc⟩ : ∃ c, 8 - t = c + 1 := ⟨8 - t - 1, by omega⟩
          rw [hc] at hi
          simp only [xE, vO] at hi
          repeat' (first | refine wC ?_ | refine wK ?_ | ((with_reducible refine zd ?_); refine zq rfl rfl rfl rfl rfl rfl ?_ ?_ ?_) | ((with_reducible refine xu ?_); refine yO rfl rfl rfl rfl rfl rfl rfl rfl ?_ ?_) | ((with_reducible refine yY ?_); refine yC rfl rfl rfl rfl rfl rfl rfl ?_ ?_) | refine zi rfl ?_ ?_ <;> intro hc)
          all_goals try omega
          all_goals try (rw [Int.toNat_natCast]; omega)
          exact zr (n' := 8 - (t + 1)) (by omega) (za [3, 6, 14, 156] [.loc 3, .loc 6, .loc 14] rfl rfl) ⟨t + 1, _, by omega, rfl, by rw [List.length_set]; exact hl, by rw [hi, show 8 - (t + 1) = c by omega]; rfl, by rw [zj (by omega) (by omega)]; rfl, rfl⟩
        · obtain rfl : t = 8 := by omega
          simp only [Nat.sub_self, xE] at hi
          rw [← hi, hR]
          refine zb (yh (id := .loc 14) rfl (RowLE.unarr (cs := (jc v V).t.map AV.t) rfl (xn _)) rfl) ?_
          generalize jc v V = X
          obtain ⟨a1, a2, a3, a4, a5, a6, a7, a8⟩ := X
          simp only [H8.t, H8.l, List.map_cons, List.map_nil]
          repeat' (first | refine wC ?_ | refine wK ?_ | fail)
          exact wB
instance : Lies Tryz.prog 74 2 74 := ⟨by kernel_rfl⟩
instance : CellsOf Tryz.prog 5 1 := ⟨by kernel_rfl⟩
instance : NoEsc Tryz.prog 96 := .of Tryz.func96 (by kernel_rfl) (by kernel_rfl) (by kernel_rfl) (by kernel_rfl)
theorem ym (s : ByteArray) : (zU s).length = s.size := by simp [zU]
def zhF : StL := [(.par 0, .var 74 [.t .nilp, .t .nilsl])]
def zcs (es : List T) : StL := [(.par 0, .var 74 [.ref (.par 0) 0 0 0, .row (.par 1)]), (.par 1, .slt 5 1 es)]
def ze7 (es : List T) : StL := [(.par 0, .var 74 [.ref (.par 0) 0 0 0, .row (.res 0)]), (.res 0, .slt 5 1 es)]
set_option maxHeartbeats 1000000 in
theorem zg2 : Spec Tryz.prog 75 [.ref (.par 0) 0 0 0] zhF (.tup []) [(.par 0, .var 74 [.ref (.par 0) 0 0 0, .t .nilsl])] := by
  unfold zhF
  refine wI Tryz.func75 ?_
  repeat' (first | refine wC ?_ | refine wK ?_ | ((with_reducible refine zF ?_); refine qX rfl rfl rfl rfl rfl rfl rfl ?_) | ((with_reducible refine zN ?_); first | refine zcZ rfl rfl rfl rfl rfl rfl rfl rfl ?_ | refine za2 rfl rfl rfl rfl rfl rfl rfl ?_) | ((with_reducible refine zg ?_); refine zgt rfl rfl rfl rfl rfl rfl ?_))
  exact zid (jp rfl) (zv ⟨rfl, trivial⟩)
set_option maxHeartbeats 1000000 in
theorem zdA (l : List T) : Spec Tryz.prog 75 [.ref (.par 0) 0 0 0] (zcs l) (.tup []) (zcs l) := by
  unfold zcs
  refine wI Tryz.func75 ?_
  repeat' (first | refine wC ?_ | refine wK ?_ | ((with_reducible refine zF ?_); first | refine qX rfl rfl rfl rfl rfl rfl rfl ?_ | refine zaq rfl rfl rfl rfl rfl rfl ?_))
  exact zid (jp rfl) (zv ⟨rfl, rfl, trivial⟩)
set_option maxHeartbeats 1000000 in
theorem zar (s : ByteArray) (hs : s.size ≤ 100000000) : Spec Tryz.prog 52 [.ref (.par 0) 0 0 0, .t (.str s)] zhF (.tup [.t (.int .i64 s.size), .junk]) (ze7 (zU s)) := by
  have hC := zg2
  unfold zhF at hC ⊢
  unfold ze7
  refine wIG Tryz.func52 ?_
  repeat' (first | refine wC ?_ | refine wK ?_ | ((with_reducible refine zD ?_); refine qI rfl rfl rfl rfl rfl rfl rfl rfl ?_ ?_ ?_) | ((with_reducible refine zg ?_); refine wN (.tup []) [] hC ?_) | fail)
  · simp [ym]; omega
  · simp [ym]; omega
  · refine zx ((za [4, 5] [.par 0, .loc 14] rfl rfl).trans (zk (.loc 14) (.res 0) rfl rfl rfl rfl)) ?_
    exact zQ (zo (kF rfl (AVLE.refl _) (AVLE.junk _)) (zv ⟨rfl, rfl, trivial⟩))
set_option maxHeartbeats 1000000 in
theorem zaN (l : List T) (s : ByteArray) (hs : l.length + s.size ≤ 100000000) : Spec Tryz.prog 52 [.ref (.par 0) 0 0 0, .t (.str s)] (zcs l) (.tup [.t (.int .i64 s.size), .junk]) (ze7 (l ++ zU s)) := by
  have hC := zdA l
  unfold zcs at hC ⊢
  unfold ze7
  refine wIG Tryz.func52 ?_
  repeat' (first | refine wC ?_ | refine wK ?_ | ((with_reducible refine zD ?_); refine za4 rfl rfl rfl rfl rfl rfl rfl rfl rfl ?_ ?_ ?_) | ((with_reducible refine zg ?_); refine wN (.tup []) [] hC ?_) | fail)
  · simp [ym]; omega
  · simp [ym]; omega
  · refine zx ((za [4, 5] [.par 0, .loc 14] rfl rfl).trans (zk (.loc 14) (.res 0) rfl rfl rfl rfl)) ?_
    exact zQ (zo (kF rfl (AVLE.refl _) (AVLE.junk _)) (zv ⟨rfl, rfl, trivial⟩))
set_option maxHeartbeats 1000000 in
theorem zdH (l : List T) (c : Int) (hs : l.length ≤ 100000000) : Spec Tryz.prog 97 [.ref (.par 0) 0 0 0, .t (.int .u8 c)] (zcs l) .junk (ze7 (l ++ [.int .u8 c])) := by
  have hC := zdA l
  unfold zcs at hC ⊢
  unfold ze7
  refine wIG Tryz.func97 ?_
  repeat' (first | refine wC ?_ | refine wK ?_ | ((with_reducible refine zD ?_); refine zn rfl rfl rfl rfl rfl rfl rfl rfl rfl rfl ?_ ?_ ?_) | ((with_reducible refine zg ?_); refine wN (.tup []) [] hC ?_) | fail)
  · simp; omega
  · simp; omega
  · refine zx ((za [4] [.par 0, .loc 14] rfl rfl).trans (zk (.loc 14) (.res 0) rfl rfl rfl rfl)) ?_
    exact zQ (zo (yl rfl (AVLE.junk _)) (zv ⟨rfl, rfl, trivial⟩))
set_option maxHeartbeats 1000000 in
theorem jx (l : List UInt8) (hs : l.length ≤ 100000000) (hne : l ≠ []) : Spec Tryz.prog 55 [.ref (.par 0) 0 0 0] (zcs (l.map u8T)) (.t (.str (ofL l))) [] := by
  unfold zcs
  refine wI Tryz.func55 ?_
  repeat' (first | refine wC ?_ | refine wK ?_ | ((with_reducible refine zcH ?_); refine zb1 rfl rfl rfl rfl rfl rfl ?_ ?_) | ((with_reducible refine jK ?_); refine jf rfl rfl rfl rfl rfl rfl rfl rfl ?_ ?_ ?_ ?_))
  · simpa using hne
  · rfl
  · exact hne
  · omega
  · exact zo (zf rfl rfl rfl) (by simp)
end Go.AL
namespace Go.AL
open Go Go.Proofs Go.RowKit Go.Shelf
theorem j0 {P : Program} (t : TypeId) {d : TypeDesc} [tu : TyU P t d] (w : World) : (isAgg t).run P w = .ok (yz d) w := vb tu
theorem zac {P : Program} (t : TypeId) {s b : Nat} {z : Value} [ti : TyI P t s b z] (w : World) : (Go.sizeOf t).run P w = .ok s w := yy ti
theorem jR {P : Program} (t : TypeId) {s b : Nat} {z : Value} [ti : TyI P t s b z] (w : World) : (zeroValue t).run P w = .ok z w := yp ti
def zhc : Ren := ⟨fun | 99 => 114 | 105 => 98 | 165 => 115 | 166 => 52 | 169 => 55 | 170 => 116 | 206 => 121 | 212 => 113 | 240 => 75 | 241 => 122 | 263 => 119 | 264 => 120 | 276 => 96 | 277 => 123 | x => x, fun | 0 => 0 | 3 => 3 | 4 => 4 | 5 => 5 | 9 => 9 | 20 => 20 | 37 => 55 | 46 => 70 | 51 => 92 | 53 => 110 | 70 => 72 | 72 => 74 | 75 => 76 | 76 => 77 | 80 => 59 | 109 => 126 | 127 => 104 | 146 => 130 | 148 => 132 | 164 => 113 | x => x, fun x => x⟩
set_option maxRecDepth 100000 in
theorem zic : Lays.n105 Tryz.prog zhc where
  mixed := by kernel_rfl
  f99 := by kernel_rfl
  f105 := by kernel_rfl
  f165 := by kernel_rfl
  f166 := by kernel_rfl
  f169 := by kernel_rfl
  f170 := by kernel_rfl
  f206 := by kernel_rfl
  f212 := by kernel_rfl
  f240 := by kernel_rfl
  f241 := by kernel_rfl
  f263 := by kernel_rfl
  f264 := by kernel_rfl
  f276 := by kernel_rfl
  f277 := by kernel_rfl
  t0 := Tryz.underlying0
  a0 := fun w => j0 (P := Tryz.prog) (d := (TypeDesc.tuple #[])) 0 w
  z0 := fun w => zac 0 w
  v0 := fun w => jR 0 w
  t3 := Tryz.underlying3
  a3 := fun w => j0 (P := Tryz.prog) (d := (TypeDesc.int IntKind.i64)) 3 w
  z3 := fun w => zac 3 w
  v3 := fun w => jR 3 w
  t4 := Tryz.underlying4
  a4 := fun w => j0 (P := Tryz.prog) (d := TypeDesc.bool) 4 w
  z4 := fun w => zac 4 w
  v4 := fun w => jR 4 w
  t5 := Tryz.underlying5
  a5 := fun w => j0 (P := Tryz.prog) (d := (TypeDesc.int IntKind.u8)) 5 w
  z5 := fun w => zac 5 w
  v5 := fun w => jR 5 w
  t9 := Tryz.underlying9
  a9 := fun w => j0 (P := Tryz.prog) (d := TypeDesc.string) 9 w
  z9 := fun w => zac 9 w
  v9 := fun w => jR 9 w
  t20 := Tryz.underlying20
  a20 := fun w => j0 (P := Tryz.prog) (d := (TypeDesc.interface #[])) 20 w
  z20 := fun w => zac 20 w
  v20 := fun w => jR 20 w
  t37 := Tryz.underlying55
  a37 := fun w => j0 (P := Tryz.prog) (d := (TypeDesc.slice 5)) 55 w
  z37 := fun w => zac 55 w
  v37 := fun w => jR 55 w
  t46 := Tryz.underlying70
  a46 := fun w => j0 (P := Tryz.prog) (d := (TypeDesc.int IntKind.u64)) 70 w
  z46 := fun w => zac 70 w
  v46 := fun w => jR 70 w
  t51 := Tryz.underlying92
  a51 := fun w => j0 (P := Tryz.prog) (d := (TypeDesc.int IntKind.u32)) 92 w
  z51 := fun w => zac 92 w
  v51 := fun w => jR 92 w
  t53 := Tryz.underlying110
  a53 := fun w => j0 (P := Tryz.prog) (d := (TypeDesc.int IntKind.u64)) 110 w
  z53 := fun w => zac 110 w
  v53 := fun w => jR 110 w
  t70 := Tryz.underlying72
  a70 := fun w => j0 (P := Tryz.prog) (d := (TypeDesc.pointer 74)) 72 w
  z70 := fun w => zac 72 w
  v70 := fun w => jR 72 w
  t72 := Tryz.underlying74
  a72 := fun w => j0 (P := Tryz.prog) (d := (TypeDesc.struct #[{ name := "addr", type := 72, offset := 0, embedded := false, tag := "", pkgPath := "strings", byteOffset := 0 }, { name := "buf", type := 55, offset := 1, embedded := false, tag := "", pkgPath := "strings", byteOffset := 8 }])) 74 w
  z72 := fun w => zac 74 w
  v72 := fun w => jR 74 w
  t75 := Tryz.underlying76
  a75 := fun w => j0 (P := Tryz.prog) (d := (TypeDesc.interface #[("Error", 59)])) 76 w
  z75 := fun w => zac 76 w
  v75 := fun w => jR 76 w
  t76 := Tryz.underlying77
  a76 := fun w => j0 (P := Tryz.prog) (d := (TypeDesc.tuple #[3, 76])) 77 w
  z76 := fun w => zac 77 w
  v76 := fun w => jR 77 w
  t109 := Tryz.underlying126
  a109 := fun w => j0 (P := Tryz.prog) (d := (TypeDesc.tuple #[70, 70])) 126 w
  z109 := fun w => zac 126 w
  v109 := fun w => jR 126 w
  t127 := Tryz.underlying104
  a127 := fun w => j0 (P := Tryz.prog) (d := (TypeDesc.pointer 5)) 104 w
  z127 := fun w => zac 104 w
  v127 := fun w => jR 104 w
  t146 := Tryz.underlying130
  a146 := fun w => j0 (P := Tryz.prog) (d := (TypeDesc.tuple #[92, 92])) 130 w
  z146 := fun w => zac 130 w
  v146 := fun w => jR 130 w
  t148 := Tryz.underlying132
  a148 := fun w => j0 (P := Tryz.prog) (d := (TypeDesc.tuple #[110, 110])) 132 w
  z148 := fun w => zac 132 w
  v148 := fun w => jR 132 w
  t164 := Tryz.underlying113
  a164 := fun w => j0 (P := Tryz.prog) (d := TypeDesc.unsafePointer) 113 w
  z164 := fun w => zac 113 w
  v164 := fun w => jR 113 w
theorem zgE : Builder.Extra Tryz.prog zhc where
  sizeBuilder := by kernel_rfl
  liesBuilder := by kernel_rfl
  t5 := Tryz.underlying5
  a5 := fun w => j0 (P := Tryz.prog) (d := .int .u8) 5 w
  z5 := fun w => zac 5 w
  v5 := fun w => jR 5 w
  infoByte := by kernel_rfl
  cellsByte := by kernel_rfl
  sizeByte := by kernel_rfl
  neB5 := by decide
theorem Spec.of_below {P : Program} {f : FuncId} {args : List AV} {r : AV} (H : ∀ h m (vs : Array Value) w, vs.size = args.length → RepAs h m (fun j => vs[j]?) 0 args → Calls P f vs w fun e w' => ∃ v, e = .returned v ∧ (∀ h' m', RepA h' m' v r) ∧ Below w.heap.size w w') : Spec P f args [] r [] where
  run h m vs w hs hv hr := (H h m vs w hv hr).mono fun e w' ⟨v, he, hv', hb⟩ => by
    refine ⟨v, h, m, he, hv' h m, ⟨fun b o hb' => ?_, fun _ _ hx => by simp [StL.get] at hx, fun _ _ _ hx => by simp [StL.get] at hx, fun _ _ _ _ _ hx => by simp [StL.get] at hx⟩, ?_⟩
    · have h1 := hs.imm b o hb'
      have hlt : b < w.heap.size := by
        rcases Nat.lt_or_ge b w.heap.size with h2 | h2
        · exact h2
        · rw [Array.getElem?_eq_none h2] at h1; cases h1
      rw [hb.block b hlt]; exact h1
    · exact ⟨⟨hb.os, hb.tape, hb.output, hb.size, fun b hb' _ => ⟨hb.block b hb', rfl⟩, fun _ _ hu => hu, fun _ _ _ hx => by simp [StL.get] at hx⟩, fun _ => rfl⟩
theorem kY (s : ByteArray) (c : Nat) (hc : c ≤ 9223372036854775807) (hl : s.size * c ≤ 140737488355328) : Spec Tryz.prog 98 [.t (.str s), .t (.int .i64 (c : Int))] [] (.t (.str ⟨(Lib.repeatL s.data.toList c).toArray⟩)) [] :=
  Spec.of_below fun h m vs w hv hr => by
    simp only [RepAs, RepA, RepT, and_true] at hr
    obtain ⟨⟨u0, h0, rfl⟩, u1, h1, rfl⟩ := hr
    have hv2 : vs.size = 2 := hv
    have e : vs = #[.string s, .int .i64 c] := by
      apply Array.ext
      · simpa using hv2
      · intro i h1' h2'
        have : i = 0 ∨ i = 1 := by omega
        rcases this with rfl | rfl
        · rw [Array.getElem?_eq_getElem h1'] at h0; simpa using h0
        · rw [Array.getElem?_eq_getElem h1'] at h1; simpa using h1
    subst e
    exact (Any.strings_Repeat zic zgE s c w hc hl).mono fun e w' ⟨he, hb⟩ => ⟨_, he, fun h' m' => by simp [RepA, RepT], hb⟩
theorem zag (b : UInt8) : ∀ c : Nat, Lib.repeatL [b] c = List.replicate c b
  | 0 => rfl
  | c + 1 => by rw [Lib.repeatL, zag b c, List.replicate_succ]; rfl
end Go.AL
namespace Go.AL
open Go Go.Proofs Go.RowKit
theorem zil (n c : Nat) : IntKind.u8.wrap ((n : Int) / 2 ^ (8 * c)) = ((UInt8.ofNat (n / 256 ^ c)).toNat : Int) := by
  have e : (2 : Int) ^ (8 * c) = ((256 ^ c : Nat) : Int) := by
    have : (256 : Nat) ^ c = 2 ^ (8 * c) := by rw [Nat.pow_mul]
    rw [this]; simp
  rw [e]
  simp only [IntKind.wrap, IntKind.bits, IntKind.signed, Bool.false_and, Bool.false_eq_true, if_false]
  rw [UInt8.toNat_ofNat']
  omega
theorem qc (l : List UInt8) : vE (l.map u8T) = ofL l := by
  unfold vE strOfNums ofL
  rw [List.map_map, List.map_map]
  have : (((fun n => UInt8.ofNat n.toNat) ∘ T.num) ∘ u8T) = id := by
    funext b
    show UInt8.ofNat ((b.toNat : Int).toNat) = b
    simp
  rw [this, List.map_id]
theorem kr (l : List UInt8) : IsU8 (l.map u8T) := by
  intro e he
  obtain ⟨b, _, rfl⟩ := List.mem_map.1 he
  rfl
theorem xZ (s : ByteArray) : zU s = s.data.toList.map u8T := rfl
set_option maxHeartbeats 4000000 in
theorem zfh (left : ByteArray) (n : Nat) (hl : left.size ≤ 50000000) (hn : n ≤ 100000000) : Spec Tryz.prog 78 [.t (.str left), .t (.int .i64 (n : Int))] [] (.t (.str (ofL (wX left.data.toList n)))) [] := by
  obtain ⟨z, hz⟩ : ∃ z : Nat, z = (119 - left.size % 64) % 64 := ⟨_, rfl⟩
  have hz63 : z ≤ 63 := by omega
  have hz1 : (left.size : Int).tmod 64 = ((left.size % 64 : Nat) : Int) := by rw [Int.tmod_eq_emod_of_nonneg (by omega)]; omega
  have hz2 : (IntKind.i64.wrap (119 - (left.size : Int).tmod 64)).tmod 64 = (z : Int) := by
    rw [hz1, zj (by omega) (by omega), Int.tmod_eq_emod_of_nonneg (by omega), hz]; omega
  have hR := kY ⟨#[0]⟩ z (by omega) (by show 1 * z ≤ _; omega)
  rw [show (⟨#[0]⟩ : ByteArray).data.toList = [0] from rfl, zag] at hR
  rw [← hz2] at hR
  obtain ⟨Z, hZ⟩ : ∃ Z : ByteArray, Z = ⟨(List.replicate z (0 : UInt8)).toArray⟩ := ⟨_, rfl⟩
  have hZs : Z.size = z := by rw [hZ]; simp [ByteArray.size]
  have hZl : Z.data.toList = List.replicate z 0 := by rw [hZ]
  rw [← hZ] at hR
  have h1 := zar left (by omega)
  have h2 := zdH (zU left) 128 (by rw [ym]; omega)
  have h3 := zaN (zU left ++ [.int .u8 128]) Z (by rw [List.length_append, ym]; simp; omega)
  have h4 := fun es c h => zdH es c h
  have h5 := fun l h h' => jx l h h'
  unfold zhF ze7 at h1
  unfold zcs ze7 at h2 h3 h4
  unfold zcs at h5
  refine wI Tryz.func78 ?_
  repeat' (first | refine wC ?_ | refine wK ?_ | ((with_reducible refine zg ?_); first | refine wN (.tup [_, _]) [(.par 0, .loc 6), (.res 0, .loc 901)] h1 ?_ | refine wN .junk [(.par 0, .loc 6), (.par 1, .loc 901), (.res 0, .loc 902)] h2 ?_ | refine wL hR ?_ | refine wN (.tup [_, _]) [(.par 0, .loc 6), (.par 1, .loc 902), (.res 0, .loc 903)] h3 ?_) | fail)
  rw [yT (n := (n : Int)) (by omega) (by omega), yT (n := (n : Int) * 8) (by omega) (by omega), show (n : Int) * 8 = ((8 * n : Nat) : Int) by omega]
  refine zb (za [6, 7, 8] [.loc 6, .loc 903] rfl rfl) ?_
  refine ze (fun p env st => ∃ (c : Nat) (es : List T), c ≤ 8 ∧ p = c ∧ es.length ≤ 90000000 - c ∧ es ++ (zdC c (8 * n)).map u8T = (wX left.data.toList n).map u8T ∧
      env = EnvL.get [(6, .ref (.loc 6) 0 0 0), (7, .t (.int .u64 ((8 * n : Nat) : Int))), (8, .t (.int .i64 ((c : Int) - 1)))] ∧
      st = StO.get [(.loc 6, some (.var 74 [.ref (.loc 6) 0 0 0, .row (.loc 903)])), (.loc 903, some (.slt 5 1 es))])
    ?_ (n := 8) ⟨8, zU left ++ [.int .u8 128] ++ zU Z, by omega, rfl, ?_, ?_, rfl, rfl⟩
  rotate_left
  · simp only [List.length_append, ym, List.length_cons, List.length_nil]; omega
  · rw [xZ, xZ, hZl]
    unfold wX
    rw [show (119 - left.data.toList.length % 64) % 64 = z by rw [hz]; rfl]
    simp only [List.map_append, List.map_cons, List.append_assoc]
    rfl
  clear h1 h2 h3 hR
  rintro p env st ⟨c, es, hc8, rfl, hlen, hi, rfl, rfl⟩
  have h4 := fun x => h4 es x (by omega)
  by_cases hp : p = 0
  · subst hp
    simp only [zdC, List.map_nil, List.append_nil] at hi
    subst hi
    have h5 := h5 (wX left.data.toList n) (by rw [jq]; simp; omega) (by unfold wX; simp)
    repeat' (first | refine wC ?_ | refine wK ?_ | ((with_reducible refine zg ?_); refine wN (.t (.str _)) [(.par 0, .loc 6), (.par 1, .loc 903)] h5 ?_) | fail)
    exact zo (zf rfl rfl rfl) (by simp)
  · obtain ⟨c, rfl⟩ : ∃ c, p = c + 1 := ⟨p - 1, by omega⟩
    have e : (min (IntKind.i64.wrap (8 * (((c + 1 : Nat) : Int) - 1))).toNat IntKind.u64.bits) = 8 * c := by
      rw [zj (by omega) (by omega)]
      have : IntKind.u64.bits = 64 := rfl
      omega
    repeat' (first | refine wC ?_ | refine wK ?_ | ((with_reducible refine zF ?_); refine qY rfl rfl rfl rfl rfl rfl ?_ ?_) | ((with_reducible refine zg ?_); refine wN .junk [(.par 0, .loc 6), (.par 1, .loc 903), (.res 0, .loc 904)] (h4 _) ?_) | refine zi rfl ?_ ?_ <;> intro hc)
    · rw [zj (by omega) (by omega)]; omega
    · rw [e, zil]
      refine zr (n' := c) (by omega) ((za [6, 7, 8] [.loc 6, .loc 904] rfl rfl).trans (zk (.loc 904) (.loc 903) rfl rfl rfl rfl)) ⟨c, es ++ [.int .u8 ((UInt8.ofNat (8 * n / 256 ^ c)).toNat : Int)], by omega, rfl, by rw [List.length_append]; simp; omega, ?_, ?_, rfl⟩
      · rw [← hi, List.append_assoc]; rfl
      · rw [zj (by omega) (by omega), show ((c + 1 : Nat) : Int) - 1 - 1 = (c : Int) - 1 by omega]; rfl
    · exfalso; omega
set_option maxHeartbeats 4000000 in
theorem zfc (s : ByteArray) (hl : s.size ≤ 50000000) : Spec Tryz.prog 73 [.t (.str s)] [] (.t (.str (ofL (zdX s.data.toList)))) [] := by
  unfold zdX
  obtain ⟨n, hn⟩ : ∃ n, n = s.size := ⟨_, rfl⟩
  have hn2 : s.data.toList.length = n := by rw [hn]; rfl
  obtain ⟨z, hz⟩ : ∃ z : Nat, z = (119 - n % 64) % 64 := ⟨_, rfl⟩
  refine wI Tryz.func73 ?_
  repeat' (first | refine wC ?_ | refine wK ?_ | ((with_reducible refine zN ?_); refine zee rfl rfl rfl rfl rfl rfl ?_ ?_) | ((with_reducible refine zD ?_); refine zn rfl rfl rfl rfl rfl rfl rfl rfl rfl rfl ?_ ?_ ?_))
  · omega
  · rw [ym]; simp; omega
  · rw [ym]; simp; omega
  refine zb (za [0, 3] [.loc 8] rfl rfl) ?_
  refine ze (fun p env st => ∃ (j : Nat) (es : List T), j ≤ z ∧ p = z - j ∧ es = zU s ++ ([.int .u8 128] ++ (List.replicate j (0 : UInt8)).map u8T) ∧
      env = EnvL.get [(0, .t (.str s)), (3, .row (.loc 8))] ∧ st = StO.get [(.loc 8, some (.slt 5 1 es))])
    ?_ (n := z) ⟨0, _, by omega, rfl, rfl, rfl, by simp; rfl⟩
  rintro p env st ⟨j, es, hj, rfl, hes, rfl, rfl⟩
  have hel : es.length = n + 1 + j := by rw [hes]; simp [ym]; omega
  have hm : ((es.length : Int)).tmod 64 = ((n + 1 + j) % 64 : Nat) := by rw [hel, Int.tmod_eq_emod_of_nonneg (by omega)]; omega
  by_cases hjz : j = z
  · subst hjz
    have h56 : (n + 1 + j) % 64 = 56 := by omega
    repeat' (first | refine wC ?_ | refine wK ?_ | ((with_reducible refine zD ?_); refine zn rfl rfl rfl rfl rfl rfl rfl rfl rfl rfl ?_ ?_ ?_) | refine zR rfl ?_ ?_ <;> intro hc)
    all_goals try (exfalso; omega)
    refine zb (za [0, 3, 4] [.loc 8] rfl rfl) ?_
    refine ze (fun p env st => ∃ (c : Nat) (es : List T), c ≤ 8 ∧ p = c ∧ es.length ≤ 90000000 - c ∧ es ++ (zdC c (8 * n)).map u8T = (wX s.data.toList n).map u8T ∧
        env = EnvL.get [(0, .t (.str s)), (3, .row (.loc 8)), (4, .t (.int .i64 (8 * (c : Int) - 8)))] ∧ st = StO.get [(.loc 8, some (.slt 5 1 es))])
      ?_ (n := 8) ⟨8, es, by omega, rfl, by omega, ?_, rfl, rfl⟩
    rotate_left
    · rw [hes, xZ]
      unfold wX
      rw [hn2, ← hz]
      simp only [List.map_append, List.map_cons, List.append_assoc]
      rfl
    clear hes hel hm
    rintro p env st ⟨c, es, hc8, rfl, hlen, hi, rfl, rfl⟩
    by_cases hp : p = 0
    · subst hp
      simp only [zdC, List.map_nil, List.append_nil] at hi
      subst hi
      repeat' (first | refine wC ?_ | refine wK ?_ | ((with_reducible refine zN ?_); refine zw rfl rfl rfl rfl rfl rfl ?_ ?_))
      · exact kr _
      · exact zo (zf rfl rfl (congrArg T.str (by rw [qc, hn2]))) (by simp)
    · obtain ⟨c, rfl⟩ : ∃ c, p = c + 1 := ⟨p - 1, by omega⟩
      have e0 : IntKind.u64.wrap (8 * ((c + 1 : Nat) : Int) - 8) = ((8 * c : Nat) : Int) := by rw [yT (by omega) (by omega)]; omega
      have e1 : min ((8 * c : Nat) : Int).toNat IntKind.u64.bits = 8 * c := by
        have : IntKind.u64.bits = 64 := rfl
        omega
      have e2 : IntKind.u64.wrap (IntKind.u64.wrap (s.size : Int) * 8) = ((8 * n : Nat) : Int) := by rw [yT (n := (s.size : Int)) (by omega) (by omega), yT (by omega) (by omega)]; omega
      repeat' (first | refine wC ?_ | refine wK ?_ | ((with_reducible refine zF ?_); refine qY rfl rfl rfl rfl rfl rfl ?_ ?_) | ((with_reducible refine zN ?_); refine zw rfl rfl rfl rfl rfl rfl ?_ ?_) | ((with_reducible refine zD ?_); refine zn rfl rfl rfl rfl rfl rfl rfl rfl rfl rfl ?_ ?_ ?_) | refine zi rfl ?_ ?_ <;> intro hc)
      · rw [e0]; omega
      · simp; omega
      · simp; omega
      · rw [e0, e1, e2, zil]
        refine zr (n' := c) (by omega) ((za [0, 3, 4] [.loc 30] rfl rfl).trans (zk (.loc 30) (.loc 8) rfl rfl rfl rfl)) ⟨c, es ++ [.int .u8 ((UInt8.ofNat (8 * n / 256 ^ c)).toNat : Int)], by omega, rfl, by rw [List.length_append]; simp; omega, ?_, ?_, rfl⟩
        · rw [← hi, List.append_assoc]; rfl
        · rw [zj (by omega) (by omega), show 8 * ((c + 1 : Nat) : Int) - 8 - 8 = 8 * (c : Int) - 8 by omega]; rfl
      all_goals (exfalso; omega)
  · repeat' (first | refine wC ?_ | refine wK ?_ | ((with_reducible refine zD ?_); refine zn rfl rfl rfl rfl rfl rfl rfl rfl rfl rfl ?_ ?_ ?_) | refine zR rfl ?_ ?_ <;> intro hc)
    · exfalso; rw [hm] at hc; omega
    · simp; omega
    · simp; omega
    · refine zr (n' := z - (j + 1)) (by omega) ((za [0, 3] [.loc 15] rfl rfl).trans (zk (.loc 15) (.loc 8) rfl rfl rfl rfl)) ⟨j + 1, es ++ [.int .u8 0], by omega, rfl, ?_, rfl, rfl⟩
      rw [hes, List.replicate_succ', List.map_append, List.append_assoc, List.append_assoc]; rfl
set_option maxHeartbeats 1000000 in
theorem zd4 : Spec Tryz.prog 76 [] [] (.t (.agg zeJ.t)) [] := by
  refine wI Tryz.func76 ?_
  repeat' (first | refine wC ?_ | refine wK ?_ | ((with_reducible refine vc ?_); refine yU (r := (.t (.agg _))) rfl rfl rfl rfl rfl rfl rfl ?_))
  exact wD
set_option maxHeartbeats 1000000 in
theorem zea : Spec Tryz.prog 71 [] [] (.t (.agg zeJ.t)) [] := by
  refine wI Tryz.func71 ?_
  repeat' (first | refine wC ?_ | refine wK ?_ | ((with_reducible refine vc ?_); refine yU (r := (.t (.agg _))) rfl rfl rfl rfl rfl rfl rfl ?_))
  exact wD
set_option maxHeartbeats 4000000 in
set_option maxRecDepth 10000 in
theorem zcS : Spec Tryz.prog 72 [] [] (.t (.agg (zdZ.map wy))) [] := by
  refine wI Tryz.func72 ?_
  repeat' (first | refine wC ?_ | refine wK ?_ | ((with_reducible refine vc ?_); refine yU (r := (.t (.agg _))) rfl rfl rfl rfl rfl rfl rfl ?_))
  exact wD
set_option maxHeartbeats 4000000 in
set_option maxRecDepth 10000 in
theorem zeq : Spec Tryz.prog 77 [] [] (.ref (.res 0) 0 0 0) [(.res 0, .arr 95 1 (zdZ.map wy))] := by
  refine wIG Tryz.func77 ?_
  repeat' (first | refine wC ?_ | refine wK ?_ | ((with_reducible refine vc ?_); refine yU (r := (.t (.agg _))) rfl rfl rfl rfl rfl rfl rfl ?_))
  refine zx (yh (id := .loc 2) rfl (RowLE.arr (es := zdZ.map wy) rfl (xn _)) rfl) ?_
  refine zx ((za [0] [.loc 2] rfl rfl).trans (zk (.loc 2) (.res 0) rfl rfl rfl rfl)) ?_
  exact zQ (zo (yl rfl (AVLE.refl _)) (zv ⟨rfl, trivial⟩))
def b0 (x : Int) : Int := IntKind.u8.wrap (x / 2 ^ 24)
def b1 (x : Int) : Int := IntKind.u8.wrap (x / 2 ^ 16)
def b2 (x : Int) : Int := IntKind.u8.wrap (x / 2 ^ 8)
def b3 (x : Int) : Int := IntKind.u8.wrap x
theorem xC {x : Int} (h0 : 0 ≤ x) (h1 : x < 4294967296) : [b0 x, b1 x, b2 x, b3 x].map (T.int .u8) = (w4 x).map u8T := by
  obtain ⟨n, rfl⟩ : ∃ n : Nat, x = n := ⟨x.toNat, by omega⟩
  have e0 := zil n 3
  have e1 := zil n 2
  have e2 := zil n 1
  have e3 := zil n 0
  simp only [Nat.mul_zero, Int.pow_zero, Int.ediv_one] at e3
  unfold w4 b0 b1 b2 b3
  rw [Int.toNat_natCast]
  simp only [zdC, List.map_cons, List.map_nil, u8T]
  rw [← e0, ← e1, ← e2, ← e3]
def zii (f0 f1 f2 f3 : Int → Int) (v : List Int) (i : Nat) (l : List Int) : List Int := (((l.set (4 * i) (f0 (v.getD i 0))).set (4 * i + 1) (f1 (v.getD i 0))).set (4 * i + 2) (f2 (v.getD i 0))).set (4 * i + 3) (f3 (v.getD i 0))
theorem zgC (f0 f1 f2 f3 : Int → Int) (v : H8) : xE (zii f0 f1 f2 f3 v.l) 8 0 (List.replicate 32 0) = [f0 v.a, f1 v.a, f2 v.a, f3 v.a] ++ [f0 v.b, f1 v.b, f2 v.b, f3 v.b] ++ [f0 v.c, f1 v.c, f2 v.c, f3 v.c] ++ [f0 v.d, f1 v.d, f2 v.d, f3 v.d] ++ [f0 v.e, f1 v.e, f2 v.e, f3 v.e] ++ [f0 v.f, f1 v.f, f2 v.f, f3 v.f] ++ [f0 v.g, f1 v.g, f2 v.g, f3 v.g] ++ [f0 v.h, f1 v.h, f2 v.h, f3 v.h] := by kernel_rfl
theorem zh5 (v : H8) (hv : v.In) : (xE (zii b0 b1 b2 b3 v.l) 8 0 (List.replicate 32 0)).map (T.int .u8) = v.out.map u8T := by
  rw [zgC]
  obtain ⟨h1, h2, h3, h4, h5, h6, h7, h8⟩ := hv
  unfold H8.out
  simp only [List.map_append, xC h1.1 h1.2, xC h2.1 h2.2, xC h3.1 h3.2, xC h4.1 h4.2, xC h5.1 h5.2, xC h6.1 h6.2, xC h7.1 h7.2, xC h8.1 h8.2]
theorem wP (b : ByteArray) (i j : Nat) : (b.extract i j).data.toList = (b.data.toList.drop i).take (j - i) := by
  simp [ByteArray.data_extract]
theorem zhL (l : List Int) : ∀ x ∈ l.map (T.int .u8), x.isAgg = false := fun x hx => by
  obtain ⟨n, _, rfl⟩ := List.mem_map.1 hx; rfl
theorem zd0 (l : List UInt8) : ∀ x ∈ l.map u8T, x.isAgg = false := fun x hx => by
  obtain ⟨n, _, rfl⟩ := List.mem_map.1 hx; rfl
set_option maxHeartbeats 8000000 in
theorem vq (s : ByteArray) (hs : s.size ≤ 40000000) : Spec Tryz.prog 54 [.t (.str s)] [] (.t (.str (sha s))) [] := by
  obtain ⟨w, hw⟩ : ∃ w : Nat, w = s.size / 64 * 64 := ⟨_, rfl⟩
  have hsp := zeM s.data.toList w hw
  rw [zZ] at hsp
  have e1 : IntKind.i64.wrap (IntKind.i64.wrap ((s.size : Int).tdiv 64) * 64) = (w : Int) := by
    rw [Int.tdiv_eq_ediv_of_nonneg (by omega), zj (n := (s.size : Int) / 64) (by omega) (by omega), zj (by omega) (by omega), hw]; omega
  have hR := zfh (s.extract (w : Int).toNat (s.size : Int).toNat) s.size (by rw [ByteArray.size_extract]; omega) (by omega)
  rw [← e1] at hR
  refine wI Tryz.func54 ?_
  repeat' (first | refine wC ?_ | refine wK ?_ | ((with_reducible refine yF ?_); first | refine zy rfl rfl rfl ⟨_, rfl⟩ rfl rfl rfl ?_ ?_ ?_ ?_ | refine zy rfl rfl ⟨_, rfl⟩ rfl rfl rfl rfl ?_ ?_ ?_ ?_) | ((with_reducible refine zg ?_); first | refine wL zd4 ?_ | refine wN (.ref (.loc 907) 0 0 0) [(.res 0, .loc 907)] zeq ?_ | refine wL hR ?_) | fail)
  all_goals try simp only [e1]
  all_goals try omega
  obtain ⟨A, hA⟩ : ∃ A, A = s.extract (Int.toNat 0) (w : Int).toNat := ⟨_, rfl⟩
  obtain ⟨B, hB⟩ : ∃ B, B = ofL (wX (s.extract (w : Int).toNat (s.size : Int).toNat).data.toList s.size) := ⟨_, rfl⟩
  have hAl : A.data.toList = s.data.toList.take w := by rw [hA, wP]; simp
  have hBx : (s.extract (w : Int).toNat (s.size : Int).toNat).data.toList = s.data.toList.drop w := by
    rw [wP, List.take_of_length_le (by rw [List.length_drop]; have := zZ s; omega)]; simp
  have hBl : B.data.toList = wX (s.data.toList.drop w) s.size := by rw [hB, vA, hBx]
  rw [← hA, ← hB]
  have hAs : A.size = w := by rw [← zZ, hAl, List.length_take]; have := zZ s; omega
  have hBs : B.size = (wX (s.data.toList.drop w) s.size).length := by rw [← zZ, hBl]
  have hBm : B.size % 64 = 0 ∧ B.size ≤ 200 := by
    rw [hBs, jq, List.length_drop, zZ]; omega
  refine zb (za [3, 4, 26, 27, 28] [.loc 3, .loc 26, .loc 907] rfl rfl) ?_
  refine zb (zh (id := .loc 26) rfl rfl rfl) ?_
  obtain ⟨Hs, hH0, hH1, hH2, hsha⟩ : ∃ Hs : Nat → H8, Hs 0 = zeJ ∧ Hs 1 = xQ (A.size / 64) (Hs 0) A.data.toList ∧ Hs 2 = xQ (B.size / 64) (Hs 1) B.data.toList ∧ zh9 s.data.toList = (Hs 2).out := by
    refine ⟨fun i => match i with | 0 => zeJ | 1 => xQ (A.size / 64) zeJ A.data.toList | _ => xQ (B.size / 64) (xQ (A.size / 64) zeJ A.data.toList) B.data.toList, rfl, rfl, rfl, ?_⟩
    rw [hsp, hBs, hAs, hAl, hBl]; rfl
  have hIn : (Hs 2).In := by rw [hH2, hH1, hH0]; exact kw _ _ _ (kw _ _ _ zfU)
  obtain ⟨L, hL⟩ : ∃ L, L = [A, B] := ⟨_, rfl⟩
  have hLs : ∀ j, j < 2 → (L.getD j default).size % 64 = 0 ∧ (L.getD j default).size ≤ 40000000 ∧ Hs (j + 1) = xQ ((L.getD j default).size / 64) (Hs j) (L.getD j default).data.toList := by
    intro j hj
    have : j = 0 ∨ j = 1 := by omega
    rcases this with rfl | rfl
    · rw [hL]; exact ⟨by show A.size % 64 = 0; omega, by show A.size ≤ _; omega, hH1⟩
    · rw [hL]; exact ⟨hBm.1, by show B.size ≤ _; omega, hH2⟩
  refine zb (zgF 26 (y := .sl 1 (L.map .str)) rfl (by rw [hL]; exact .refl _) rfl) ?_
  have hLl : L.length = 2 := by rw [hL]; rfl
  refine zb (za [3, 4, 26, 27, 28] [.loc 3, .loc 907] rfl rfl) ?_
  refine ze (fun p env st => ∃ (j : Nat), j ≤ 2 ∧ p = 2 - j ∧
      env = EnvL.get [(3, .ref (.loc 3) 0 0 0), (4, .ref (.loc 907) 0 0 0), (26, .t (.sl 1 (L.map .str))), (27, .t (.int .i64 2)), (28, .t (.int .i64 (j : Int)))] ∧
      st = StO.get [(.loc 3, some (.var 98 ((Hs j).t.map AV.t))), (.loc 907, some (.arr 95 1 (zdZ.map wy)))])
    ?_ (n := 2) ⟨0, by omega, rfl, rfl, by rw [hH0]; rfl⟩
  clear hH0 hH1 hH2 hR hsp hL
  rintro p env st ⟨j, hj, rfl, rfl, rfl⟩
  by_cases hlt : j < 2
  · obtain ⟨m1, m2, m3⟩ := hLs j hlt
    have hg : L.getD (j : Int).toNat default = L.getD j default := rfl
    repeat' (first | refine wC ?_ | refine wK ?_ | ((with_reducible refine zd ?_); refine zc rfl rfl rfl rfl rfl rfl ?_ ?_ ?_) | refine zi rfl ?_ ?_ <;> intro hc)
    all_goals try (exfalso; omega)
    · omega
    · omega
    refine zb (za [3, 4, 7, 26, 27, 28] [.loc 3, .loc 907] rfl rfl) ?_
    rw [hg]
    generalize L.getD j default = X at m1 m2 m3 ⊢
    refine ze (fun p env st => ∃ (k : Nat) (x : ByteArray) (h : H8), p = k ∧ x.size = 64 * k ∧ x.size ≤ 40000000 ∧ Hs (j + 1) = xQ k h x.data.toList ∧
        env = EnvL.get [(3, .ref (.loc 3) 0 0 0), (4, .ref (.loc 907) 0 0 0), (7, .t (.str x)), (26, .t (.sl 1 (L.map .str))), (27, .t (.int .i64 2)), (28, .t (.int .i64 (j : Int)))] ∧
        st = StO.get [(.loc 3, some (.var 98 (h.t.map AV.t))), (.loc 907, some (.arr 95 1 (zdZ.map wy)))])
      ?_ (n := X.size / 64) ⟨X.size / 64, X, Hs j, rfl, by omega, m2, m3, rfl, rfl⟩
    rintro k env st ⟨k', x, h, rfl, hx, hx2, hh, rfl, rfl⟩
    by_cases hk : k = 0
    · subst hk
      have hxe : x = ⟨#[]⟩ := by
        have : x.data.toList = [] := List.eq_nil_of_length_eq_zero (by rw [zZ]; omega)
        have h2 := wW x
        rw [this] at h2
        exact h2.symm
      repeat' (first | refine wC ?_ | refine wK ?_ | ((with_reducible refine zg ?_); exact absurd hxe ‹_›) | refine zR rfl ?_ ?_ <;> intro hc)
      exact zr (n' := 2 - (j + 1)) (by omega) (za [3, 4, 26, 27, 28] [.loc 3, .loc 907] rfl rfl) ⟨j + 1, by omega, rfl, by rw [zj (by omega) (by omega)]; rfl, by rw [hh]; rfl⟩
    · obtain ⟨k, rfl⟩ : ∃ c, k = c + 1 := ⟨k - 1, by omega⟩
      have hxe : ¬ x = ⟨#[]⟩ := fun e => by rw [e] at hx; simp [ByteArray.size] at hx
      have hAdd := zgY h x (by omega) (by omega)
      repeat' (first | refine wC ?_ | refine wK ?_ | ((with_reducible refine yF ?_); refine zy rfl rfl ⟨_, rfl⟩ rfl rfl rfl rfl ?_ ?_ ?_ ?_) | ((with_reducible refine zg ?_); refine wN (.tup []) [(.par 0, .loc 3), (.par 1, .loc 907)] hAdd ?_) | refine zR rfl ?_ ?_ <;> intro hc)
      · exact absurd hc hxe
      · omega
      · omega
      · omega
      · refine zr (n' := k) (by omega) (za [3, 4, 7, 26, 27, 28] [.loc 3, .loc 907] rfl rfl) ⟨k, x.extract (Int.toNat 64) (x.size : Int).toNat, ze8 h x.data.toList, rfl, by rw [ByteArray.size_extract]; omega, by rw [ByteArray.size_extract]; omega, ?_, rfl, rfl⟩
        rw [hh, wP, List.take_of_length_le (by rw [List.length_drop]; have := zZ x; omega)]
        rfl
  · obtain rfl : j = 2 := by omega
    repeat' (first | refine wC ?_ | refine wK ?_ | fail)
    all_goals try (exfalso; omega)
    rw [show sha s = ofL (Hs 2).out by unfold sha; rw [hsha]]
    generalize Hs 2 = V at hIn ⊢
    obtain ⟨R, hR⟩ : ∃ R, R = xE (zii b0 b1 b2 b3 V.l) 8 0 (List.replicate 32 0) := ⟨_, rfl⟩
    have hE : R.map (T.int .u8) = V.out.map u8T := by rw [hR]; exact zh5 V hIn
    refine zb (yh (id := .loc 8) rfl (RowLE.arr (es := (List.replicate 32 (0 : Int)).map (T.int .u8)) rfl (zhL _)) rfl) ?_
    refine zb (za [8, 40, 41] [.loc 8] rfl rfl) ?_
    have hvl : V.l.length = 8 := rfl
    obtain ⟨vl, hvl'⟩ : ∃ l, l = V.l := ⟨_, rfl⟩
    rw [← hvl'] at hR hvl
    refine ze (fun p env st => ∃ (t : Nat) (l : List Int), t ≤ 8 ∧ p = 8 - t ∧ l.length = 32 ∧ R = xE (zii b0 b1 b2 b3 vl) (8 - t) t l ∧
        env = EnvL.get [(8, .ref (.loc 8) 0 0 0), (40, .t (.agg (vl.map wy))), (41, .t (.int .i64 (t : Int)))] ∧
        st = StO.get [(.loc 8, some (.arr 103 1 (l.map (T.int .u8))))])
      ?_ (n := 8) ⟨0, _, by omega, rfl, by simp, hR, by rw [hvl']; rfl, rfl⟩
    clear hR
    rintro p env st ⟨t, l, ht, rfl, hl, hi, rfl, rfl⟩
    by_cases hlt : t < 8
    · obtain ⟨c, hc⟩ : ∃ c, 8 - t = c + 1 := ⟨8 - t - 1, by omega⟩
      rw [hc] at hi
      simp only [xE] at hi
      have w0 : IntKind.i64.wrap (4 * (t : Int)) = ((4 * t : Nat) : Int) := by rw [zj (by omega) (by omega)]; omega
      have w1 : IntKind.i64.wrap (((4 * t : Nat) : Int) + 1) = ((4 * t + 1 : Nat) : Int) := by rw [zj (by omega) (by omega)]; omega
      have w2 : IntKind.i64.wrap (((4 * t : Nat) : Int) + 2) = ((4 * t + 2 : Nat) : Int) := by rw [zj (by omega) (by omega)]; omega
      have w3 : IntKind.i64.wrap (((4 * t : Nat) : Int) + 3) = ((4 * t + 3 : Nat) : Int) := by rw [zj (by omega) (by omega)]; omega
      repeat' (first | refine wC ?_ | refine wK ?_ | ((with_reducible refine zd ?_); refine zq rfl rfl rfl rfl rfl rfl ?_ ?_ ?_) | ((with_reducible refine yY ?_); refine yC rfl rfl rfl rfl rfl rfl rfl ?_ ?_) | ((with_reducible refine yx ?_); refine wJ rfl rfl rfl rfl rfl rfl rfl ?_ ?_ ?_ ?_) | refine zi rfl ?_ ?_ <;> intro hc)
      all_goals try simp only [w0, w1, w2, w3, List.length_set, Int.toNat_natCast]
      all_goals try omega
      exact zr (n' := 8 - (t + 1)) (by omega) (za [8, 40, 41] [.loc 8] rfl rfl) ⟨t + 1, zii b0 b1 b2 b3 vl t l, by omega, rfl, by unfold zii; simp only [List.length_set]; exact hl, by rw [hi, show 8 - (t + 1) = c by omega], by rw [zj (by omega) (by omega)]; rfl, rfl⟩
    · obtain rfl : t = 8 := by omega
      simp only [Nat.sub_self, xE] at hi
      rw [← hi, hE]
      have hol : (V.out.map u8T).length = 32 := by rw [List.length_map, zgd]
      refine zb (yh (id := .loc 8) rfl (RowLE.unarr (cs := (V.out.map u8T).map AV.t) rfl (zd0 _)) rfl) ?_
      refine zb (zgj 8 (.loc 8) (V.out.map u8T) rfl rfl rfl rfl rfl) ?_
      repeat' (first | refine wC ?_ | refine wK ?_ | ((with_reducible refine zN ?_); refine zaX rfl rfl rfl rfl rfl ?_ ?_) | ((with_reducible refine yF ?_); refine zbD rfl rfl rfl rfl rfl rfl ?_ ?_ ?_))
      all_goals try (exfalso; omega)
      · exact hol
      · exact zd0 _
      · exact kr _
      · exact zo (zf rfl rfl (congrArg T.str (qc _))) (by simp)
def zhY (f0 f1 f2 f3 : Int → Int) (v : List Int) (i : Nat) (l : List Int) : List Int := l ++ [f0 (v.getD i 0), f1 (v.getD i 0), f2 (v.getD i 0), f3 (v.getD i 0)]
theorem zgX (f0 f1 f2 f3 : Int → Int) (v : H8) : xE (zhY f0 f1 f2 f3 v.l) 8 0 [] = [f0 v.a, f1 v.a, f2 v.a, f3 v.a] ++ [f0 v.b, f1 v.b, f2 v.b, f3 v.b] ++ [f0 v.c, f1 v.c, f2 v.c, f3 v.c] ++ [f0 v.d, f1 v.d, f2 v.d, f3 v.d] ++ [f0 v.e, f1 v.e, f2 v.e, f3 v.e] ++ [f0 v.f, f1 v.f, f2 v.f, f3 v.f] ++ [f0 v.g, f1 v.g, f2 v.g, f3 v.g] ++ [f0 v.h, f1 v.h, f2 v.h, f3 v.h] := by kernel_rfl
theorem zhQ (v : H8) (hv : v.In) : (xE (zhY b0 b1 b2 b3 v.l) 8 0 []).map (T.int .u8) = v.out.map u8T := by
  rw [zgX]
  obtain ⟨h1, h2, h3, h4, h5, h6, h7, h8⟩ := hv
  unfold H8.out
  simp only [List.map_append, xC h1.1 h1.2, xC h2.1 h2.2, xC h3.1 h3.2, xC h4.1 h4.2, xC h5.1 h5.2, xC h6.1 h6.2, xC h7.1 h7.2, xC h8.1 h8.2]
set_option maxHeartbeats 8000000 in
theorem xv (s : ByteArray) (hs : s.size ≤ 40000000) : Spec Tryz.prog 51 [.t (.str s)] [] (.t (.str (sha s))) [] := by
  have hP := zfc s (by omega)
  have hpl := zg3 s.data.toList
  obtain ⟨p, hp⟩ : ∃ p, p = ofL (zdX s.data.toList) := ⟨_, rfl⟩
  have hpp : p.data.toList = zdX s.data.toList := by rw [hp, vA]
  have hps : p.size = (zdX s.data.toList).length := by rw [← zZ, hpp]
  rw [zZ] at hpl
  have hsl : zh9 s.data.toList = (xQ (p.size / 64) zeJ p.data.toList).out := by unfold zh9; rw [hps, hpp]
  rw [← hp] at hP
  refine wI Tryz.func51 ?_
  repeat' (first | refine wC ?_ | refine wK ?_ | ((with_reducible refine zg ?_); first | refine wL zea ?_ | refine wL zcS ?_ | refine wL hP ?_) | fail)
  refine zb (yh (id := .loc 4) rfl (RowLE.arr (es := zdZ.map wy) rfl (xn _)) rfl) ?_
  refine zb (za [3, 4, 5, 6] [.loc 3, .loc 4] rfl rfl) ?_
  obtain ⟨N, hN⟩ : ∃ N, N = p.size / 64 := ⟨_, rfl⟩
  rw [← hN] at hsl
  have hp64 : p.size = 64 * N := by rw [hN, hps]; have := hpl.1; omega
  have hpm : p.size ≤ 50000000 := by rw [hps]; omega
  obtain ⟨F, hF⟩ : ∃ F, F = xQ N zeJ p.data.toList := ⟨_, rfl⟩
  have hFi : F.In := by rw [hF]; exact kw _ _ _ zfU
  rw [← hF] at hsl
  rw [show sha s = ofL F.out by unfold sha; rw [hsl]]
  clear hsl hP hp hpp hps hpl hN
  refine ze (fun m env st => ∃ (k : Nat) (h : H8), k ≤ N ∧ m = N - k ∧ F = xQ (N - k) h (p.data.toList.drop (64 * k)) ∧
      env = EnvL.get [(3, .ref (.loc 3) 0 0 0), (4, .ref (.loc 4) 0 0 0), (5, .t (.str p)), (6, .t (.int .i64 ((64 * k : Nat) : Int)))] ∧
      st = StO.get [(.loc 3, some (.var 93 (h.t.map AV.t))), (.loc 4, some (.arr 95 1 (zdZ.map wy)))])
    ?_ (n := N) ⟨0, zeJ, by omega, rfl, by rw [hF]; rfl, rfl, rfl⟩
  clear hF
  rintro m env st ⟨k, h, hk, rfl, hf, rfl, rfl⟩
  by_cases hlt : k < N
  · have hw1 : IntKind.i64.wrap (((64 * k : Nat) : Int) + 64) = ((64 * k + 64 : Nat) : Int) := by rw [zj (by omega) (by omega)]; omega
    have hB := zep h (p.extract (((64 * k : Nat) : Int)).toNat (IntKind.i64.wrap (((64 * k : Nat) : Int) + 64)).toNat) (by rw [ByteArray.size_extract, hw1]; omega) (by rw [ByteArray.size_extract, hw1]; omega)
    have hX : (p.extract (((64 * k : Nat) : Int)).toNat (IntKind.i64.wrap (((64 * k : Nat) : Int) + 64)).toNat).data.toList = (p.data.toList.drop (64 * k)).take 64 := by
      rw [wP, hw1, Int.toNat_natCast, Int.toNat_natCast, show 64 * k + 64 - 64 * k = 64 by omega]
    rw [hX, zfq _ _ _ (by rw [List.length_drop, zZ]; omega) (by omega)] at hB
    obtain ⟨c, hc⟩ : ∃ c, N - k = c + 1 := ⟨N - k - 1, by omega⟩
    rw [hc] at hf
    simp only [xQ, List.drop_drop] at hf
    generalize ze8 h (p.data.toList.drop (64 * k)) = h' at hf hB
    obtain ⟨a1, a2, a3, a4, a5, a6, a7, a8⟩ := h
    obtain ⟨c1, c2, c3, c4, c5, c6, c7, c8⟩ := h'
    simp only [H8.t, List.map_cons, List.map_nil] at hB ⊢
    repeat' (first | refine wC ?_ | refine wK ?_ | ((with_reducible refine yF ?_); refine zy rfl rfl ⟨_, rfl⟩ ⟨_, rfl⟩ rfl rfl rfl ?_ ?_ ?_ ?_) | ((with_reducible refine zg ?_); refine wL hB ?_) | ((with_reducible refine xu ?_); refine qW rfl rfl rfl rfl rfl rfl rfl rfl rfl ?_) | refine zi rfl ?_ ?_ <;> intro hc)
    all_goals try (rw [hw1]; omega)
    all_goals try (exfalso; omega)
    · omega
    exact zr (n' := N - (k + 1)) (by omega) (za [3, 4, 5, 6] [.loc 3, .loc 4] rfl rfl) ⟨k + 1, ⟨c1, c2, c3, c4, c5, c6, c7, c8⟩, by omega, rfl, by rw [hf, show N - (k + 1) = c by omega, show 64 * (k + 1) = 64 * k + 64 by omega], by rw [hw1, show 64 * (k + 1) = 64 * k + 64 by omega]; rfl, rfl⟩
  · have hkN : k = N := by omega
    subst hkN
    simp only [Nat.sub_self, xQ] at hf
    subst hf
    repeat' (first | refine wC ?_ | refine wK ?_ | ((with_reducible refine yF ?_); refine zy rfl rfl ⟨_, rfl⟩ ⟨_, rfl⟩ rfl rfl rfl ?_ ?_ ?_ ?_) | ((with_reducible refine xu ?_); refine qW rfl rfl rfl rfl rfl rfl rfl rfl rfl ?_) | refine zi rfl ?_ ?_ <;> intro hc)
    all_goals try (exfalso; omega)
    obtain ⟨R, hR⟩ : ∃ R, R = xE (zhY b0 b1 b2 b3 F.l) 8 0 [] := ⟨_, rfl⟩
    have hE : R.map (T.int .u8) = F.out.map u8T := by rw [hR]; exact zhQ F hFi
    refine zb (z8 7 (.loc 900) 5 1 rfl rfl rfl) ?_
    refine zb (za [7, 28, 29] [.loc 900] rfl rfl) ?_
    have hvl : F.l.length = 8 := rfl
    obtain ⟨vl, hvl'⟩ : ∃ l, l = F.l := ⟨_, rfl⟩
    rw [← hvl'] at hR hvl
    refine ze (fun p env st => ∃ (t : Nat) (l : List Int), t ≤ 8 ∧ p = 8 - t ∧ l.length = 4 * t ∧ R = xE (zhY b0 b1 b2 b3 vl) (8 - t) t l ∧
        env = EnvL.get [(7, .row (.loc 900)), (28, .t (.agg (vl.map wy))), (29, .t (.int .i64 (t : Int)))] ∧
        st = StO.get [(.loc 900, some (.slt 5 1 (l.map (T.int .u8))))])
      ?_ (n := 8) ⟨0, [], by omega, rfl, by simp, hR, by rw [hvl']; rfl, rfl⟩
    clear hR
    rintro p env st ⟨t, l, ht, rfl, hl, hi, rfl, rfl⟩
    by_cases hlt : t < 8
    · obtain ⟨c, hc⟩ : ∃ c, 8 - t = c + 1 := ⟨8 - t - 1, by omega⟩
      rw [hc] at hi
      simp only [xE] at hi
      repeat' (first | refine wC ?_ | refine wK ?_ | ((with_reducible refine zN ?_); refine zw rfl rfl rfl rfl rfl rfl ?_ ?_) | ((with_reducible refine zD ?_); refine zn rfl rfl rfl rfl rfl rfl rfl rfl rfl rfl ?_ ?_ ?_) | ((with_reducible refine yx ?_); refine wJ rfl rfl rfl rfl rfl rfl rfl ?_ ?_ ?_ ?_) | refine zi rfl ?_ ?_ <;> intro hc)
      all_goals try omega
      all_goals try (exfalso; omega)
      all_goals try (simp only [List.length_map, List.length_cons, List.length_nil]; omega)
      refine zr (n' := 8 - (t + 1)) (by omega) ((za [7, 28, 29] [.loc 45] rfl rfl).trans (zk (.loc 45) (.loc 900) rfl rfl rfl rfl)) ⟨t + 1, zhY b0 b1 b2 b3 vl t l, by omega, rfl, by unfold zhY; rw [List.length_append]; simp; omega, by rw [hi, show 8 - (t + 1) = c by omega], by rw [zj (by omega) (by omega)]; rfl, ?_⟩
      unfold zhY
      rw [List.map_append]; rfl
    · obtain rfl : t = 8 := by omega
      simp only [Nat.sub_self, xE] at hi
      rw [← hi, hE]
      repeat' (first | refine wC ?_ | refine wK ?_ | ((with_reducible refine zN ?_); refine zw rfl rfl rfl rfl rfl rfl ?_ ?_))
      all_goals try (exfalso; omega)
      · exact kr _
      · exact zo (zf rfl rfl (congrArg T.str (qc _))) (by simp)
end Go.AL
