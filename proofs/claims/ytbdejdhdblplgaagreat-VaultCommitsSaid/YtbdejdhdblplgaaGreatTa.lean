/- What functions of the program and of the document answer, and the plain laws behind it; each under the conditions that its own theorem names. -/
import Derived.Test.YtbdejdhdblplgaaGreatAl3
import Derived.Test.YtbdejdhdblplgaaGreatProg
import Derived.Shelf.Strings.Repeat
set_option linter.unusedVariables false
namespace Go.AL
open Go Go.RowKit
inductive Nd where
  | mk (kind : Int) (b : Bool) (num : Int) (text : ByteArray) (names : List ByteArray) (items : List Nd)
  deriving Inhabited
mutual
def Nd.toT : Nd → T
  | .mk k b n t ns is => .agg [.int .i64 k, .bool b, .int .i64 n, .str t, .sl 1 (ns.map .str), .sl 6 (Nd.toTs is)]
def Nd.toTs : List Nd → List T
  | [] => []
  | x :: xs => x.toT :: Nd.toTs xs
end
def Nd.items : Nd → List Nd
  | .mk _ _ _ _ _ is => is
def Nd.names : Nd → List ByteArray
  | .mk _ _ _ _ ns _ => ns
inductive Nd.Ok : Nd → Prop
  | mk {k : Int} {b : Bool} {n : Int} {t : ByteArray} {ns : List ByteArray} {is : List Nd} : ns.length ≤ 8796093021952 → is.length ≤ 1599289640354 → (∀ x ∈ is, x.Ok) → Nd.Ok (.mk k b n t ns is)
section
variable {P : Program} {nt : Nat} {ops : Array Oper} {o : Oper} {rest : List Oper} {env : EnvL} {st : StO} {acc : List SD} {K : EnvL → StO → List SD → Prop} {d : Nat}
end
def Nd.fieldsOK : Nd → Bool
  | .mk k b n t ns is => (decide (k = 1) || !b) && (decide (k = 2) || decide (n = 0)) && (decide (k = 3) || decide (t = ⟨#[]⟩)) && (decide (k = 4) || decide (k = 5) || decide ((is.length : Int) = 0)) && (decide (k = 5) || decide ((ns.length : Int) = 0))
def zjW (V : ByteArray → Bool) (s : ByteArray) : Bool := decide ((s.size : Int) ≤ 65536) && V s
def inB (s : ByteArray) (l : List ByteArray) : Bool := l.any fun x => decide (s = x)
def zgl (tx : ByteArray → Bool) : List ByteArray → List ByteArray → Bool
  | _, [] => true
  | seen, s :: l => if inB s seen || !tx s then false else zgl tx (s :: seen) l
mutual
def Nd.validB (V : ByteArray → Bool) : Nd → Int → Bool
  | .mk k b n t ns is, d => !(decide (d < 1) || decide (k < 0) || decide (5 < k) || !(Nd.mk k b n t ns is).fieldsOK || !zjW V t || decide (256 < (is.length : Int))) && (!decide (k = 5) || (zgl (zjW V) [] ns && decide ((ns.length : Int) = is.length))) && !Nd.anyBad V is (d - 1)
def Nd.anyBad (V : ByteArray → Bool) : List Nd → Int → Bool
  | [], _ => false
  | x :: xs, d => !x.validB V d || Nd.anyBad V xs d
end
def Nd.kind : Nd → Int
  | .mk k _ _ _ _ _ => k
def Nd.bool : Nd → Bool
  | .mk _ b _ _ _ _ => b
def Nd.num : Nd → Int
  | .mk _ _ n _ _ _ => n
def Nd.text : Nd → ByteArray
  | .mk _ _ _ t _ _ => t
def Nd.zero : Nd := .mk 0 false 0 ⟨#[]⟩ [] []
def zjC (s : ByteArray) : List ByteArray → Int → Int
  | [], _ => -1
  | x :: xs, j => if s = x then j else zjC s xs (j + 1)
def Nd.place (n : Nd) (s : ByteArray) : Int := if n.kind = 5 then zjC s (n.names.take (min n.names.length n.items.length)) 0 else -1
def Nd.get (n : Nd) (s : ByteArray) : Nd × Bool := if n.place s < 0 then (Nd.zero, false) else (n.items.getD (n.place s).toNat default, true)
def Nd.set (n : Nd) (s : ByteArray) (v : Nd) : Nd :=
  if 0 ≤ n.place s then .mk n.kind n.bool n.num n.text n.names (n.items.set (n.place s).toNat v)
  else .mk n.kind n.bool n.num n.text (n.names ++ [s]) (n.items ++ [v])
def Nd.put (V : ByteArray → Bool) (n : Nd) (s : ByteArray) (v : Nd) : Nd × Int :=
  if n.kind = 5 ∧ n.validB V 8 = true ∧ (n.set s v).validB V 8 = true then (n.set s v, 0) else (Nd.zero, 1)
theorem zfA (s : ByteArray) : ∀ (l : List ByteArray) (j : Int) (i : Nat), l.Nodup → l[i]? = some s → zjC s l j = j + i
  | [], j, i, _, h => by simp at h
  | x :: xs, j, 0, _, h => by
    simp only [List.getElem?_cons_zero, Option.some.injEq] at h
    simp [zjC, h]
  | x :: xs, j, i + 1, hn, h => by
    simp only [List.getElem?_cons_succ] at h
    have hm : s ∈ xs := List.mem_of_getElem? h
    have hx : s ≠ x := fun e => (List.nodup_cons.1 hn).1 (e ▸ hm)
    rw [zjC, if_neg hx, zfA s xs (j + 1) i (List.nodup_cons.1 hn).2 h]
    omega
structure Dc where
  l : List Int
  k : Nat
def zlt (n m : Int) : Int := if m < 1 then 0 else n % m
def Dc.next (d : Dc) (n : Int) : Int × Dc := if (d.l.length : Int) ≤ d.k then (0, d) else (zlt (d.l.getD d.k 0) n, ⟨d.l, d.k + 1⟩)
def Dc.word (d : Dc) (l : List ByteArray) : ByteArray × Dc := (l.getD (d.next l.length).1.toNat default, (d.next l.length).2)
def eS : ByteArray := ⟨#[]⟩
def xS : ByteArray := ⟨#[120]⟩
structure VOk (V : ByteArray → Bool) : Prop where
  asc : ∀ s : ByteArray, (∀ b ∈ s.data.toList, b.toNat < 128) → V s = true
  app : ∀ s : ByteArray, V s = true → V (s ++ xS) = true
  odd : V ⟨#[195, 164, 226, 130, 172, 240, 159, 152, 128]⟩ = true
end Go.AL
set_option linter.unusedSimpArgs false
namespace Go.AL
open Go Go.RowKit
end Go.AL
set_option linter.unusedSimpArgs false
namespace Go.AL
open Go Go.RowKit
mutual
def Nd.same : Nd → Nd → Bool
  | .mk k b n t ns is, .mk k' b' n' t' ns' is' => decide (k = k') && decide (b = b') && decide (n = n') && decide (t = t') && decide (ns = ns') && Nd.sames is is'
def Nd.sames : List Nd → List Nd → Bool
  | [], [] => true
  | x :: xs, y :: ys => x.same y && Nd.sames xs ys
  | [], _ :: _ => false
  | _ :: _, [] => false
end
structure Nd.IsMap (m : Nd) : Prop where
  kind : m.kind = 5
  len : m.names.length = m.items.length
  nodup : m.names.Nodup
theorem Nd.IsMap.place_eq {m : Nd} (h : m.IsMap) (s : ByteArray) : m.place s = zjC s m.names 0 := by
  unfold Nd.place
  rw [if_pos h.kind, ← h.len, Nat.min_self, List.take_length]
theorem Nd.IsMap.place_at {m : Nd} (h : m.IsMap) {i : Nat} {s : ByteArray} (hi : m.names[i]? = some s) : m.place s = i := by
  rw [h.place_eq, zfA s _ 0 i h.nodup hi]; omega
theorem Nd.IsMap.set {m : Nd} (h : m.IsMap) (s : ByteArray) (v : Nd) : (m.set s v).IsMap := by
  unfold Nd.set
  split
  · exact ⟨h.kind, by simpa [Nd.names, Nd.items] using h.len, h.nodup⟩
  · rename_i hp
    refine ⟨h.kind, by simp only [Nd.names, Nd.items, List.length_append, List.length_singleton]; have := h.len; simp only [Nd.names, Nd.items] at this; cases m; simpa using this, ?_⟩
    show (m.names ++ [s]).Nodup
    rw [List.nodup_append]
    refine ⟨h.nodup, by simp, fun a ha b hb => ?_⟩
    simp only [List.mem_singleton] at hb
    subst hb
    rintro rfl
    obtain ⟨i, hi⟩ := List.getElem?_of_mem ha
    have := h.place_at hi
    omega
def ofL (l : List UInt8) : ByteArray := ⟨l.toArray⟩
theorem xn (l : List UInt8) : (ofL l).data.toList = l := by simp [ofL]
theorem xZ (l : List UInt8) : (ofL l).size = l.length := by simp [ofL, ByteArray.size]
theorem wE (s : ByteArray) : ofL s.data.toList = s := by cases s; simp [ofL]
theorem yE (l : List UInt8) (a b : Nat) : (ofL l).extract a b = ofL ((l.drop a).take (b - a)) := by
  have h : ((ofL l).extract a b).data.toList = (ofL ((l.drop a).take (b - a))).data.toList := by
    rw [xn]; simp [ofL, ByteArray.data_extract]
  have := congrArg ofL h
  rwa [wE, wE] at this
def xu : Nat → Nat → List UInt8
  | 0, _ => []
  | k + 1, n => UInt8.ofNat (n / 256 ^ k) :: xu k n
theorem xI : ∀ k n, (xu k n).length = k
  | 0, n => rfl
  | k + 1, n => by simp [xu, xI k n]
def hdL (m n : Nat) : List UInt8 :=
  if n < 24 then [UInt8.ofNat (32 * m + n)] else if n < 256 then UInt8.ofNat (32 * m + 24) :: xu 1 n
  else if n < 65536 then UInt8.ofNat (32 * m + 25) :: xu 2 n else if n < 4294967296 then UInt8.ofNat (32 * m + 26) :: xu 4 n
  else UInt8.ofNat (32 * m + 27) :: xu 8 n
mutual
def Nd.cb : Nd → List UInt8
  | .mk k b n t ns is =>
    if k = 0 then hdL 7 22 else if k = 1 then hdL 7 (if b then 21 else 20) else if k = 2 then (if n < 0 then hdL 1 (-1 - n).toNat else hdL 0 n.toNat)
    else if k = 3 then hdL 3 t.size ++ t.data.toList else if k = 4 then hdL 4 is.length ++ Nd.cbs is else hdL 5 is.length ++ Nd.cbm ns is
def Nd.cbs : List Nd → List UInt8
  | [] => []
  | x :: xs => x.cb ++ Nd.cbs xs
def Nd.cbm : List ByteArray → List Nd → List UInt8
  | s :: ns, x :: xs => hdL 3 s.size ++ s.data.toList ++ x.cb ++ Nd.cbm ns xs
  | _, _ => []
end
structure Rs where
  s : ByteArray
  bad : Bool
def Rs.take (r : Rs) (n : Int) : ByteArray × Rs :=
  if r.bad = true ∨ n < 0 ∨ (r.s.size : Int) < n then (eS, ⟨r.s, true⟩) else (r.s.extract 0 n.toNat, ⟨r.s.extract n.toNat r.s.size, false⟩)
def Rs.byte (r : Rs) : Int × Rs := (if (r.take 1).1 = eS then 0 else bAt (r.take 1).1 0, (r.take 1).2)
def zji (n : Int) (b : UInt8) : Int := n * 256 % 18446744073709551616 + b.toNat
def Rs.uint (r : Rs) (k : Int) : Int × Rs := ((r.take k).1.data.toList.foldl zji 0, (r.take k).2)
def Rs.fits (r : Rs) (n : Int) : Int × Rs := if (r.s.size : Int) < n then (0, ⟨r.s, true⟩) else (n, r)
def zcv (r : Rs) : (Int × Int) × Rs :=
  if r.byte.1 % 32 < 24 then ((r.byte.1 / 32, r.byte.1 % 32), r.byte.2)
  else if 27 < r.byte.1 % 32 then ((r.byte.1 / 32, 0), ⟨r.byte.2.s, true⟩)
  else ((r.byte.1 / 32, (r.byte.2.uint (2 ^ (r.byte.1 % 32 - 24).toNat)).1), (r.byte.2.uint (2 ^ (r.byte.1 % 32 - 24).toNat)).2)
def ziT (r : Rs) (n : Int) : ByteArray × Rs := (r.fits n).2.take (r.fits n).1
def ziv (r : Rs) : ByteArray × Rs := ziT (if (zcv r).1.1 = 3 then (zcv r).2 else ⟨(zcv r).2.s, true⟩) (zcv r).1.2
def zd5 (f : Rs → Nd × Rs) (k : Int) : Nat → List ByteArray → List Nd → Rs → Nd × Rs
  | 0, ns, is, r => (.mk k false 0 eS ns is, r)
  | c + 1, ns, is, r => if r.bad = true then (.mk k false 0 eS ns is, r)
    else if k = 5 then zd5 f k c (ns ++ [(ziv r).1]) (is ++ [(f (ziv r).2).1]) (f (ziv r).2).2
    else zd5 f k c ns (is ++ [(f r).1]) (f r).2
def i64 (n : Int) : Int := IntKind.i64.wrap n
def ziZ : Nat → Rs → Nd × Rs
  | 0, r => (Nd.zero, ⟨(zcv r).2.s, true⟩)
  | d + 1, r =>
    let m := (zcv r).1.1
    let n := (zcv r).1.2
    let q := (zcv r).2
    if m = 0 then (.mk 2 false (i64 n) eS [] [], q)
    else if m = 1 then (.mk 2 false (-1 - i64 n) eS [] [], q)
    else if m = 3 then (.mk 3 false 0 (ziT q n).1 [] [], (ziT q n).2)
    else if m = 4 then zd5 (ziZ d) 4 (q.fits n).1.toNat [] [] (q.fits n).2
    else if m = 5 then zd5 (ziZ d) 5 (q.fits n).1.toNat [] [] (q.fits n).2
    else if m = 7 ∧ (n = 21 ∨ n = 20) then (.mk 1 (decide (n = 21)) 0 eS [] [], q)
    else (Nd.zero, q)
inductive Nd.In : Nd → Prop
  | mk {k : Int} {b : Bool} {n : Int} {t : ByteArray} {ns : List ByteArray} {is : List Nd} : -9223372036854775808 ≤ n → n ≤ 9223372036854775807 → (∀ x ∈ is, x.In) → Nd.In (.mk k b n t ns is)
theorem z8 (s : ByteArray) : s.data.toList.length = s.size := by rw [Array.length_toList]; rfl
theorem zbC (s : ByteArray) (i : Int) : 0 ≤ bAt s i ∧ bAt s i < 256 := by
  unfold bAt
  have := (s.data.toList.getD i.toNat 0).toNat_lt
  omega
def zlp (V : ByteArray → Bool) (x : Nd) : ByteArray × Int := if x.validB V 8 = true then (if 65536 < x.cb.length then (eS, 3) else (ofL x.cb, 0)) else (eS, 1)
def zhs (s : ByteArray) : Nd × Rs := ziZ 8 ⟨s, false⟩
def zkB (V : ByteArray → Bool) (s : ByteArray) : Prop := (zhs s).2.bad = false ∧ (zhs s).2.s = eS ∧ (zhs s).1.validB V 8 = true ∧ zlp V (zhs s).1 = (s, 0)
instance (V : ByteArray → Bool) (s : ByteArray) : Decidable (zkB V s) := by unfold zkB; exact inferInstance
theorem ziP : Nd.zero.Ok := .mk (by simp) (by simp) (by simp)
def VGood (s : ByteArray) (p : Nat) (r : Nd × Int) : Prop := r.1.Ok ∧ -1 ≤ r.2 ∧ (r.2 ≠ -1 → (p : Int) < r.2 ∧ r.2 ≤ s.size ∧ (r.1.cb.length : Int) + p ≤ r.2 ∧ r.1.In)
theorem VGood.fail (s : ByteArray) (p : Nat) : VGood s p (Nd.zero, -1) := ⟨ziP, by decide, fun h => absurd rfl h⟩
def wx (a b : Int) : Int := IntKind.u32.wrap ((BitVec.ofInt 32 a ^^^ BitVec.ofInt 32 b).toNat : Int)
def wa (a b : Int) : Int := IntKind.u32.wrap ((BitVec.ofInt 32 a &&& BitVec.ofInt 32 b).toNat : Int)
def wo (a b : Int) : Int := IntKind.u32.wrap ((BitVec.ofInt 32 a ||| BitVec.ofInt 32 b).toNat : Int)
def wn (a : Int) : Int := IntKind.u32.wrap ((BitVec.ofInt 32 4294967295 ^^^ BitVec.ofInt 32 a).toNat : Int)
def wp (a b : Int) : Int := IntKind.u32.wrap (a + b)
def wr (a : Int) (n : Nat) : Int := a / 2 ^ n
def wl (a : Int) (n : Nat) : Int := IntKind.u32.wrap (a * 2 ^ n)
def rr (x : Int) (n : Nat) : Int := wo (wr x n) (wl x (32 - n))
def bL (p : List UInt8) (i : Nat) : Int := ((p.getD i 0).toNat : Int)
def wg (p : List UInt8) (t : Nat) : Int := wo (wo (wo (wl (bL p (4 * t)) 24) (wl (bL p (4 * t + 1)) 16)) (wl (bL p (4 * t + 2)) 8)) (bL p (4 * t + 3))
def zkH (x y u v : Int) : Int := wp (wp (wp (wx (wx (rr y 17) (rr y 19)) (wr y 10)) u) (wx (wx (rr x 7) (rr x 18)) (wr x 3))) v
structure H8 where
  a : Int
  b : Int
  c : Int
  d : Int
  e : Int
  f : Int
  g : Int
  h : Int
  deriving DecidableEq
def H8.l (v : H8) : List Int := [v.a, v.b, v.c, v.d, v.e, v.f, v.g, v.h]
def H8.t (v : H8) : List T := [.int .u32 v.a, .int .u32 v.b, .int .u32 v.c, .int .u32 v.d, .int .u32 v.e, .int .u32 v.f, .int .u32 v.g, .int .u32 v.h]
def rnd (k w : Int) (v : H8) : H8 :=
  let t1 := wp (wp (wp (wp v.h (wx (wx (rr v.e 6) (rr v.e 11)) (rr v.e 25))) (wx (wa v.e v.f) (wa (wn v.e) v.g))) k) w
  let t2 := wp (wx (wx (rr v.a 2) (rr v.a 13)) (rr v.a 22)) (wx (wx (wa v.a v.b) (wa v.a v.c)) (wa v.b v.c))
  ⟨wp t1 t2, v.a, v.b, v.c, wp v.d t1, v.e, v.f, v.g⟩
def xf {α : Type} (f : Nat → α → α) : Nat → Nat → α → α
  | 0, _, a => a
  | c + 1, t, a => xf f c (t + 1) (f t a)
def zbw : List Int := [
  0x428a2f98, 0x71374491, 0xb5c0fbcf, 0xe9b5dba5, 0x3956c25b, 0x59f111f1, 0x923f82a4, 0xab1c5ed5,
  0xd807aa98, 0x12835b01, 0x243185be, 0x550c7dc3, 0x72be5d74, 0x80deb1fe, 0x9bdc06a7, 0xc19bf174,
  0xe49b69c1, 0xefbe4786, 0x0fc19dc6, 0x240ca1cc, 0x2de92c6f, 0x4a7484aa, 0x5cb0a9dc, 0x76f988da,
  0x983e5152, 0xa831c66d, 0xb00327c8, 0xbf597fc7, 0xc6e00bf3, 0xd5a79147, 0x06ca6351, 0x14292967,
  0x27b70a85, 0x2e1b2138, 0x4d2c6dfc, 0x53380d13, 0x650a7354, 0x766a0abb, 0x81c2c92e, 0x92722c85,
  0xa2bfe8a1, 0xa81a664b, 0xc24b8b70, 0xc76c51a3, 0xd192e819, 0xd6990624, 0xf40e3585, 0x106aa070,
  0x19a4c116, 0x1e376c08, 0x2748774c, 0x34b0bcb5, 0x391c0cb3, 0x4ed8aa4a, 0x5b9cca4f, 0x682e6ff3,
  0x748f82ee, 0x78a5636f, 0x84c87814, 0x8cc70208, 0x90befffa, 0xa4506ceb, 0xbef9a3f7, 0xc67178f2]
def zdZ : H8 := ⟨0x6a09e667, 0xbb67ae85, 0x3c6ef372, 0xa54ff53a, 0x510e527f, 0x9b05688c, 0x1f83d9ab, 0x5be0cd19⟩
def w0L : List Int := List.replicate 64 0
def vf (p : List UInt8) : List Int := xf (fun t w => w.set t (wg p t)) 16 0 w0L
def yR (t : Nat) (w : List Int) : List Int := w.set t (zkH (w.getD (t - 15) 0) (w.getD (t - 2) 0) (w.getD (t - 7) 0) (w.getD (t - 16) 0))
def jW (w : List Int) : List Int := xf yR 48 16 w
def zat (w : List Int) (v : H8) : H8 := xf (fun t v => rnd (zbw.getD t 0) (w.getD t 0) v) 64 0 v
def kH (u v : H8) : H8 := ⟨wp u.a v.a, wp u.b v.b, wp u.c v.c, wp u.d v.d, wp u.e v.e, wp u.f v.f, wp u.g v.g, wp u.h v.h⟩
def zeh (h : H8) (p : List UInt8) : H8 := kH h (zat (jW (vf p)) h)
def xJ : Nat → H8 → List UInt8 → H8
  | 0, h, _ => h
  | n + 1, h, p => xJ n (zeh h p) (p.drop 64)
def w4 (x : Int) : List UInt8 := xu 4 x.toNat
def H8.out (v : H8) : List UInt8 := w4 v.a ++ w4 v.b ++ w4 v.c ++ w4 v.d ++ w4 v.e ++ w4 v.f ++ w4 v.g ++ w4 v.h
def ws (left : List UInt8) (n : Nat) : List UInt8 := left ++ 128 :: (List.replicate ((119 - left.length % 64) % 64) 0 ++ xu 8 (8 * n))
def zN (s : List UInt8) : List UInt8 := ws s s.length
def zia (s : List UInt8) : List UInt8 := (xJ ((zN s).length / 64) zdZ (zN s)).out
def sha (s : ByteArray) : ByteArray := ofL (zia s.data.toList)
theorem zar {α : Type} {f g : Nat → α → α} : ∀ (c t : Nat) (a : α), (∀ i, t ≤ i → i < t + c → ∀ x, f i x = g i x) → xf f c t a = xf g c t a
  | 0, _, _, _ => rfl
  | c + 1, t, a, h => by
    simp only [xf]
    rw [h t (Nat.le_refl _) (by omega)]
    exact zar c (t + 1) _ fun i h1 h2 => h i (by omega) (by omega)
theorem zd6 {α : Type} {f : Nat → α → α} {Q : α → Prop} (hf : ∀ i x, Q x → Q (f i x)) : ∀ (c t : Nat) (a : α), Q a → Q (xf f c t a)
  | 0, _, _, h => h
  | c + 1, t, a, h => zd6 hf c (t + 1) _ (hf t a h)
theorem qp {x y : List UInt8} {i : Nat} (h : i < x.length) : bL (x ++ y) i = bL x i := by
  unfold bL
  rw [List.getD_eq_getElem?_getD, List.getD_eq_getElem?_getD, List.getElem?_append_left h]
theorem zb1 {x y : List UInt8} {t : Nat} (hx : 64 ≤ x.length) (ht : t < 16) : wg (x ++ y) t = wg x t := by
  unfold wg
  rw [qp (by omega), qp (by omega), qp (by omega), qp (by omega)]
theorem zbS {x y : List UInt8} (hx : 64 ≤ x.length) : vf (x ++ y) = vf x :=
  zar 16 0 _ fun i _ h w => by rw [zb1 hx (by omega)]
theorem k8 {h : H8} {x y : List UInt8} (hx : 64 ≤ x.length) : zeh h (x ++ y) = zeh h x := by
  unfold zeh; rw [zbS hx]
theorem zgr (h : H8) (x : List UInt8) (n : Nat) (hx : 64 ≤ x.length) (hn : 64 ≤ n) : zeh h (x.take n) = zeh h x := by
  have h1 : 64 ≤ (x.take n).length := by rw [List.length_take]; omega
  rw [← k8 (y := x.drop n) h1, List.take_append_drop]
theorem ke : ∀ (a b : Nat) (h : H8) (x y : List UInt8), x.length = 64 * a → xJ (a + b) h (x ++ y) = xJ b (xJ a h x) y
  | 0, b, h, x, y, hx => by
    obtain rfl := List.eq_nil_of_length_eq_zero (by omega : x.length = 0)
    simp [xJ]
  | a + 1, b, h, x, y, hx => by
    rw [show a + 1 + b = (a + b) + 1 by omega]
    simp only [xJ]
    rw [k8 (by omega), List.drop_append_of_le_length (by omega)]
    exact ke a b _ _ y (by rw [List.length_drop]; omega)
def H8.In (v : H8) : Prop := (0 ≤ v.a ∧ v.a < 4294967296) ∧ (0 ≤ v.b ∧ v.b < 4294967296) ∧ (0 ≤ v.c ∧ v.c < 4294967296) ∧ (0 ≤ v.d ∧ v.d < 4294967296) ∧ (0 ≤ v.e ∧ v.e < 4294967296) ∧ (0 ≤ v.f ∧ v.f < 4294967296) ∧ (0 ≤ v.g ∧ v.g < 4294967296) ∧ (0 ≤ v.h ∧ v.h < 4294967296)
theorem xV (a b : Int) : 0 ≤ wp a b ∧ wp a b < 4294967296 := by
  unfold wp
  simp only [IntKind.wrap, IntKind.bits, IntKind.signed, Bool.false_and, Bool.false_eq_true, if_false]
  omega
theorem ziG (a b : Int) : wp a b = wp b a := by unfold wp; rw [Int.add_comm]
theorem zhQ (u v : H8) : (kH u v).In := ⟨xV _ _, xV _ _, xV _ _, xV _ _, xV _ _, xV _ _, xV _ _, xV _ _⟩
theorem zfl (u v : H8) : kH u v = kH v u := by unfold kH; simp only [ziG]
theorem zfY : zdZ.In := by unfold zdZ H8.In; simp
theorem kT : ∀ (n : Nat) (h : H8) (p : List UInt8), h.In → (xJ n h p).In
  | 0, _, _, hh => hh
  | n + 1, h, p, _ => kT n _ _ (zhQ _ _)
theorem zh2 (x : Int) : (w4 x).length = 4 := xI 4 _
theorem zgu (v : H8) : v.out.length = 32 := by simp [H8.out, zh2]
theorem zg8 (s : List UInt8) : (zia s).length = 32 := zgu _
theorem xw (s : ByteArray) : (sha s).size = 32 := by unfold sha; rw [xZ, zg8]
theorem jr (left : List UInt8) (n : Nat) : (ws left n).length = left.length + 9 + (119 - left.length % 64) % 64 := by
  simp only [ws, List.length_append, List.length_cons, List.length_replicate, xI]; omega
theorem zgR (s : List UInt8) : (zN s).length % 64 = 0 ∧ s.length + 9 ≤ (zN s).length ∧ (zN s).length ≤ s.length + 72 := by
  unfold zN; rw [jr]; omega
theorem jf {a b : Nat} (h : a = b) : List.replicate a (0 : UInt8) = List.replicate b 0 := by rw [h]
theorem zfj (s : List UInt8) (w : Nat) (hw : w = s.length / 64 * 64) : zN s = s.take w ++ ws (s.drop w) s.length := by
  unfold zN ws
  rw [← List.append_assoc, List.take_append_drop]
  congr 2
  rw [List.length_drop, hw]
  congr 1
  exact jf (by omega)
theorem zeX (s : List UInt8) (w : Nat) (hw : w = s.length / 64 * 64) : zia s = (xJ ((ws (s.drop w) s.length).length / 64) (xJ (w / 64) zdZ (s.take w)) (ws (s.drop w) s.length)).out := by
  have hl : (s.take w).length = 64 * (w / 64) := by rw [List.length_take]; omega
  have h := zfj s w hw
  unfold zia
  have h2 : (zN s).length / 64 = w / 64 + (ws (s.drop w) s.length).length / 64 := by
    rw [h, List.length_append, hl]; omega
  rw [h2]
  conv => lhs; rw [h]
  rw [ke _ _ _ _ _ hl]
def kg (f : Nat → ByteArray) : Nat → ByteArray
  | 0 => ⟨#[]⟩
  | j + 1 => kg f j ++ f j
theorem ql {f : Nat → ByteArray} (hf : ∀ i, (f i).size = 16) : ∀ j, (kg f j).size = 16 * j
  | 0 => rfl
  | j + 1 => by rw [kg, ByteArray.size_append, ql hf j, hf j]; omega
theorem zaq {f g : Nat → ByteArray} : ∀ j, (∀ i, i < j → f i = g i) → kg f j = kg g j
  | 0, _ => rfl
  | j + 1, h => by rw [kg, kg, zaq j (fun i hi => h i (by omega)), h j (by omega)]
theorem zcg {f : Nat → ByteArray} (hf : ∀ i, (f i).size = 16) : ∀ j c, c < j → (kg f j).extract (16 * c) (16 * (c + 1)) = f c
  | 0, c, h => by omega
  | j + 1, c, h => by
    have hz := ql hf j
    have hj := hf j
    have hc := hf c
    rw [kg]
    rcases Nat.lt_or_ge c j with h' | h'
    · have ih := zcg hf j c h'
      rw [ByteArray.extract_append, ih, hz]
      have : (f j).extract (16 * c - 16 * j) (16 * (c + 1) - 16 * j) = ByteArray.empty := by
        apply ByteArray.size_eq_zero_iff.1
        rw [ByteArray.size_extract]; omega
      rw [this, ByteArray.append_empty]
    · obtain rfl : c = j := by omega
      rw [ByteArray.extract_append, hz]
      have e1 : (kg f c).extract (16 * c) (16 * (c + 1)) = ByteArray.empty := by
        apply ByteArray.size_eq_zero_iff.1
        rw [ByteArray.size_extract]; omega
      rw [e1, ByteArray.empty_append, show 16 * c - 16 * c = 0 by omega, show 16 * (c + 1) - 16 * c = (f c).size by omega, ByteArray.extract_zero_size]
def zkC (Y : ByteArray) (j : Nat) : Nat := (bAt Y ((j / 4 : Nat) : Int)).toNat / 2 ^ (6 - 2 * (j % 4)) % 4
theorem zfR (Y : ByteArray) (j : Nat) : zkC Y j < 4 := Nat.mod_lt _ (by decide)
def xA (Y : ByteArray) : Nat → Nat
  | 0 => 0
  | j + 1 => xA Y j + 3 - zkC Y j
theorem kX (Y : ByteArray) : ∀ j, xA Y j ≤ 3 * j
  | 0 => Nat.le_refl _
  | j + 1 => by have := kX Y j; have := zfR Y j; rw [xA]; omega
def vK (Y : ByteArray) (j : Nat) : Nat := if j < 32 then zkC Y j else xA Y 32 / 2 ^ (2 * (35 - j)) % 4
theorem jF (Y : ByteArray) (j : Nat) : vK Y j < 4 := by
  unfold vK
  split
  · exact zfR _ _
  · exact Nat.mod_lt _ (by decide)
def zcR (Y : ByteArray) (j : Nat) : List T := (List.range j).map (fun i => T.int .i64 (vK Y i : Int))
theorem qr (Y : ByteArray) (j : Nat) : (zcR Y j).length = j := by simp [zcR]
theorem xL (Y : ByteArray) (j : Nat) : zcR Y (j + 1) = zcR Y j ++ [.int .i64 (vK Y j : Int)] := by simp [zcR, List.range_succ]
end Go.AL
namespace Go.AL
open Go Go.Proofs
instance : TyU Tryz.prog 0 (TypeDesc.tuple #[]) := ⟨Tryz.underlying0⟩
instance : TyI Tryz.prog 0 1 0 (Value.tuple [].toArray) := ⟨by kernel_rfl⟩
instance : TyU Tryz.prog 1 (TypeDesc.func #[] #[] false) := ⟨Tryz.underlying1⟩
instance : TyI Tryz.prog 1 1 8 (Value.nilFunc) := ⟨by kernel_rfl⟩
instance : TyU Tryz.prog 2 (TypeDesc.int IntKind.i64) := ⟨Tryz.underlying2⟩
instance : TyI Tryz.prog 2 1 8 (Value.int IntKind.i64 (0)) := ⟨by kernel_rfl⟩
instance : TyU Tryz.prog 3 (TypeDesc.int IntKind.i64) := ⟨Tryz.underlying3⟩
instance : TyI Tryz.prog 3 1 8 (Value.int IntKind.i64 (0)) := ⟨by kernel_rfl⟩
instance : TyU Tryz.prog 4 TypeDesc.bool := ⟨Tryz.underlying4⟩
instance : TyI Tryz.prog 4 1 1 (Value.bool false) := ⟨by kernel_rfl⟩
instance : TyU Tryz.prog 5 (TypeDesc.int IntKind.u8) := ⟨Tryz.underlying5⟩
instance : TyI Tryz.prog 5 1 1 (Value.int IntKind.u8 (0)) := ⟨by kernel_rfl⟩
instance : TyU Tryz.prog 6 (TypeDesc.int IntKind.u8) := ⟨Tryz.underlying6⟩
instance : TyI Tryz.prog 6 1 1 (Value.int IntKind.u8 (0)) := ⟨by kernel_rfl⟩
instance : TyU Tryz.prog 7 (TypeDesc.struct #[{ name := "x", type := 2, offset := 0, embedded := false, tag := "", pkgPath := "runtime", byteOffset := 0 }, { name := "y", type := 3, offset := 1, embedded := false, tag := "", pkgPath := "runtime", byteOffset := 8 }, { name := "signed", type := 4, offset := 2, embedded := false, tag := "", pkgPath := "runtime", byteOffset := 16 }, { name := "code", type := 6, offset := 3, embedded := false, tag := "", pkgPath := "runtime", byteOffset := 17 }]) := ⟨Tryz.underlying7⟩
instance : TyI Tryz.prog 7 4 24 (Value.agg [Value.int IntKind.i64 (0), Value.int IntKind.i64 (0), Value.bool false, Value.int IntKind.u8 (0)].toArray) := ⟨by kernel_rfl⟩
instance : TyU Tryz.prog 8 (TypeDesc.struct #[{ name := "x", type := 2, offset := 0, embedded := false, tag := "", pkgPath := "runtime", byteOffset := 0 }, { name := "y", type := 3, offset := 1, embedded := false, tag := "", pkgPath := "runtime", byteOffset := 8 }, { name := "signed", type := 4, offset := 2, embedded := false, tag := "", pkgPath := "runtime", byteOffset := 16 }, { name := "code", type := 6, offset := 3, embedded := false, tag := "", pkgPath := "runtime", byteOffset := 17 }]) := ⟨Tryz.underlying8⟩
instance : TyI Tryz.prog 8 4 24 (Value.agg [Value.int IntKind.i64 (0), Value.int IntKind.i64 (0), Value.bool false, Value.int IntKind.u8 (0)].toArray) := ⟨by kernel_rfl⟩
instance : TyU Tryz.prog 9 TypeDesc.string := ⟨Tryz.underlying9⟩
instance : TyI Tryz.prog 9 1 16 (Value.string ⟨#[]⟩) := ⟨by kernel_rfl⟩
instance : TyU Tryz.prog 10 TypeDesc.string := ⟨Tryz.underlying10⟩
instance : TyI Tryz.prog 10 1 16 (Value.string ⟨#[]⟩) := ⟨by kernel_rfl⟩
instance : TyU Tryz.prog 11 TypeDesc.string := ⟨Tryz.underlying11⟩
instance : TyI Tryz.prog 11 1 16 (Value.string ⟨#[]⟩) := ⟨by kernel_rfl⟩
instance : TyU Tryz.prog 12 (TypeDesc.int IntKind.u64) := ⟨Tryz.underlying12⟩
instance : TyI Tryz.prog 12 1 8 (Value.int IntKind.u64 (0)) := ⟨by kernel_rfl⟩
instance : TyU Tryz.prog 13 (TypeDesc.struct #[{ name := "msg", type := 9, offset := 0, embedded := false, tag := "", pkgPath := "runtime", byteOffset := 0 }, { name := "addr", type := 12, offset := 1, embedded := false, tag := "", pkgPath := "runtime", byteOffset := 16 }]) := ⟨Tryz.underlying13⟩
instance : TyI Tryz.prog 13 2 24 (Value.agg [Value.string ⟨#[]⟩, Value.int IntKind.u64 (0)].toArray) := ⟨by kernel_rfl⟩
instance : TyU Tryz.prog 14 (TypeDesc.struct #[{ name := "msg", type := 9, offset := 0, embedded := false, tag := "", pkgPath := "runtime", byteOffset := 0 }, { name := "addr", type := 12, offset := 1, embedded := false, tag := "", pkgPath := "runtime", byteOffset := 16 }]) := ⟨Tryz.underlying14⟩
instance : TyI Tryz.prog 14 2 24 (Value.agg [Value.string ⟨#[]⟩, Value.int IntKind.u64 (0)].toArray) := ⟨by kernel_rfl⟩
instance : TyU Tryz.prog 15 (TypeDesc.pointer 126) := ⟨Tryz.underlying15⟩
instance : TyI Tryz.prog 15 1 8 (Value.pointer none) := ⟨by kernel_rfl⟩
instance : TyU Tryz.prog 16 (TypeDesc.pointer 129) := ⟨Tryz.underlying16⟩
instance : TyI Tryz.prog 16 1 8 (Value.pointer none) := ⟨by kernel_rfl⟩
instance : TyU Tryz.prog 17 (TypeDesc.pointer 136) := ⟨Tryz.underlying17⟩
instance : TyI Tryz.prog 17 1 8 (Value.pointer none) := ⟨by kernel_rfl⟩
instance : TyU Tryz.prog 18 (TypeDesc.struct #[{ name := "typ", type := 17, offset := 0, embedded := false, tag := "", pkgPath := "internal/runtime/maps", byteOffset := 0 }]) := ⟨Tryz.underlying18⟩
instance : TyI Tryz.prog 18 1 8 (Value.agg [Value.pointer none].toArray) := ⟨by kernel_rfl⟩
instance : TyU Tryz.prog 19 (TypeDesc.struct #[{ name := "typ", type := 17, offset := 0, embedded := false, tag := "", pkgPath := "internal/runtime/maps", byteOffset := 0 }]) := ⟨Tryz.underlying19⟩
instance : TyI Tryz.prog 19 1 8 (Value.agg [Value.pointer none].toArray) := ⟨by kernel_rfl⟩
instance : TyU Tryz.prog 20 (TypeDesc.interface #[]) := ⟨Tryz.underlying20⟩
instance : TyI Tryz.prog 20 1 16 (Value.nilIface) := ⟨by kernel_rfl⟩
instance : TyU Tryz.prog 21 (TypeDesc.int IntKind.i32) := ⟨Tryz.underlying21⟩
instance : TyI Tryz.prog 21 1 4 (Value.int IntKind.i32 (0)) := ⟨by kernel_rfl⟩
instance : TyU Tryz.prog 22 (TypeDesc.slice 3) := ⟨Tryz.underlying22⟩
instance : TyI Tryz.prog 22 1 24 (Value.slice none 0 0) := ⟨by kernel_rfl⟩
instance : TyU Tryz.prog 23 (TypeDesc.struct #[{ name := "Seed", type := 9, offset := 0, embedded := false, tag := "", pkgPath := "", byteOffset := 0 }, { name := "Present", type := 3, offset := 1, embedded := false, tag := "", pkgPath := "", byteOffset := 16 }, { name := "Count", type := 3, offset := 2, embedded := false, tag := "", pkgPath := "", byteOffset := 24 }, { name := "NextCount", type := 3, offset := 3, embedded := false, tag := "", pkgPath := "", byteOffset := 32 }, { name := "Used", type := 22, offset := 4, embedded := false, tag := "", pkgPath := "", byteOffset := 40 }]) := ⟨Tryz.underlying23⟩
instance : TyI Tryz.prog 23 5 64 (Value.agg [Value.string ⟨#[]⟩, Value.int IntKind.i64 (0), Value.int IntKind.i64 (0), Value.int IntKind.i64 (0), Value.slice none 0 0].toArray) := ⟨by kernel_rfl⟩
instance : TyU Tryz.prog 24 (TypeDesc.struct #[{ name := "Seed", type := 9, offset := 0, embedded := false, tag := "", pkgPath := "", byteOffset := 0 }, { name := "Present", type := 3, offset := 1, embedded := false, tag := "", pkgPath := "", byteOffset := 16 }, { name := "Count", type := 3, offset := 2, embedded := false, tag := "", pkgPath := "", byteOffset := 24 }, { name := "NextCount", type := 3, offset := 3, embedded := false, tag := "", pkgPath := "", byteOffset := 32 }, { name := "Used", type := 22, offset := 4, embedded := false, tag := "", pkgPath := "", byteOffset := 40 }]) := ⟨Tryz.underlying24⟩
instance : TyI Tryz.prog 24 5 64 (Value.agg [Value.string ⟨#[]⟩, Value.int IntKind.i64 (0), Value.int IntKind.i64 (0), Value.int IntKind.i64 (0), Value.slice none 0 0].toArray) := ⟨by kernel_rfl⟩
instance : TyU Tryz.prog 25 (TypeDesc.int IntKind.i64) := ⟨Tryz.underlying25⟩
instance : TyI Tryz.prog 25 1 8 (Value.int IntKind.i64 (0)) := ⟨by kernel_rfl⟩
instance : TyU Tryz.prog 26 (TypeDesc.tuple #[24, 25]) := ⟨Tryz.underlying26⟩
instance : TyI Tryz.prog 26 1 0 (Value.tuple { toList := [Value.agg [Value.string ⟨#[]⟩, Value.int IntKind.i64 (0), Value.int IntKind.i64 (0), Value.int IntKind.i64 (0), Value.slice none 0 0].toArray, Value.int IntKind.i64 (0)] }) := ⟨by kernel_rfl⟩
instance : TyU Tryz.prog 27 (TypeDesc.func #[9, 3, 3] #[24, 25] false) := ⟨Tryz.underlying27⟩
instance : TyI Tryz.prog 27 1 8 (Value.nilFunc) := ⟨by kernel_rfl⟩
instance : TyU Tryz.prog 28 (TypeDesc.func #[5] #[9] false) := ⟨Tryz.underlying28⟩
instance : TyI Tryz.prog 28 1 8 (Value.nilFunc) := ⟨by kernel_rfl⟩
instance : TyU Tryz.prog 29 (TypeDesc.slice 9) := ⟨Tryz.underlying29⟩
instance : TyI Tryz.prog 29 1 24 (Value.slice none 0 0) := ⟨by kernel_rfl⟩
instance : TyU Tryz.prog 30 (TypeDesc.func #[24] #[29] false) := ⟨Tryz.underlying30⟩
instance : TyI Tryz.prog 30 1 8 (Value.nilFunc) := ⟨by kernel_rfl⟩
instance : TyU Tryz.prog 31 (TypeDesc.func #[24, 3] #[24, 25] false) := ⟨Tryz.underlying31⟩
instance : TyI Tryz.prog 31 1 8 (Value.nilFunc) := ⟨by kernel_rfl⟩
instance : TyU Tryz.prog 32 (TypeDesc.func #[9] #[9] false) := ⟨Tryz.underlying32⟩
instance : TyI Tryz.prog 32 1 8 (Value.nilFunc) := ⟨by kernel_rfl⟩
instance : TyU Tryz.prog 33 (TypeDesc.func #[3, 9] #[4] false) := ⟨Tryz.underlying33⟩
instance : TyI Tryz.prog 33 1 8 (Value.nilFunc) := ⟨by kernel_rfl⟩
instance : TyU Tryz.prog 34 (TypeDesc.func #[] #[4] false) := ⟨Tryz.underlying34⟩
instance : TyI Tryz.prog 34 1 8 (Value.nilFunc) := ⟨by kernel_rfl⟩
instance : TyU Tryz.prog 35 (TypeDesc.func #[5, 5, 5] #[4] false) := ⟨Tryz.underlying35⟩
instance : TyI Tryz.prog 35 1 8 (Value.nilFunc) := ⟨by kernel_rfl⟩
instance : TyU Tryz.prog 36 (TypeDesc.func #[3, 3] #[4] false) := ⟨Tryz.underlying36⟩
instance : TyI Tryz.prog 36 1 8 (Value.nilFunc) := ⟨by kernel_rfl⟩
instance : TyU Tryz.prog 37 (TypeDesc.slice 5) := ⟨Tryz.underlying37⟩
instance : TyI Tryz.prog 37 1 24 (Value.slice none 0 0) := ⟨by kernel_rfl⟩
instance : TyU Tryz.prog 38 (TypeDesc.func #[24, 3, 3] #[29] false) := ⟨Tryz.underlying38⟩
instance : TyI Tryz.prog 38 1 8 (Value.nilFunc) := ⟨by kernel_rfl⟩
instance : TyU Tryz.prog 39 (TypeDesc.func #[24] #[24] false) := ⟨Tryz.underlying39⟩
instance : TyI Tryz.prog 39 1 8 (Value.nilFunc) := ⟨by kernel_rfl⟩
instance : TyU Tryz.prog 40 (TypeDesc.func #[24] #[4] false) := ⟨Tryz.underlying40⟩
instance : TyI Tryz.prog 40 1 8 (Value.nilFunc) := ⟨by kernel_rfl⟩
instance : TyU Tryz.prog 41 (TypeDesc.func #[3, 9] #[9] false) := ⟨Tryz.underlying41⟩
instance : TyI Tryz.prog 41 1 8 (Value.nilFunc) := ⟨by kernel_rfl⟩
instance : TyU Tryz.prog 42 (TypeDesc.tuple #[9, 25]) := ⟨Tryz.underlying42⟩
instance : TyI Tryz.prog 42 1 0 (Value.tuple [Value.string ⟨#[]⟩, Value.int IntKind.i64 (0)].toArray) := ⟨by kernel_rfl⟩
instance : TyU Tryz.prog 43 (TypeDesc.func #[3, 9] #[9, 25] false) := ⟨Tryz.underlying43⟩
instance : TyI Tryz.prog 43 1 8 (Value.nilFunc) := ⟨by kernel_rfl⟩
instance : TyU Tryz.prog 44 (TypeDesc.slice 49) := ⟨Tryz.underlying44⟩
instance : TyI Tryz.prog 44 1 24 (Value.slice none 0 0) := ⟨by kernel_rfl⟩
instance : TyU Tryz.prog 45 (TypeDesc.tuple #[44, 24, 25]) := ⟨Tryz.underlying45⟩
instance : TyI Tryz.prog 45 1 0 (Value.tuple { toList := [Value.slice none 0 0, Value.agg [Value.string ⟨#[]⟩, Value.int IntKind.i64 (0), Value.int IntKind.i64 (0), Value.int IntKind.i64 (0), Value.slice none 0 0].toArray, Value.int IntKind.i64 (0)] }) := ⟨by kernel_rfl⟩
instance : TyU Tryz.prog 46 (TypeDesc.func #[24, 9] #[44, 24, 25] false) := ⟨Tryz.underlying46⟩
instance : TyI Tryz.prog 46 1 8 (Value.nilFunc) := ⟨by kernel_rfl⟩
instance : TyU Tryz.prog 47 (TypeDesc.func #[9, 9, 9] #[4] false) := ⟨Tryz.underlying47⟩
instance : TyI Tryz.prog 47 1 8 (Value.nilFunc) := ⟨by kernel_rfl⟩
instance : TyU Tryz.prog 48 (TypeDesc.struct #[{ name := "Index", type := 3, offset := 0, embedded := false, tag := "", pkgPath := "", byteOffset := 0 }, { name := "Raw", type := 9, offset := 1, embedded := false, tag := "", pkgPath := "", byteOffset := 8 }]) := ⟨Tryz.underlying48⟩
instance : TyI Tryz.prog 48 2 24 (Value.agg [Value.int IntKind.i64 (0), Value.string ⟨#[]⟩].toArray) := ⟨by kernel_rfl⟩
instance : TyU Tryz.prog 49 (TypeDesc.struct #[{ name := "Index", type := 3, offset := 0, embedded := false, tag := "", pkgPath := "", byteOffset := 0 }, { name := "Raw", type := 9, offset := 1, embedded := false, tag := "", pkgPath := "", byteOffset := 8 }]) := ⟨Tryz.underlying49⟩
instance : TyI Tryz.prog 49 2 24 (Value.agg [Value.int IntKind.i64 (0), Value.string ⟨#[]⟩].toArray) := ⟨by kernel_rfl⟩
instance : TyU Tryz.prog 50 (TypeDesc.func #[9, 3, 3] #[9] false) := ⟨Tryz.underlying50⟩
instance : TyI Tryz.prog 50 1 8 (Value.nilFunc) := ⟨by kernel_rfl⟩
instance : TyU Tryz.prog 51 (TypeDesc.func #[22] #[22] false) := ⟨Tryz.underlying51⟩
instance : TyI Tryz.prog 51 1 8 (Value.nilFunc) := ⟨by kernel_rfl⟩
instance : TyU Tryz.prog 52 (TypeDesc.func #[3] #[4] false) := ⟨Tryz.underlying52⟩
instance : TyI Tryz.prog 52 1 8 (Value.nilFunc) := ⟨by kernel_rfl⟩
instance : TyU Tryz.prog 53 (TypeDesc.func #[22, 52] #[4] false) := ⟨Tryz.underlying53⟩
instance : TyI Tryz.prog 53 1 8 (Value.nilFunc) := ⟨by kernel_rfl⟩
instance : TyU Tryz.prog 54 (TypeDesc.func #[56] #[9, 25] false) := ⟨Tryz.underlying54⟩
instance : TyI Tryz.prog 54 1 8 (Value.nilFunc) := ⟨by kernel_rfl⟩
instance : TyU Tryz.prog 55 (TypeDesc.struct #[{ name := "Code", type := 3, offset := 0, embedded := false, tag := "", pkgPath := "", byteOffset := 0 }, { name := "Raw", type := 9, offset := 1, embedded := false, tag := "", pkgPath := "", byteOffset := 8 }]) := ⟨Tryz.underlying55⟩
instance : TyI Tryz.prog 55 2 24 (Value.agg [Value.int IntKind.i64 (0), Value.string ⟨#[]⟩].toArray) := ⟨by kernel_rfl⟩
instance : TyU Tryz.prog 56 (TypeDesc.struct #[{ name := "Code", type := 3, offset := 0, embedded := false, tag := "", pkgPath := "", byteOffset := 0 }, { name := "Raw", type := 9, offset := 1, embedded := false, tag := "", pkgPath := "", byteOffset := 8 }]) := ⟨Tryz.underlying56⟩
instance : TyI Tryz.prog 56 2 24 (Value.agg [Value.int IntKind.i64 (0), Value.string ⟨#[]⟩].toArray) := ⟨by kernel_rfl⟩
instance : TyU Tryz.prog 57 (TypeDesc.int IntKind.u32) := ⟨Tryz.underlying57⟩
instance : TyI Tryz.prog 57 1 4 (Value.int IntKind.u32 (0)) := ⟨by kernel_rfl⟩
instance : TyU Tryz.prog 58 (TypeDesc.array 8 57) := ⟨Tryz.underlying58⟩
instance : TyI Tryz.prog 58 8 32 (Value.agg [Value.int IntKind.u32 (0), Value.int IntKind.u32 (0), Value.int IntKind.u32 (0), Value.int IntKind.u32 (0), Value.int IntKind.u32 (0), Value.int IntKind.u32 (0), Value.int IntKind.u32 (0), Value.int IntKind.u32 (0)].toArray) := ⟨by kernel_rfl⟩
instance : TyU Tryz.prog 59 (TypeDesc.func #[] #[58] false) := ⟨Tryz.underlying59⟩
instance : TyI Tryz.prog 59 1 8 (Value.nilFunc) := ⟨by kernel_rfl⟩
instance : TyU Tryz.prog 60 (TypeDesc.array 64 57) := ⟨Tryz.underlying60⟩
instance : TyI Tryz.prog 60 64 256 (Value.agg [Value.int IntKind.u32 (0), Value.int IntKind.u32 (0), Value.int IntKind.u32 (0), Value.int IntKind.u32 (0), Value.int IntKind.u32 (0), Value.int IntKind.u32 (0), Value.int IntKind.u32 (0), Value.int IntKind.u32 (0), Value.int IntKind.u32 (0), Value.int IntKind.u32 (0), Value.int IntKind.u32 (0), Value.int IntKind.u32 (0), Value.int IntKind.u32 (0), Value.int IntKind.u32 (0), Value.int IntKind.u32 (0), Value.int IntKind.u32 (0), Value.int IntKind.u32 (0), Value.int IntKind.u32 (0), Value.int IntKind.u32 (0), Value.int IntKind.u32 (0), Value.int IntKind.u32 (0), Value.int IntKind.u32 (0), Value.int IntKind.u32 (0), Value.int IntKind.u32 (0), Value.int IntKind.u32 (0), Value.int IntKind.u32 (0), Value.int IntKind.u32 (0), Value.int IntKind.u32 (0), Value.int IntKind.u32 (0), Value.int IntKind.u32 (0), Value.int IntKind.u32 (0), Value.int IntKind.u32 (0), Value.int IntKind.u32 (0), Value.int IntKind.u32 (0), Value.int IntKind.u32 (0), Value.int IntKind.u32 (0), Value.int IntKind.u32 (0), Value.int IntKind.u32 (0), Value.int IntKind.u32 (0), Value.int IntKind.u32 (0), Value.int IntKind.u32 (0), Value.int IntKind.u32 (0), Value.int IntKind.u32 (0), Value.int IntKind.u32 (0), Value.int IntKind.u32 (0), Value.int IntKind.u32 (0), Value.int IntKind.u32 (0), Value.int IntKind.u32 (0), Value.int IntKind.u32 (0), Value.int IntKind.u32 (0), Value.int IntKind.u32 (0), Value.int IntKind.u32 (0), Value.int IntKind.u32 (0), Value.int IntKind.u32 (0), Value.int IntKind.u32 (0), Value.int IntKind.u32 (0), Value.int IntKind.u32 (0), Value.int IntKind.u32 (0), Value.int IntKind.u32 (0), Value.int IntKind.u32 (0), Value.int IntKind.u32 (0), Value.int IntKind.u32 (0), Value.int IntKind.u32 (0), Value.int IntKind.u32 (0)].toArray) := ⟨by kernel_rfl⟩
instance : TyU Tryz.prog 61 (TypeDesc.func #[] #[60] false) := ⟨Tryz.underlying61⟩
instance : TyI Tryz.prog 61 1 8 (Value.nilFunc) := ⟨by kernel_rfl⟩
instance : TyU Tryz.prog 62 (TypeDesc.func #[58, 60, 9] #[58] false) := ⟨Tryz.underlying62⟩
instance : TyI Tryz.prog 62 1 8 (Value.nilFunc) := ⟨by kernel_rfl⟩
instance : TyU Tryz.prog 63 (TypeDesc.int IntKind.u64) := ⟨Tryz.underlying63⟩
instance : TyI Tryz.prog 63 1 8 (Value.int IntKind.u64 (0)) := ⟨by kernel_rfl⟩
instance : TyU Tryz.prog 64 (TypeDesc.tuple #[56, 3, 25]) := ⟨Tryz.underlying64⟩
instance : TyI Tryz.prog 64 1 0 (Value.tuple { toList := [Value.agg [Value.int IntKind.i64 (0), Value.string ⟨#[]⟩].toArray, Value.int IntKind.i64 (0), Value.int IntKind.i64 (0)] }) := ⟨by kernel_rfl⟩
instance : TyU Tryz.prog 65 (TypeDesc.func #[9] #[56, 3, 25] false) := ⟨Tryz.underlying65⟩
instance : TyI Tryz.prog 65 1 8 (Value.nilFunc) := ⟨by kernel_rfl⟩
instance : TyU Tryz.prog 66 (TypeDesc.slice 29) := ⟨Tryz.underlying66⟩
instance : TyI Tryz.prog 66 1 24 (Value.slice none 0 0) := ⟨by kernel_rfl⟩
instance : TyU Tryz.prog 67 (TypeDesc.func #[9] #[66] false) := ⟨Tryz.underlying67⟩
instance : TyI Tryz.prog 67 1 8 (Value.nilFunc) := ⟨by kernel_rfl⟩
instance : TyU Tryz.prog 68 (TypeDesc.func #[22] #[3] false) := ⟨Tryz.underlying68⟩
instance : TyI Tryz.prog 68 1 8 (Value.nilFunc) := ⟨by kernel_rfl⟩
instance : TyU Tryz.prog 69 (TypeDesc.func #[9, 3, 9] #[9, 25] false) := ⟨Tryz.underlying69⟩
instance : TyI Tryz.prog 69 1 8 (Value.nilFunc) := ⟨by kernel_rfl⟩
instance : TyU Tryz.prog 70 (TypeDesc.func #[9, 9] #[9, 25] false) := ⟨Tryz.underlying70⟩
instance : TyI Tryz.prog 70 1 8 (Value.nilFunc) := ⟨by kernel_rfl⟩
instance : TyU Tryz.prog 71 (TypeDesc.func #[9, 9] #[9] false) := ⟨Tryz.underlying71⟩
instance : TyI Tryz.prog 71 1 8 (Value.nilFunc) := ⟨by kernel_rfl⟩
instance : TyU Tryz.prog 72 (TypeDesc.func #[29] #[9] false) := ⟨Tryz.underlying72⟩
instance : TyI Tryz.prog 72 1 8 (Value.nilFunc) := ⟨by kernel_rfl⟩
instance : TyU Tryz.prog 73 (TypeDesc.func #[3] #[9] false) := ⟨Tryz.underlying73⟩
instance : TyI Tryz.prog 73 1 8 (Value.nilFunc) := ⟨by kernel_rfl⟩
instance : TyU Tryz.prog 74 (TypeDesc.array 8 57) := ⟨Tryz.underlying74⟩
instance : TyI Tryz.prog 74 8 32 (Value.agg [Value.int IntKind.u32 (0), Value.int IntKind.u32 (0), Value.int IntKind.u32 (0), Value.int IntKind.u32 (0), Value.int IntKind.u32 (0), Value.int IntKind.u32 (0), Value.int IntKind.u32 (0), Value.int IntKind.u32 (0)].toArray) := ⟨by kernel_rfl⟩
instance : TyU Tryz.prog 75 (TypeDesc.func #[] #[74] false) := ⟨Tryz.underlying75⟩
instance : TyI Tryz.prog 75 1 8 (Value.nilFunc) := ⟨by kernel_rfl⟩
instance : TyU Tryz.prog 76 (TypeDesc.pointer 60) := ⟨Tryz.underlying76⟩
instance : TyI Tryz.prog 76 1 8 (Value.pointer none) := ⟨by kernel_rfl⟩
instance : TyU Tryz.prog 77 (TypeDesc.func #[] #[76] false) := ⟨Tryz.underlying77⟩
instance : TyI Tryz.prog 77 1 8 (Value.nilFunc) := ⟨by kernel_rfl⟩
instance : TyU Tryz.prog 78 (TypeDesc.func #[9, 3] #[9] false) := ⟨Tryz.underlying78⟩
instance : TyI Tryz.prog 78 1 8 (Value.nilFunc) := ⟨by kernel_rfl⟩
instance : TyU Tryz.prog 79 (TypeDesc.func #[9, 76] #[] false) := ⟨Tryz.underlying79⟩
instance : TyI Tryz.prog 79 1 8 (Value.nilFunc) := ⟨by kernel_rfl⟩
instance : TyU Tryz.prog 80 (TypeDesc.array 32 5) := ⟨Tryz.underlying80⟩
instance : TyI Tryz.prog 80 32 32 (Value.agg [Value.int IntKind.u8 (0), Value.int IntKind.u8 (0), Value.int IntKind.u8 (0), Value.int IntKind.u8 (0), Value.int IntKind.u8 (0), Value.int IntKind.u8 (0), Value.int IntKind.u8 (0), Value.int IntKind.u8 (0), Value.int IntKind.u8 (0), Value.int IntKind.u8 (0), Value.int IntKind.u8 (0), Value.int IntKind.u8 (0), Value.int IntKind.u8 (0), Value.int IntKind.u8 (0), Value.int IntKind.u8 (0), Value.int IntKind.u8 (0), Value.int IntKind.u8 (0), Value.int IntKind.u8 (0), Value.int IntKind.u8 (0), Value.int IntKind.u8 (0), Value.int IntKind.u8 (0), Value.int IntKind.u8 (0), Value.int IntKind.u8 (0), Value.int IntKind.u8 (0), Value.int IntKind.u8 (0), Value.int IntKind.u8 (0), Value.int IntKind.u8 (0), Value.int IntKind.u8 (0), Value.int IntKind.u8 (0), Value.int IntKind.u8 (0), Value.int IntKind.u8 (0), Value.int IntKind.u8 (0)].toArray) := ⟨by kernel_rfl⟩
instance : TyU Tryz.prog 81 (TypeDesc.array 4 29) := ⟨Tryz.underlying81⟩
instance : TyI Tryz.prog 81 4 96 (Value.agg [Value.slice none 0 0, Value.slice none 0 0, Value.slice none 0 0, Value.slice none 0 0].toArray) := ⟨by kernel_rfl⟩
instance : TyU Tryz.prog 82 (TypeDesc.func #[9] #[81] false) := ⟨Tryz.underlying82⟩
instance : TyI Tryz.prog 82 1 8 (Value.nilFunc) := ⟨by kernel_rfl⟩
instance : TyU Tryz.prog 83 (TypeDesc.func #[22, 52] #[3] false) := ⟨Tryz.underlying83⟩
instance : TyI Tryz.prog 83 1 8 (Value.nilFunc) := ⟨by kernel_rfl⟩
instance : TyU Tryz.prog 84 (TypeDesc.tuple #[9, 4]) := ⟨Tryz.underlying84⟩
instance : TyI Tryz.prog 84 1 0 (Value.tuple [Value.string ⟨#[]⟩, Value.bool false].toArray) := ⟨by kernel_rfl⟩
instance : TyU Tryz.prog 85 (TypeDesc.func #[3] #[9, 4] false) := ⟨Tryz.underlying85⟩
instance : TyI Tryz.prog 85 1 8 (Value.nilFunc) := ⟨by kernel_rfl⟩
instance : TyU Tryz.prog 86 (TypeDesc.func #[3] #[3] false) := ⟨Tryz.underlying86⟩
instance : TyI Tryz.prog 86 1 8 (Value.nilFunc) := ⟨by kernel_rfl⟩
instance : TyU Tryz.prog 87 (TypeDesc.func #[9] #[9, 25] false) := ⟨Tryz.underlying87⟩
instance : TyI Tryz.prog 87 1 8 (Value.nilFunc) := ⟨by kernel_rfl⟩
instance : TyU Tryz.prog 88 (TypeDesc.int IntKind.u64) := ⟨Tryz.underlying88⟩
instance : TyI Tryz.prog 88 1 8 (Value.int IntKind.u64 (0)) := ⟨by kernel_rfl⟩
instance : TyU Tryz.prog 89 (TypeDesc.func #[9] #[57] false) := ⟨Tryz.underlying89⟩
instance : TyI Tryz.prog 89 1 8 (Value.nilFunc) := ⟨by kernel_rfl⟩
instance : TyU Tryz.prog 90 (TypeDesc.func #[57, 3] #[57] false) := ⟨Tryz.underlying90⟩
instance : TyI Tryz.prog 90 1 8 (Value.nilFunc) := ⟨by kernel_rfl⟩
instance : TyU Tryz.prog 91 (TypeDesc.func #[9] #[22] false) := ⟨Tryz.underlying91⟩
instance : TyI Tryz.prog 91 1 8 (Value.nilFunc) := ⟨by kernel_rfl⟩
instance : TyU Tryz.prog 92 (TypeDesc.func #[9, 3, 3, 3] #[9] false) := ⟨Tryz.underlying92⟩
instance : TyI Tryz.prog 92 1 8 (Value.nilFunc) := ⟨by kernel_rfl⟩
instance : TyU Tryz.prog 93 (TypeDesc.pointer 95) := ⟨Tryz.underlying93⟩
instance : TyI Tryz.prog 93 1 8 (Value.pointer none) := ⟨by kernel_rfl⟩
instance : TyU Tryz.prog 94 (TypeDesc.struct #[{ name := "addr", type := 93, offset := 0, embedded := false, tag := "", pkgPath := "strings", byteOffset := 0 }, { name := "buf", type := 37, offset := 1, embedded := false, tag := "", pkgPath := "strings", byteOffset := 8 }]) := ⟨Tryz.underlying94⟩
instance : TyI Tryz.prog 94 2 32 (Value.agg [Value.pointer none, Value.slice none 0 0].toArray) := ⟨by kernel_rfl⟩
instance : TyU Tryz.prog 95 (TypeDesc.struct #[{ name := "addr", type := 93, offset := 0, embedded := false, tag := "", pkgPath := "strings", byteOffset := 0 }, { name := "buf", type := 37, offset := 1, embedded := false, tag := "", pkgPath := "strings", byteOffset := 8 }]) := ⟨Tryz.underlying95⟩
instance : TyI Tryz.prog 95 2 32 (Value.agg [Value.pointer none, Value.slice none 0 0].toArray) := ⟨by kernel_rfl⟩
instance : TyU Tryz.prog 96 (TypeDesc.interface #[("Error", 100)]) := ⟨Tryz.underlying96⟩
instance : TyI Tryz.prog 96 1 16 (Value.nilIface) := ⟨by kernel_rfl⟩
instance : TyU Tryz.prog 97 (TypeDesc.interface #[("Error", 100)]) := ⟨Tryz.underlying97⟩
instance : TyI Tryz.prog 97 1 16 (Value.nilIface) := ⟨by kernel_rfl⟩
instance : TyU Tryz.prog 98 (TypeDesc.tuple #[3, 97]) := ⟨Tryz.underlying98⟩
instance : TyI Tryz.prog 98 1 0 (Value.tuple [Value.int IntKind.i64 (0), Value.nilIface].toArray) := ⟨by kernel_rfl⟩
instance : TyU Tryz.prog 99 (TypeDesc.func #[9] #[3, 97] false) := ⟨Tryz.underlying99⟩
instance : TyI Tryz.prog 99 1 8 (Value.nilFunc) := ⟨by kernel_rfl⟩
instance : TyU Tryz.prog 100 (TypeDesc.func #[] #[9] false) := ⟨Tryz.underlying100⟩
instance : TyI Tryz.prog 100 1 8 (Value.nilFunc) := ⟨by kernel_rfl⟩
instance : TyU Tryz.prog 101 (TypeDesc.struct #[{ name := "code", type := 9, offset := 0, embedded := false, tag := "", pkgPath := "keyevent/primitive", byteOffset := 0 }, { name := "raw", type := 3, offset := 1, embedded := false, tag := "", pkgPath := "keyevent/primitive", byteOffset := 16 }]) := ⟨Tryz.underlying101⟩
instance : TyI Tryz.prog 101 2 24 (Value.agg [Value.string ⟨#[]⟩, Value.int IntKind.i64 (0)].toArray) := ⟨by kernel_rfl⟩
instance : TyU Tryz.prog 102 (TypeDesc.struct #[{ name := "code", type := 9, offset := 0, embedded := false, tag := "", pkgPath := "keyevent/primitive", byteOffset := 0 }, { name := "raw", type := 3, offset := 1, embedded := false, tag := "", pkgPath := "keyevent/primitive", byteOffset := 16 }]) := ⟨Tryz.underlying102⟩
instance : TyI Tryz.prog 102 2 24 (Value.agg [Value.string ⟨#[]⟩, Value.int IntKind.i64 (0)].toArray) := ⟨by kernel_rfl⟩
instance : TyU Tryz.prog 103 (TypeDesc.tuple #[102, 4]) := ⟨Tryz.underlying103⟩
instance : TyI Tryz.prog 103 1 0 (Value.tuple { toList := [Value.agg [Value.string ⟨#[]⟩, Value.int IntKind.i64 (0)].toArray, Value.bool false] }) := ⟨by kernel_rfl⟩
instance : TyU Tryz.prog 104 (TypeDesc.map 3 102) := ⟨Tryz.underlying104⟩
instance : TyI Tryz.prog 104 1 8 (Value.map none) := ⟨by kernel_rfl⟩
instance : TyU Tryz.prog 105 (TypeDesc.func #[] #[104] false) := ⟨Tryz.underlying105⟩
instance : TyI Tryz.prog 105 1 8 (Value.nilFunc) := ⟨by kernel_rfl⟩
instance : TyU Tryz.prog 106 (TypeDesc.func #[] #[3] false) := ⟨Tryz.underlying106⟩
instance : TyI Tryz.prog 106 1 8 (Value.nilFunc) := ⟨by kernel_rfl⟩
instance : TyU Tryz.prog 107 (TypeDesc.func #[5] #[97] false) := ⟨Tryz.underlying107⟩
instance : TyI Tryz.prog 107 1 8 (Value.nilFunc) := ⟨by kernel_rfl⟩
instance : TyU Tryz.prog 108 (TypeDesc.pointer 74) := ⟨Tryz.underlying108⟩
instance : TyI Tryz.prog 108 1 8 (Value.pointer none) := ⟨by kernel_rfl⟩
instance : TyU Tryz.prog 109 (TypeDesc.tuple #[3, 4]) := ⟨Tryz.underlying109⟩
instance : TyI Tryz.prog 109 1 0 (Value.tuple [Value.int IntKind.i64 (0), Value.bool false].toArray) := ⟨by kernel_rfl⟩
instance : TyU Tryz.prog 110 (TypeDesc.func #[5] #[3, 4] false) := ⟨Tryz.underlying110⟩
instance : TyI Tryz.prog 110 1 8 (Value.nilFunc) := ⟨by kernel_rfl⟩
instance : TyU Tryz.prog 111 (TypeDesc.func #[9, 22] #[9] false) := ⟨Tryz.underlying111⟩
instance : TyI Tryz.prog 111 1 8 (Value.nilFunc) := ⟨by kernel_rfl⟩
instance : TyU Tryz.prog 112 (TypeDesc.pointer 5) := ⟨Tryz.underlying112⟩
instance : TyI Tryz.prog 112 1 8 (Value.pointer none) := ⟨by kernel_rfl⟩
instance : TyU Tryz.prog 113 (TypeDesc.tuple #[63, 63]) := ⟨Tryz.underlying113⟩
instance : TyI Tryz.prog 113 1 0 (Value.tuple [Value.int IntKind.u64 (0), Value.int IntKind.u64 (0)].toArray) := ⟨by kernel_rfl⟩
instance : TyU Tryz.prog 114 (TypeDesc.func #[63, 63] #[63, 63] false) := ⟨Tryz.underlying114⟩
instance : TyI Tryz.prog 114 1 8 (Value.nilFunc) := ⟨by kernel_rfl⟩
instance : TyU Tryz.prog 115 (TypeDesc.func #[9, 9] #[4] false) := ⟨Tryz.underlying115⟩
instance : TyI Tryz.prog 115 1 8 (Value.nilFunc) := ⟨by kernel_rfl⟩
instance : TyU Tryz.prog 116 (TypeDesc.func #[3] #[] false) := ⟨Tryz.underlying116⟩
instance : TyI Tryz.prog 116 1 8 (Value.nilFunc) := ⟨by kernel_rfl⟩
instance : TyU Tryz.prog 117 (TypeDesc.func #[3, 3] #[9] false) := ⟨Tryz.underlying117⟩
instance : TyI Tryz.prog 117 1 8 (Value.nilFunc) := ⟨by kernel_rfl⟩
instance : TyU Tryz.prog 118 TypeDesc.unsafePointer := ⟨Tryz.underlying118⟩
instance : TyI Tryz.prog 118 1 8 (Value.pointer none) := ⟨by kernel_rfl⟩
instance : TyU Tryz.prog 119 (TypeDesc.func #[118] #[118] false) := ⟨Tryz.underlying119⟩
instance : TyI Tryz.prog 119 1 8 (Value.nilFunc) := ⟨by kernel_rfl⟩
instance : TyU Tryz.prog 120 (TypeDesc.tuple #[57, 57]) := ⟨Tryz.underlying120⟩
instance : TyI Tryz.prog 120 1 0 (Value.tuple [Value.int IntKind.u32 (0), Value.int IntKind.u32 (0)].toArray) := ⟨by kernel_rfl⟩
instance : TyU Tryz.prog 121 (TypeDesc.func #[57, 57] #[57, 57] false) := ⟨Tryz.underlying121⟩
instance : TyI Tryz.prog 121 1 8 (Value.nilFunc) := ⟨by kernel_rfl⟩
instance : TyU Tryz.prog 122 (TypeDesc.tuple #[88, 88]) := ⟨Tryz.underlying122⟩
instance : TyI Tryz.prog 122 1 0 (Value.tuple [Value.int IntKind.u64 (0), Value.int IntKind.u64 (0)].toArray) := ⟨by kernel_rfl⟩
instance : TyU Tryz.prog 123 (TypeDesc.func #[88, 88] #[88, 88] false) := ⟨Tryz.underlying123⟩
instance : TyI Tryz.prog 123 1 8 (Value.nilFunc) := ⟨by kernel_rfl⟩
instance : TyU Tryz.prog 124 (TypeDesc.func #[3] #[37] false) := ⟨Tryz.underlying124⟩
instance : TyI Tryz.prog 124 1 8 (Value.nilFunc) := ⟨by kernel_rfl⟩
instance : TyU Tryz.prog 125 (TypeDesc.struct #[{ name := "_interface", type := 17, offset := 0, embedded := false, tag := "", pkgPath := "runtime", byteOffset := 0 }, { name := "concrete", type := 17, offset := 1, embedded := false, tag := "", pkgPath := "runtime", byteOffset := 8 }, { name := "asserted", type := 17, offset := 2, embedded := false, tag := "", pkgPath := "runtime", byteOffset := 16 }, { name := "missingMethod", type := 9, offset := 3, embedded := false, tag := "", pkgPath := "runtime", byteOffset := 24 }]) := ⟨Tryz.underlying125⟩
instance : TyI Tryz.prog 125 4 40 (Value.agg [Value.pointer none, Value.pointer none, Value.pointer none, Value.string ⟨#[]⟩].toArray) := ⟨by kernel_rfl⟩
instance : TyU Tryz.prog 126 (TypeDesc.struct #[{ name := "_interface", type := 17, offset := 0, embedded := false, tag := "", pkgPath := "runtime", byteOffset := 0 }, { name := "concrete", type := 17, offset := 1, embedded := false, tag := "", pkgPath := "runtime", byteOffset := 8 }, { name := "asserted", type := 17, offset := 2, embedded := false, tag := "", pkgPath := "runtime", byteOffset := 16 }, { name := "missingMethod", type := 9, offset := 3, embedded := false, tag := "", pkgPath := "runtime", byteOffset := 24 }]) := ⟨Tryz.underlying126⟩
instance : TyI Tryz.prog 126 4 40 (Value.agg [Value.pointer none, Value.pointer none, Value.pointer none, Value.string ⟨#[]⟩].toArray) := ⟨by kernel_rfl⟩
instance : TyU Tryz.prog 127 (TypeDesc.array 0 16) := ⟨Tryz.underlying127⟩
instance : TyI Tryz.prog 127 0 0 (Value.agg [].toArray) := ⟨by kernel_rfl⟩
instance : TyU Tryz.prog 128 (TypeDesc.struct #[{ name := "_", type := 127, offset := 0, embedded := false, tag := "", pkgPath := "runtime", byteOffset := 0 }]) := ⟨Tryz.underlying128⟩
instance : TyI Tryz.prog 128 0 0 (Value.agg [].toArray) := ⟨by kernel_rfl⟩
instance : TyU Tryz.prog 129 (TypeDesc.struct #[{ name := "_", type := 127, offset := 0, embedded := false, tag := "", pkgPath := "runtime", byteOffset := 0 }]) := ⟨Tryz.underlying129⟩
instance : TyI Tryz.prog 129 0 0 (Value.agg [].toArray) := ⟨by kernel_rfl⟩
instance : TyU Tryz.prog 130 (TypeDesc.int IntKind.u8) := ⟨Tryz.underlying130⟩
instance : TyI Tryz.prog 130 1 1 (Value.int IntKind.u8 (0)) := ⟨by kernel_rfl⟩
instance : TyU Tryz.prog 131 (TypeDesc.int IntKind.u8) := ⟨Tryz.underlying131⟩
instance : TyI Tryz.prog 131 1 1 (Value.int IntKind.u8 (0)) := ⟨by kernel_rfl⟩
instance : TyU Tryz.prog 132 (TypeDesc.func #[118, 118] #[4] false) := ⟨Tryz.underlying132⟩
instance : TyI Tryz.prog 132 1 8 (Value.nilFunc) := ⟨by kernel_rfl⟩
instance : TyU Tryz.prog 133 (TypeDesc.int IntKind.i32) := ⟨Tryz.underlying133⟩
instance : TyI Tryz.prog 133 1 4 (Value.int IntKind.i32 (0)) := ⟨by kernel_rfl⟩
instance : TyU Tryz.prog 134 (TypeDesc.int IntKind.i32) := ⟨Tryz.underlying134⟩
instance : TyI Tryz.prog 134 1 4 (Value.int IntKind.i32 (0)) := ⟨by kernel_rfl⟩
instance : TyU Tryz.prog 135 (TypeDesc.struct #[{ name := "Size_", type := 12, offset := 0, embedded := false, tag := "", pkgPath := "", byteOffset := 0 }, { name := "PtrBytes", type := 12, offset := 1, embedded := false, tag := "", pkgPath := "", byteOffset := 8 }, { name := "Hash", type := 57, offset := 2, embedded := false, tag := "", pkgPath := "", byteOffset := 16 }, { name := "TFlag", type := 130, offset := 3, embedded := false, tag := "", pkgPath := "", byteOffset := 20 }, { name := "Align_", type := 5, offset := 4, embedded := false, tag := "", pkgPath := "", byteOffset := 21 }, { name := "FieldAlign_", type := 5, offset := 5, embedded := false, tag := "", pkgPath := "", byteOffset := 22 }, { name := "Kind_", type := 131, offset := 6, embedded := false, tag := "", pkgPath := "", byteOffset := 23 }, { name := "Equal", type := 132, offset := 7, embedded := false, tag := "", pkgPath := "", byteOffset := 24 }, { name := "GCData", type := 112, offset := 8, embedded := false, tag := "", pkgPath := "", byteOffset := 32 }, { name := "Str", type := 133, offset := 9, embedded := false, tag := "", pkgPath := "", byteOffset := 40 }, { name := "PtrToThis", type := 134, offset := 10, embedded := false, tag := "", pkgPath := "", byteOffset := 44 }]) := ⟨Tryz.underlying135⟩
instance : TyI Tryz.prog 135 11 48 (Value.agg [Value.int IntKind.u64 (0), Value.int IntKind.u64 (0), Value.int IntKind.u32 (0), Value.int IntKind.u8 (0), Value.int IntKind.u8 (0), Value.int IntKind.u8 (0), Value.int IntKind.u8 (0), Value.nilFunc, Value.pointer none, Value.int IntKind.i32 (0), Value.int IntKind.i32 (0)].toArray) := ⟨by kernel_rfl⟩
instance : TyU Tryz.prog 136 (TypeDesc.struct #[{ name := "Size_", type := 12, offset := 0, embedded := false, tag := "", pkgPath := "", byteOffset := 0 }, { name := "PtrBytes", type := 12, offset := 1, embedded := false, tag := "", pkgPath := "", byteOffset := 8 }, { name := "Hash", type := 57, offset := 2, embedded := false, tag := "", pkgPath := "", byteOffset := 16 }, { name := "TFlag", type := 130, offset := 3, embedded := false, tag := "", pkgPath := "", byteOffset := 20 }, { name := "Align_", type := 5, offset := 4, embedded := false, tag := "", pkgPath := "", byteOffset := 21 }, { name := "FieldAlign_", type := 5, offset := 5, embedded := false, tag := "", pkgPath := "", byteOffset := 22 }, { name := "Kind_", type := 131, offset := 6, embedded := false, tag := "", pkgPath := "", byteOffset := 23 }, { name := "Equal", type := 132, offset := 7, embedded := false, tag := "", pkgPath := "", byteOffset := 24 }, { name := "GCData", type := 112, offset := 8, embedded := false, tag := "", pkgPath := "", byteOffset := 32 }, { name := "Str", type := 133, offset := 9, embedded := false, tag := "", pkgPath := "", byteOffset := 40 }, { name := "PtrToThis", type := 134, offset := 10, embedded := false, tag := "", pkgPath := "", byteOffset := 44 }]) := ⟨Tryz.underlying136⟩
instance : TyI Tryz.prog 136 11 48 (Value.agg [Value.int IntKind.u64 (0), Value.int IntKind.u64 (0), Value.int IntKind.u32 (0), Value.int IntKind.u8 (0), Value.int IntKind.u8 (0), Value.int IntKind.u8 (0), Value.int IntKind.u8 (0), Value.nilFunc, Value.pointer none, Value.int IntKind.i32 (0), Value.int IntKind.i32 (0)].toArray) := ⟨by kernel_rfl⟩
instance : FnB Tryz.prog 3 := ⟨⟨Tryz.f3, Tryz.func3, by kernel_rfl, by kernel_rfl⟩⟩
instance : FnB Tryz.prog 4 := ⟨⟨Tryz.f4, Tryz.func4, by kernel_rfl, by kernel_rfl⟩⟩
instance : FnB Tryz.prog 5 := ⟨⟨Tryz.f5, Tryz.func5, by kernel_rfl, by kernel_rfl⟩⟩
instance : FnB Tryz.prog 6 := ⟨⟨Tryz.f6, Tryz.func6, by kernel_rfl, by kernel_rfl⟩⟩
instance : FnB Tryz.prog 7 := ⟨⟨Tryz.f7, Tryz.func7, by kernel_rfl, by kernel_rfl⟩⟩
instance : FnB Tryz.prog 8 := ⟨⟨Tryz.f8, Tryz.func8, by kernel_rfl, by kernel_rfl⟩⟩
instance : FnB Tryz.prog 9 := ⟨⟨Tryz.f9, Tryz.func9, by kernel_rfl, by kernel_rfl⟩⟩
instance : FnB Tryz.prog 10 := ⟨⟨Tryz.f10, Tryz.func10, by kernel_rfl, by kernel_rfl⟩⟩
instance : FnB Tryz.prog 11 := ⟨⟨Tryz.f11, Tryz.func11, by kernel_rfl, by kernel_rfl⟩⟩
instance : FnB Tryz.prog 12 := ⟨⟨Tryz.f12, Tryz.func12, by kernel_rfl, by kernel_rfl⟩⟩
instance : FnB Tryz.prog 13 := ⟨⟨Tryz.f13, Tryz.func13, by kernel_rfl, by kernel_rfl⟩⟩
instance : FnB Tryz.prog 14 := ⟨⟨Tryz.f14, Tryz.func14, by kernel_rfl, by kernel_rfl⟩⟩
instance : FnB Tryz.prog 15 := ⟨⟨Tryz.f15, Tryz.func15, by kernel_rfl, by kernel_rfl⟩⟩
instance : FnB Tryz.prog 16 := ⟨⟨Tryz.f16, Tryz.func16, by kernel_rfl, by kernel_rfl⟩⟩
instance : FnB Tryz.prog 17 := ⟨⟨Tryz.f17, Tryz.func17, by kernel_rfl, by kernel_rfl⟩⟩
instance : FnB Tryz.prog 18 := ⟨⟨Tryz.f18, Tryz.func18, by kernel_rfl, by kernel_rfl⟩⟩
instance : FnB Tryz.prog 19 := ⟨⟨Tryz.f19, Tryz.func19, by kernel_rfl, by kernel_rfl⟩⟩
instance : FnB Tryz.prog 20 := ⟨⟨Tryz.f20, Tryz.func20, by kernel_rfl, by kernel_rfl⟩⟩
instance : FnB Tryz.prog 21 := ⟨⟨Tryz.f21, Tryz.func21, by kernel_rfl, by kernel_rfl⟩⟩
instance : FnB Tryz.prog 22 := ⟨⟨Tryz.f22, Tryz.func22, by kernel_rfl, by kernel_rfl⟩⟩
instance : FnB Tryz.prog 23 := ⟨⟨Tryz.f23, Tryz.func23, by kernel_rfl, by kernel_rfl⟩⟩
instance : FnB Tryz.prog 24 := ⟨⟨Tryz.f24, Tryz.func24, by kernel_rfl, by kernel_rfl⟩⟩
instance : FnB Tryz.prog 25 := ⟨⟨Tryz.f25, Tryz.func25, by kernel_rfl, by kernel_rfl⟩⟩
instance : FnB Tryz.prog 26 := ⟨⟨Tryz.f26, Tryz.func26, by kernel_rfl, by kernel_rfl⟩⟩
instance : FnB Tryz.prog 27 := ⟨⟨Tryz.f27, Tryz.func27, by kernel_rfl, by kernel_rfl⟩⟩
instance : FnB Tryz.prog 28 := ⟨⟨Tryz.f28, Tryz.func28, by kernel_rfl, by kernel_rfl⟩⟩
instance : FnB Tryz.prog 29 := ⟨⟨Tryz.f29, Tryz.func29, by kernel_rfl, by kernel_rfl⟩⟩
instance : FnB Tryz.prog 30 := ⟨⟨Tryz.f30, Tryz.func30, by kernel_rfl, by kernel_rfl⟩⟩
instance : FnB Tryz.prog 31 := ⟨⟨Tryz.f31, Tryz.func31, by kernel_rfl, by kernel_rfl⟩⟩
instance : FnB Tryz.prog 32 := ⟨⟨Tryz.f32, Tryz.func32, by kernel_rfl, by kernel_rfl⟩⟩
instance : FnB Tryz.prog 33 := ⟨⟨Tryz.f33, Tryz.func33, by kernel_rfl, by kernel_rfl⟩⟩
instance : FnB Tryz.prog 34 := ⟨⟨Tryz.f34, Tryz.func34, by kernel_rfl, by kernel_rfl⟩⟩
instance : FnB Tryz.prog 35 := ⟨⟨Tryz.f35, Tryz.func35, by kernel_rfl, by kernel_rfl⟩⟩
instance : FnB Tryz.prog 36 := ⟨⟨Tryz.f36, Tryz.func36, by kernel_rfl, by kernel_rfl⟩⟩
instance : FnB Tryz.prog 37 := ⟨⟨Tryz.f37, Tryz.func37, by kernel_rfl, by kernel_rfl⟩⟩
instance : FnB Tryz.prog 38 := ⟨⟨Tryz.f38, Tryz.func38, by kernel_rfl, by kernel_rfl⟩⟩
instance : FnB Tryz.prog 39 := ⟨⟨Tryz.f39, Tryz.func39, by kernel_rfl, by kernel_rfl⟩⟩
instance : FnB Tryz.prog 40 := ⟨⟨Tryz.f40, Tryz.func40, by kernel_rfl, by kernel_rfl⟩⟩
instance : FnB Tryz.prog 41 := ⟨⟨Tryz.f41, Tryz.func41, by kernel_rfl, by kernel_rfl⟩⟩
instance : FnB Tryz.prog 42 := ⟨⟨Tryz.f42, Tryz.func42, by kernel_rfl, by kernel_rfl⟩⟩
instance : FnB Tryz.prog 43 := ⟨⟨Tryz.f43, Tryz.func43, by kernel_rfl, by kernel_rfl⟩⟩
instance : FnB Tryz.prog 44 := ⟨⟨Tryz.f44, Tryz.func44, by kernel_rfl, by kernel_rfl⟩⟩
instance : FnB Tryz.prog 45 := ⟨⟨Tryz.f45, Tryz.func45, by kernel_rfl, by kernel_rfl⟩⟩
instance : FnB Tryz.prog 46 := ⟨⟨Tryz.f46, Tryz.func46, by kernel_rfl, by kernel_rfl⟩⟩
instance : FnB Tryz.prog 47 := ⟨⟨Tryz.f47, Tryz.func47, by kernel_rfl, by kernel_rfl⟩⟩
instance : FnB Tryz.prog 48 := ⟨⟨Tryz.f48, Tryz.func48, by kernel_rfl, by kernel_rfl⟩⟩
instance : FnB Tryz.prog 49 := ⟨⟨Tryz.f49, Tryz.func49, by kernel_rfl, by kernel_rfl⟩⟩
instance : FnB Tryz.prog 50 := ⟨⟨Tryz.f50, Tryz.func50, by kernel_rfl, by kernel_rfl⟩⟩
instance : FnB Tryz.prog 51 := ⟨⟨Tryz.f51, Tryz.func51, by kernel_rfl, by kernel_rfl⟩⟩
instance : FnB Tryz.prog 52 := ⟨⟨Tryz.f52, Tryz.func52, by kernel_rfl, by kernel_rfl⟩⟩
instance : FnB Tryz.prog 53 := ⟨⟨Tryz.f53, Tryz.func53, by kernel_rfl, by kernel_rfl⟩⟩
instance : FnB Tryz.prog 54 := ⟨⟨Tryz.f54, Tryz.func54, by kernel_rfl, by kernel_rfl⟩⟩
instance : FnB Tryz.prog 55 := ⟨⟨Tryz.f55, Tryz.func55, by kernel_rfl, by kernel_rfl⟩⟩
instance : FnB Tryz.prog 56 := ⟨⟨Tryz.f56, Tryz.func56, by kernel_rfl, by kernel_rfl⟩⟩
instance : FnB Tryz.prog 57 := ⟨⟨Tryz.f57, Tryz.func57, by kernel_rfl, by kernel_rfl⟩⟩
instance : FnB Tryz.prog 58 := ⟨⟨Tryz.f58, Tryz.func58, by kernel_rfl, by kernel_rfl⟩⟩
instance : FnB Tryz.prog 59 := ⟨⟨Tryz.f59, Tryz.func59, by kernel_rfl, by kernel_rfl⟩⟩
instance : FnB Tryz.prog 60 := ⟨⟨Tryz.f60, Tryz.func60, by kernel_rfl, by kernel_rfl⟩⟩
instance : FnB Tryz.prog 61 := ⟨⟨Tryz.f61, Tryz.func61, by kernel_rfl, by kernel_rfl⟩⟩
instance : FnB Tryz.prog 62 := ⟨⟨Tryz.f62, Tryz.func62, by kernel_rfl, by kernel_rfl⟩⟩
instance : FnB Tryz.prog 63 := ⟨⟨Tryz.f63, Tryz.func63, by kernel_rfl, by kernel_rfl⟩⟩
instance : FnB Tryz.prog 64 := ⟨⟨Tryz.f64, Tryz.func64, by kernel_rfl, by kernel_rfl⟩⟩
instance : FnB Tryz.prog 65 := ⟨⟨Tryz.f65, Tryz.func65, by kernel_rfl, by kernel_rfl⟩⟩
instance : FnB Tryz.prog 66 := ⟨⟨Tryz.f66, Tryz.func66, by kernel_rfl, by kernel_rfl⟩⟩
instance : FnB Tryz.prog 67 := ⟨⟨Tryz.f67, Tryz.func67, by kernel_rfl, by kernel_rfl⟩⟩
instance : FnB Tryz.prog 68 := ⟨⟨Tryz.f68, Tryz.func68, by kernel_rfl, by kernel_rfl⟩⟩
instance : FnB Tryz.prog 69 := ⟨⟨Tryz.f69, Tryz.func69, by kernel_rfl, by kernel_rfl⟩⟩
instance : FnB Tryz.prog 70 := ⟨⟨Tryz.f70, Tryz.func70, by kernel_rfl, by kernel_rfl⟩⟩
instance : FnB Tryz.prog 71 := ⟨⟨Tryz.f71, Tryz.func71, by kernel_rfl, by kernel_rfl⟩⟩
instance : FnB Tryz.prog 72 := ⟨⟨Tryz.f72, Tryz.func72, by kernel_rfl, by kernel_rfl⟩⟩
instance : FnB Tryz.prog 73 := ⟨⟨Tryz.f73, Tryz.func73, by kernel_rfl, by kernel_rfl⟩⟩
instance : FnB Tryz.prog 74 := ⟨⟨Tryz.f74, Tryz.func74, by kernel_rfl, by kernel_rfl⟩⟩
instance : FnB Tryz.prog 75 := ⟨⟨Tryz.f75, Tryz.func75, by kernel_rfl, by kernel_rfl⟩⟩
instance : FnB Tryz.prog 76 := ⟨⟨Tryz.f76, Tryz.func76, by kernel_rfl, by kernel_rfl⟩⟩
instance : FnB Tryz.prog 77 := ⟨⟨Tryz.f77, Tryz.func77, by kernel_rfl, by kernel_rfl⟩⟩
instance : FnB Tryz.prog 78 := ⟨⟨Tryz.f78, Tryz.func78, by kernel_rfl, by kernel_rfl⟩⟩
instance : FnB Tryz.prog 79 := ⟨⟨Tryz.f79, Tryz.func79, by kernel_rfl, by kernel_rfl⟩⟩
instance : FnB Tryz.prog 80 := ⟨⟨Tryz.f80, Tryz.func80, by kernel_rfl, by kernel_rfl⟩⟩
instance : FnB Tryz.prog 81 := ⟨⟨Tryz.f81, Tryz.func81, by kernel_rfl, by kernel_rfl⟩⟩
instance : FnB Tryz.prog 82 := ⟨⟨Tryz.f82, Tryz.func82, by kernel_rfl, by kernel_rfl⟩⟩
instance : FnB Tryz.prog 83 := ⟨⟨Tryz.f83, Tryz.func83, by kernel_rfl, by kernel_rfl⟩⟩
instance : FnB Tryz.prog 84 := ⟨⟨Tryz.f84, Tryz.func84, by kernel_rfl, by kernel_rfl⟩⟩
instance : FnB Tryz.prog 85 := ⟨⟨Tryz.f85, Tryz.func85, by kernel_rfl, by kernel_rfl⟩⟩
instance : FnB Tryz.prog 86 := ⟨⟨Tryz.f86, Tryz.func86, by kernel_rfl, by kernel_rfl⟩⟩
instance : FnB Tryz.prog 87 := ⟨⟨Tryz.f87, Tryz.func87, by kernel_rfl, by kernel_rfl⟩⟩
instance : FnB Tryz.prog 88 := ⟨⟨Tryz.f88, Tryz.func88, by kernel_rfl, by kernel_rfl⟩⟩
instance : FnB Tryz.prog 89 := ⟨⟨Tryz.f89, Tryz.func89, by kernel_rfl, by kernel_rfl⟩⟩
instance : FnB Tryz.prog 90 := ⟨⟨Tryz.f90, Tryz.func90, by kernel_rfl, by kernel_rfl⟩⟩
instance : FnB Tryz.prog 91 := ⟨⟨Tryz.f91, Tryz.func91, by kernel_rfl, by kernel_rfl⟩⟩
instance : FnB Tryz.prog 92 := ⟨⟨Tryz.f92, Tryz.func92, by kernel_rfl, by kernel_rfl⟩⟩
instance : FnB Tryz.prog 93 := ⟨⟨Tryz.f93, Tryz.func93, by kernel_rfl, by kernel_rfl⟩⟩
instance : FnB Tryz.prog 94 := ⟨⟨Tryz.f94, Tryz.func94, by kernel_rfl, by kernel_rfl⟩⟩
instance : FnB Tryz.prog 95 := ⟨⟨Tryz.f95, Tryz.func95, by kernel_rfl, by kernel_rfl⟩⟩
instance : FnB Tryz.prog 96 := ⟨⟨Tryz.f96, Tryz.func96, by kernel_rfl, by kernel_rfl⟩⟩
instance : FnB Tryz.prog 97 := ⟨⟨Tryz.f97, Tryz.func97, by kernel_rfl, by kernel_rfl⟩⟩
instance : FnB Tryz.prog 99 := ⟨⟨Tryz.f99, Tryz.func99, by kernel_rfl, by kernel_rfl⟩⟩
instance : FnB Tryz.prog 100 := ⟨⟨Tryz.f100, Tryz.func100, by kernel_rfl, by kernel_rfl⟩⟩
instance : FnB Tryz.prog 101 := ⟨⟨Tryz.f101, Tryz.func101, by kernel_rfl, by kernel_rfl⟩⟩
instance : FnB Tryz.prog 102 := ⟨⟨Tryz.f102, Tryz.func102, by kernel_rfl, by kernel_rfl⟩⟩
instance : FnB Tryz.prog 103 := ⟨⟨Tryz.f103, Tryz.func103, by kernel_rfl, by kernel_rfl⟩⟩
instance : TyB Tryz.prog 7 [(0, 1), (1, 1), (2, 1), (3, 1)] := ⟨by kernel_rfl⟩
instance : TyB Tryz.prog 8 [(0, 1), (1, 1), (2, 1), (3, 1)] := ⟨by kernel_rfl⟩
instance : TyB Tryz.prog 13 [(0, 1), (1, 1)] := ⟨by kernel_rfl⟩
instance : TyB Tryz.prog 14 [(0, 1), (1, 1)] := ⟨by kernel_rfl⟩
instance : TyB Tryz.prog 18 [(0, 1)] := ⟨by kernel_rfl⟩
instance : TyB Tryz.prog 19 [(0, 1)] := ⟨by kernel_rfl⟩
instance : TyB Tryz.prog 23 [(0, 1), (1, 1), (2, 1), (3, 1), (4, 1)] := ⟨by kernel_rfl⟩
instance : TyB Tryz.prog 24 [(0, 1), (1, 1), (2, 1), (3, 1), (4, 1)] := ⟨by kernel_rfl⟩
instance : TyB Tryz.prog 48 [(0, 1), (1, 1)] := ⟨by kernel_rfl⟩
instance : TyB Tryz.prog 49 [(0, 1), (1, 1)] := ⟨by kernel_rfl⟩
instance : TyB Tryz.prog 55 [(0, 1), (1, 1)] := ⟨by kernel_rfl⟩
instance : TyB Tryz.prog 56 [(0, 1), (1, 1)] := ⟨by kernel_rfl⟩
instance : TyB Tryz.prog 94 [(0, 1), (1, 1)] := ⟨by kernel_rfl⟩
instance : TyB Tryz.prog 95 [(0, 1), (1, 1)] := ⟨by kernel_rfl⟩
instance : TyB Tryz.prog 101 [(0, 1), (1, 1)] := ⟨by kernel_rfl⟩
instance : TyB Tryz.prog 102 [(0, 1), (1, 1)] := ⟨by kernel_rfl⟩
instance : TyB Tryz.prog 125 [(0, 1), (1, 1), (2, 1), (3, 1)] := ⟨by kernel_rfl⟩
instance : TyB Tryz.prog 126 [(0, 1), (1, 1), (2, 1), (3, 1)] := ⟨by kernel_rfl⟩
instance : TyB Tryz.prog 128 [(0, 0)] := ⟨by kernel_rfl⟩
instance : TyB Tryz.prog 129 [(0, 0)] := ⟨by kernel_rfl⟩
instance : TyB Tryz.prog 135 [(0, 1), (1, 1), (2, 1), (3, 1), (4, 1), (5, 1), (6, 1), (7, 1), (8, 1), (9, 1), (10, 1)] := ⟨by kernel_rfl⟩
instance : TyB Tryz.prog 136 [(0, 1), (1, 1), (2, 1), (3, 1), (4, 1), (5, 1), (6, 1), (7, 1), (8, 1), (9, 1), (10, 1)] := ⟨by kernel_rfl⟩
end Go.AL
namespace Go.AL
open Go Go.Proofs Go.RowKit
theorem zeQ : ∀ n : Fin 32, 1 ≤ n.val → IntKind.u64.wrap ((BitVec.ofInt IntKind.u64.bits (IntKind.u64.wrap (IntKind.i64.wrap (0 - (n.val : Int)))) &&& BitVec.ofInt IntKind.u64.bits 31).toNat : Int) = ((32 - n.val : Nat) : Int) := by decide +kernel
theorem yT {n : Int} (h0 : 0 ≤ n) (h1 : n < 18446744073709551616) : IntKind.u64.wrap n = n := by
  simp only [IntKind.wrap, IntKind.bits, IntKind.signed, Bool.false_and, Bool.false_eq_true, if_false]; omega
theorem zhi {n : Int} (h0 : 0 ≤ n) (h1 : n < 4294967296) : IntKind.u32.wrap n = n := by
  simp only [IntKind.wrap, IntKind.bits, IntKind.signed, Bool.false_and, Bool.false_eq_true, if_false]; omega
theorem zeb (s : ByteArray) (i : Int) : IntKind.u32.wrap (bAt s i) = bAt s i := by
  have := zbC s i
  exact zhi (by omega) (by omega)
theorem kO {n : Nat} (h : n ≤ 32) : min ((n : Nat) : Int).toNat IntKind.u32.bits = n := by
  have : IntKind.u32.bits = 32 := rfl
  omega
theorem zjp (a b : Int) : wo a b = wo b a := by unfold wo; rw [BitVec.or_comm]
set_option maxHeartbeats 2000000 in
theorem zfQ (x : Int) (n : Nat) (h1 : 1 ≤ n) (h2 : n ≤ 31) : Spec Tryz.prog 90 [.t (.int .u32 x), .t (.int .i64 (IntKind.i64.wrap (0 - (n : Int))))] [] (.t (.int .u32 (rr x n))) [] := by
  have ha := zeQ ⟨n, by omega⟩ h1
  simp only at ha
  refine wI Tryz.func90 ?_
  repeat' (first | refine wC ?_ | refine wK ?_ | ((with_reducible refine zU ?_); first | refine zgG rfl rfl rfl rfl rfl rfl ?_ ?_ | refine kp rfl rfl rfl rfl rfl rfl ?_ ?_) | fail)
  all_goals rw [ha]
  · omega
  · rw [yT (by omega) (by omega)]; omega
  · refine zE (zh rfl rfl (congrArg (T.int .u32) ?_)) (by simp)
    rw [yT (by omega) (by omega), show (32 : Int) - ((32 - n : Nat) : Int) = (n : Int) by omega, kO (by omega), kO (by omega)]
    exact zjp _ _
theorem yo (x : Int) (n : Nat) (h1 : 1 ≤ n) (h2 : n ≤ 31) : Spec Tryz.prog 76 [.t (.int .u32 x), .t (.int .i64 (n : Int))] [] (.t (.int .u32 (rr x n))) [] := by
  have hR := zfQ x n h1 h2
  refine wI Tryz.func76 ?_
  repeat' (first | refine wC ?_ | refine wK ?_ | ((with_reducible refine zk ?_); refine wL hR ?_) | fail)
  all_goals exact zE (zh rfl rfl rfl) (by simp)
set_option maxHeartbeats 2000000 in
theorem yp (x : Int) (n : Nat) (h1 : 1 ≤ n) (h2 : n ≤ 31) : Spec Tryz.prog 60 [.t (.int .u32 x), .t (.int .i64 (n : Int))] [] (.t (.int .u32 (rr x n))) [] := by
  refine wI Tryz.func60 ?_
  repeat' (first | refine wC ?_ | refine wK ?_ | ((with_reducible refine zU ?_); first | refine zgG rfl rfl rfl rfl rfl rfl ?_ ?_ | refine kp rfl rfl rfl rfl rfl rfl ?_ ?_) | fail)
  · rw [yT (by omega) (by omega)]; omega
  · rw [zl (n := (32 : Int) - n) (by omega) (by omega), yT (by omega) (by omega)]; omega
  · refine zE (zh rfl rfl (congrArg (T.int .u32) ?_)) (by simp)
    rw [zl (n := (32 : Int) - n) (by omega) (by omega), yT (n := (n : Int)) (by omega) (by omega), yT (n := (32 : Int) - n) (by omega) (by omega), show (32 : Int) - (n : Int) = ((32 - n : Nat) : Int) by omega, kO (by omega), kO (by omega)]
    rfl
set_option maxHeartbeats 2000000 in
theorem zeB (s : ByteArray) (hs : 4 ≤ s.size) : Spec Tryz.prog 59 [.t (.str s)] [] (.t (.int .u32 (wg s.data.toList 0))) [] := by
  refine wI Tryz.func59 ?_
  repeat' (first | refine wC ?_ | refine wK ?_ | ((with_reducible refine yu ?_); refine zQ rfl rfl rfl rfl rfl rfl ?_ ?_ ?_) | fail)
  all_goals try omega
  refine zE (zh rfl rfl (congrArg (T.int .u32) ?_)) (by simp)
  simp only [zeb]
  rfl
abbrev wY : Int → T := T.int .u32
theorem xq (l : List Int) : ∀ x ∈ l.map wY, x.isAgg = false := fun x hx => by
  obtain ⟨n, _, rfl⟩ := List.mem_map.1 hx; rfl
theorem zeg {f : Nat → List Int → List Int} (hf : ∀ i l, (f i l).length = l.length) (c t : Nat) (a : List Int) : (xf f c t a).length = a.length :=
  zd6 (Q := fun l => l.length = a.length) (fun i x h => (hf i x).trans h) c t a rfl
theorem zcw (p : List UInt8) : (vf p).length = 64 := (zeg (fun i l => by simp) _ _ _).trans rfl
theorem zcu (w : List Int) : (jW w).length = w.length := zeg (fun i l => by simp [yR]) _ _ _
def vV (v : List Int) (i : Nat) (l : List Int) : List Int := l.set i (wp (l.getD i 0) (v.getD i 0))
theorem ju (u v : H8) : xf (vV v.l) 8 0 u.l = (kH u v).l := rfl
theorem zls (v : H8) : v.t.map AV.t = (v.l.map wY).map AV.t := rfl
set_option maxHeartbeats 8000000 in
theorem zgT (v : H8) (b : ByteArray) (hb : 64 ≤ b.size) (hb2 : b.size ≤ 1000000000) : Spec Tryz.prog 51 [.ref (.par 0) 0 0 0, .t (.str b), .ref (.par 1) 0 0 0] [(.par 0, .var 74 (v.t.map AV.t)), (.par 1, .arr 60 1 (zbw.map wY))] (.tup []) [(.par 0, .var 74 ((zeh v b.data.toList).t.map AV.t)), (.par 1, .arr 60 1 (zbw.map wY))] := by
  unfold zeh
  obtain ⟨V, hV⟩ : ∃ V, V = zat (jW (vf b.data.toList)) v := ⟨_, rfl⟩
  obtain ⟨S, hS⟩ : ∃ S, S = jW (vf b.data.toList) := ⟨_, rfl⟩
  obtain ⟨W, hW⟩ : ∃ W, W = vf b.data.toList := ⟨_, rfl⟩
  have hWl : W.length = 64 := by rw [hW]; exact zcw _
  have hSl : S.length = 64 := by rw [hS, ← hW, zcu]; exact hWl
  rw [← hW] at hS hV
  rw [← hW]
  rw [← hS] at hV ⊢
  rw [← hV]
  unfold zat at hV
  unfold jW at hS
  unfold vf at hW
  obtain ⟨K, hK⟩ : ∃ K, K = zbw := ⟨_, rfl⟩
  have hKl : K.length = 64 := by rw [hK]; rfl
  rw [← hK] at hV ⊢
  refine wIG Tryz.func51 ?_
  repeat' (first | refine wC ?_ | refine wK ?_ | fail)
  refine zc (yg (id := .loc 6) rfl (RowLE.arr (es := w0L.map wY) rfl (xq _)) rfl) ?_
  refine zc (za [0, 1, 2, 6, 21] [.par 0, .par 1, .loc 6] rfl rfl) ?_
  refine zi (fun p env st => ∃ (t : Nat) (w : List Int), t ≤ 16 ∧ p = 16 - t ∧ w.length = 64 ∧ W = xf (fun t w => w.set t (wg b.data.toList t)) (16 - t) t w ∧
      env = EnvL.get [(0, .ref (.par 0) 0 0 0), (1, .t (.str b)), (2, .ref (.par 1) 0 0 0), (6, .ref (.loc 6) 0 0 0), (21, .t (.int .i64 (t : Int)))] ∧
      st = StO.get [(.par 0, some (.var 74 (v.t.map AV.t))), (.par 1, some (.arr 60 1 (K.map wY))), (.loc 6, some (.arr 60 1 (w.map wY)))])
    ?_ (n := 16) ⟨0, w0L, by omega, rfl, rfl, hW, rfl, rfl⟩
  rintro p env st ⟨t, w, ht, rfl, hw, hi, rfl, rfl⟩
  clear hW
  by_cases hlt : t < 16
  · obtain ⟨c, hc⟩ : ∃ c, 16 - t = c + 1 := ⟨16 - t - 1, by omega⟩
    rw [hc] at hi
    simp only [xf] at hi
    have w0 : IntKind.i64.wrap (4 * (t : Int)) = ((4 * t : Nat) : Int) := by rw [zl (by omega) (by omega)]; omega
    have w1 : IntKind.i64.wrap (((4 * t : Nat) : Int) + 1) = ((4 * t + 1 : Nat) : Int) := by rw [zl (by omega) (by omega)]; omega
    have w2 : IntKind.i64.wrap (((4 * t : Nat) : Int) + 2) = ((4 * t + 2 : Nat) : Int) := by rw [zl (by omega) (by omega)]; omega
    have w3 : IntKind.i64.wrap (((4 * t : Nat) : Int) + 3) = ((4 * t + 3 : Nat) : Int) := by rw [zl (by omega) (by omega)]; omega
    repeat' (first | refine wC ?_ | refine wK ?_ | ((with_reducible refine zj ?_); refine zu rfl rfl rfl rfl rfl rfl ?_ ?_ ?_) | ((with_reducible refine yu ?_); refine zQ rfl rfl rfl rfl rfl rfl ?_ ?_ ?_) | ((with_reducible refine xm ?_); refine yD rfl rfl rfl rfl rfl rfl rfl ?_ ?_) | refine zo rfl ?_ ?_ <;> intro hc | fail)
    all_goals try simp only [w0, w1, w2, w3, zeb]
    all_goals try omega
    exact zD (n' := 16 - (t + 1)) (by omega) (za [0, 1, 2, 6, 21] [.par 0, .par 1, .loc 6] rfl rfl) ⟨t + 1, w.set t (wg b.data.toList t), by omega, rfl, by simpa using hw, by rw [hi, show 16 - (t + 1) = c by omega], by rw [zl (by omega) (by omega)]; rfl, rfl⟩
  · obtain rfl : t = 16 := by omega
    simp only [Nat.sub_self, xf] at hi
    subst hi
    repeat' (first | refine wC ?_ | refine wK ?_ | fail)
    all_goals try (exfalso; omega)
    refine zc (za [0, 1, 2, 6, 8] [.par 0, .par 1, .loc 6] rfl rfl) ?_
    refine zi (fun p env st => ∃ (t : Nat) (w : List Int), 16 ≤ t ∧ t ≤ 64 ∧ p = 64 - t ∧ w.length = 64 ∧ S = xf yR (64 - t) t w ∧
        env = EnvL.get [(0, .ref (.par 0) 0 0 0), (1, .t (.str b)), (2, .ref (.par 1) 0 0 0), (6, .ref (.loc 6) 0 0 0), (8, .t (.int .i64 (t : Int)))] ∧
        st = StO.get [(.par 0, some (.var 74 (v.t.map AV.t))), (.par 1, some (.arr 60 1 (K.map wY))), (.loc 6, some (.arr 60 1 (w.map wY)))])
      ?_ (n := 48) ⟨16, W, by omega, by omega, rfl, hw, hS, rfl, rfl⟩
    rintro p env st ⟨t, w, ht0, ht, rfl, hwl, hi, rfl, rfl⟩
    clear hS
    by_cases hlt : t < 64
    · obtain ⟨c, hc⟩ : ∃ c, 64 - t = c + 1 := ⟨64 - t - 1, by omega⟩
      rw [hc] at hi
      simp only [xf, yR] at hi
      have w0 : IntKind.i64.wrap ((t : Int) - 15) = ((t - 15 : Nat) : Int) := by rw [zl (by omega) (by omega)]; omega
      have w1 : IntKind.i64.wrap ((t : Int) - 2) = ((t - 2 : Nat) : Int) := by rw [zl (by omega) (by omega)]; omega
      have w2 : IntKind.i64.wrap ((t : Int) - 7) = ((t - 7 : Nat) : Int) := by rw [zl (by omega) (by omega)]; omega
      have w3 : IntKind.i64.wrap ((t : Int) - 16) = ((t - 16 : Nat) : Int) := by rw [zl (by omega) (by omega)]; omega
      have r7 := fun x => yo x 7 (by omega) (by omega)
      have r18 := fun x => yo x 18 (by omega) (by omega)
      have r17 := fun x => yo x 17 (by omega) (by omega)
      have r19 := fun x => yo x 19 (by omega) (by omega)
      repeat' (first | refine wC ?_ | refine wK ?_ | ((with_reducible refine zj ?_); refine zu rfl rfl rfl rfl rfl rfl ?_ ?_ ?_) | ((with_reducible refine zk ?_); first | refine wL (r7 _) ?_ | refine wL (r18 _) ?_ | refine wL (r17 _) ?_ | refine wL (r19 _) ?_) | ((with_reducible refine va ?_); refine xb rfl rfl rfl rfl rfl rfl rfl rfl ?_ ?_) | ((with_reducible refine xm ?_); refine yD rfl rfl rfl rfl rfl rfl rfl ?_ ?_) | refine zo rfl ?_ ?_ <;> intro hc | fail)
      all_goals try simp only [w0, w1, w2, w3]
      all_goals try omega
      all_goals try (rw [Int.toNat_natCast]; omega)
      exact zD (n' := 64 - (t + 1)) (by omega) (za [0, 1, 2, 6, 8] [.par 0, .par 1, .loc 6] rfl rfl) ⟨t + 1, _, by omega, by omega, rfl, by rw [List.length_set]; exact hwl, by rw [hi, show 64 - (t + 1) = c by omega]; rfl, by rw [zl (by omega) (by omega)]; rfl, rfl⟩
    · obtain rfl : t = 64 := by omega
      simp only [Nat.sub_self, xf] at hi
      subst hi
      repeat' (first | refine wC ?_ | refine wK ?_ | fail)
      all_goals try (exfalso; omega)
      refine zc (za [0, 2, 6, 13, 102] [.par 0, .par 1, .loc 6, .loc 13] rfl rfl) ?_
      refine zi (fun p env st => ∃ (t : Nat) (r : H8), t ≤ 64 ∧ p = 64 - t ∧ V = xf (fun t v => rnd (K.getD t 0) (S.getD t 0) v) (64 - t) t r ∧
          env = EnvL.get [(0, .ref (.par 0) 0 0 0), (2, .ref (.par 1) 0 0 0), (6, .ref (.loc 6) 0 0 0), (13, .ref (.loc 13) 0 0 0), (102, .t (.int .i64 (t : Int)))] ∧
          st = StO.get [(.par 0, some (.var 74 (v.t.map AV.t))), (.par 1, some (.arr 60 1 (K.map wY))), (.loc 6, some (.arr 60 1 (S.map wY))), (.loc 13, some (.var 74 (r.t.map AV.t)))])
        ?_ (n := 64) ⟨0, v, by omega, rfl, hV, rfl, rfl⟩
      rintro p env st ⟨t, r, ht, rfl, hi, rfl, rfl⟩
      clear hV
      by_cases hlt : t < 64
      · obtain ⟨c, hc⟩ : ∃ c, 64 - t = c + 1 := ⟨64 - t - 1, by omega⟩
        rw [hc] at hi
        simp only [xf] at hi
        obtain ⟨a1, a2, a3, a4, a5, a6, a7, a8⟩ := r
        have r6 := fun x => yo x 6 (by omega) (by omega)
        have r11 := fun x => yo x 11 (by omega) (by omega)
        have r25 := fun x => yo x 25 (by omega) (by omega)
        have r2 := fun x => yo x 2 (by omega) (by omega)
        have r13 := fun x => yo x 13 (by omega) (by omega)
        have r22 := fun x => yo x 22 (by omega) (by omega)
        simp only [H8.t, List.map_cons, List.map_nil]
        repeat' (first | refine wC ?_ | refine wK ?_ | ((with_reducible refine zj ?_); refine zu rfl rfl rfl rfl rfl rfl ?_ ?_ ?_) | ((with_reducible refine zk ?_); first | refine wL (r6 _) ?_ | refine wL (r11 _) ?_ | refine wL (r25 _) ?_ | refine wL (r2 _) ?_ | refine wL (r13 _) ?_ | refine wL (r22 _) ?_) | ((with_reducible refine va ?_); refine xb rfl rfl rfl rfl rfl rfl rfl rfl ?_ ?_) | ((with_reducible refine v8 ?_); refine xp (r := (.t (.agg _))) rfl rfl rfl rfl rfl rfl rfl ?_) | refine zo rfl ?_ ?_ <;> intro hc | fail)
        all_goals try omega
        all_goals try (rw [Int.toNat_natCast]; omega)
        exact zD (n' := 64 - (t + 1)) (by omega) (za [0, 2, 6, 13, 102] [.par 0, .par 1, .loc 6, .loc 13] rfl rfl) ⟨t + 1, rnd (K.getD t 0) (S.getD t 0) ⟨a1, a2, a3, a4, a5, a6, a7, a8⟩, by omega, rfl, by rw [hi, show 64 - (t + 1) = c by omega], by rw [zl (by omega) (by omega)]; rfl, rfl⟩
      · obtain rfl : t = 64 := by omega
        simp only [Nat.sub_self, xf] at hi
        subst hi
        obtain ⟨R, hR⟩ : ∃ R, R = (kH v V).l := ⟨_, rfl⟩
        have hR2 : R = xf (vV V.l) 8 0 v.l := by rw [hR, ju]
        have hrt : (V.l.map wY) = V.t := rfl
        have hvl : v.l.length = 8 := rfl
        have hrl : V.l.length = 8 := rfl
        rw [zls (kH v V), ← hR]
        repeat' (first | refine wC ?_ | refine wK ?_ | fail)
        all_goals try (exfalso; omega)
        refine zc (yg (id := .par 0) rfl (RowLE.arr (es := v.l.map wY) rfl (xq _)) rfl) ?_
        refine zc (za [0, 186, 187] [.par 0, .par 1] rfl rfl) ?_
        obtain ⟨vl, hvl'⟩ : ∃ l, l = v.l := ⟨_, rfl⟩
        obtain ⟨rl, hrl'⟩ : ∃ l, l = V.l := ⟨_, rfl⟩
        rw [← hvl'] at hR2 hvl
        rw [← hrl'] at hR2 hrl
        clear hR
        refine zi (fun p env st => ∃ (t : Nat) (l : List Int), t ≤ 8 ∧ p = 8 - t ∧ l.length = 8 ∧ R = xf (vV rl) (8 - t) t l ∧
            env = EnvL.get [(0, .ref (.par 0) 0 0 0), (186, .t (.agg (rl.map wY))), (187, .t (.int .i64 (t : Int)))] ∧
            st = StO.get [(.par 0, some (.arr 74 1 (l.map wY))), (.par 1, some (.arr 60 1 (K.map wY)))])
          ?_ (n := 8) ⟨0, vl, by omega, rfl, hvl, hR2, by rw [hrl']; rfl, by rw [hvl']; rfl⟩
        clear hR2
        rintro p env st ⟨t, l, ht, rfl, hl, hi, rfl, rfl⟩
        by_cases hlt : t < 8
        · obtain ⟨c, hc⟩ : ∃ c, 8 - t = c + 1 := ⟨8 - t - 1, by omega⟩
          rw [hc] at hi
          simp only [xf, vV] at hi
          repeat' (first | refine wC ?_ | refine wK ?_ | ((with_reducible refine zj ?_); refine zu rfl rfl rfl rfl rfl rfl ?_ ?_ ?_) | ((with_reducible refine va ?_); refine xb rfl rfl rfl rfl rfl rfl rfl rfl ?_ ?_) | ((with_reducible refine xm ?_); refine yD rfl rfl rfl rfl rfl rfl rfl ?_ ?_) | ((with_reducible refine yu ?_); refine wQ rfl rfl rfl rfl rfl rfl rfl ?_ ?_ ?_ ?_) | refine zo rfl ?_ ?_ <;> intro hc | fail)
          all_goals try omega
          all_goals try (rw [Int.toNat_natCast]; omega)
          exact zD (n' := 8 - (t + 1)) (by omega) (za [0, 186, 187] [.par 0, .par 1] rfl rfl) ⟨t + 1, _, by omega, rfl, by rw [List.length_set]; exact hl, by rw [hi, show 8 - (t + 1) = c by omega]; rfl, by rw [zl (by omega) (by omega)]; rfl, rfl⟩
        · obtain rfl : t = 8 := by omega
          simp only [Nat.sub_self, xf] at hi
          subst hi
          repeat' (first | refine wC ?_ | refine wK ?_ | fail)
          all_goals try (exfalso; omega)
          refine ye (yg (id := .par 0) rfl (RowLE.unarr (cs := (R.map wY).map AV.t) rfl (xq _)) rfl) ?_
          exact y4 (ziS (jH rfl) (zW ⟨rfl, rfl, trivial⟩))
theorem zij (l : List UInt8) (n i : Nat) : bL (l.drop n) i = bL l (n + i) := by
  unfold bL
  rw [List.getD_eq_getElem?_getD, List.getD_eq_getElem?_getD, List.getElem?_drop]
theorem j7 (b : ByteArray) (i j : Nat) : (b.extract i j).data.toList = (b.data.toList.drop i).take (j - i) := by
  simp [ByteArray.data_extract]
theorem zfa (b : ByteArray) (t : Nat) (hb : 64 ≤ b.size) : wg (b.extract ((4 * t : Nat) : Int).toNat (b.size : Int).toNat).data.toList 0 = wg b.data.toList t := by
  rw [j7, List.take_of_length_le (by rw [List.length_drop]; have := z8 b; omega)]
  unfold wg
  simp only [zij, Int.toNat_natCast, Nat.mul_zero, Nat.add_zero, Nat.zero_add]
set_option maxHeartbeats 8000000 in
theorem zey (v : H8) (b : ByteArray) (hb : 64 ≤ b.size) (hb2 : b.size ≤ 1000000000) : Spec Tryz.prog 37 [.t (.agg v.t), .t (.agg (zbw.map wY)), .t (.str b)] [] (.t (.agg (zeh v b.data.toList).t)) [] := by
  unfold zeh
  obtain ⟨V, hV⟩ : ∃ V, V = zat (jW (vf b.data.toList)) v := ⟨_, rfl⟩
  obtain ⟨S, hS⟩ : ∃ S, S = jW (vf b.data.toList) := ⟨_, rfl⟩
  obtain ⟨W, hW⟩ : ∃ W, W = vf b.data.toList := ⟨_, rfl⟩
  have hWl : W.length = 64 := by rw [hW]; exact zcw _
  have hSl : S.length = 64 := by rw [hS, ← hW, zcu]; exact hWl
  rw [← hW] at hS hV
  rw [← hW]
  rw [← hS] at hV ⊢
  rw [← hV]
  unfold zat at hV
  unfold jW at hS
  unfold vf at hW
  refine wIG Tryz.func37 ?_
  repeat' (first | refine wC ?_ | refine wK ?_ | fail)
  refine zc (yg (id := .loc 7) rfl (RowLE.arr (es := w0L.map wY) rfl (xq _)) rfl) ?_
  refine zc (yg (id := .loc 4) rfl (RowLE.arr (es := zbw.map wY) rfl (xq _)) rfl) ?_
  obtain ⟨K, hK⟩ : ∃ K, K = zbw := ⟨_, rfl⟩
  have hKl : K.length = 64 := by rw [hK]; rfl
  rw [← hK] at hV ⊢
  refine zc (za [2, 3, 4, 6, 7, 21] [.loc 3, .loc 4, .loc 6, .loc 7] rfl rfl) ?_
  refine zi (fun p env st => ∃ (t : Nat) (w : List Int), t ≤ 16 ∧ p = 16 - t ∧ w.length = 64 ∧ W = xf (fun t w => w.set t (wg b.data.toList t)) (16 - t) t w ∧
      env = EnvL.get [(2, .t (.str b)), (3, .ref (.loc 3) 0 0 0), (4, .ref (.loc 4) 0 0 0), (6, .ref (.loc 6) 0 0 0), (7, .ref (.loc 7) 0 0 0), (21, .t (.int .i64 (t : Int)))] ∧
      st = StO.get [(.loc 3, some (.var 58 (v.t.map AV.t))), (.loc 4, some (.arr 60 1 (K.map wY))), (.loc 6, some (.var 58 [.t (.int .u32 0), .t (.int .u32 0), .t (.int .u32 0), .t (.int .u32 0), .t (.int .u32 0), .t (.int .u32 0), .t (.int .u32 0), .t (.int .u32 0)])), (.loc 7, some (.arr 60 1 (w.map wY)))])
    ?_ (n := 16) ⟨0, w0L, by omega, rfl, rfl, hW, rfl, rfl⟩
  rintro p env st ⟨t, w, ht, rfl, hw, hi, rfl, rfl⟩
  clear hW
  by_cases hlt : t < 16
  · obtain ⟨c, hc⟩ : ∃ c, 16 - t = c + 1 := ⟨16 - t - 1, by omega⟩
    rw [hc] at hi
    simp only [xf] at hi
    have w0 : IntKind.i64.wrap (4 * (t : Int)) = ((4 * t : Nat) : Int) := by rw [zl (by omega) (by omega)]; omega
    have hW : Spec Tryz.prog 59 [.t (.str (b.extract (IntKind.i64.wrap (4 * (t : Int))).toNat (b.size : Int).toNat))] [] (.t (.int .u32 (wg b.data.toList t))) [] := by
      rw [w0, ← zfa b t hb]
      exact zeB _ (by rw [ByteArray.size_extract]; omega)
    repeat' (first | refine wC ?_ | refine wK ?_ | ((with_reducible refine zj ?_); refine zu rfl rfl rfl rfl rfl rfl ?_ ?_ ?_) | ((with_reducible refine yA ?_); refine zy rfl rfl ⟨_, rfl⟩ rfl rfl rfl rfl ?_ ?_ ?_ ?_) | ((with_reducible refine zk ?_); refine wL hW ?_) | ((with_reducible refine xm ?_); refine yD rfl rfl rfl rfl rfl rfl rfl ?_ ?_) | refine zo rfl ?_ ?_ <;> intro hc | fail)
    all_goals try simp only [w0]
    all_goals try omega
    exact zD (n' := 16 - (t + 1)) (by omega) (za [2, 3, 4, 6, 7, 21] [.loc 3, .loc 4, .loc 6, .loc 7] rfl rfl) ⟨t + 1, w.set t (wg b.data.toList t), by omega, rfl, by simpa using hw, by rw [hi, show 16 - (t + 1) = c by omega], by rw [zl (by omega) (by omega)]; rfl, rfl⟩
  · obtain rfl : t = 16 := by omega
    simp only [Nat.sub_self, xf] at hi
    subst hi
    repeat' (first | refine wC ?_ | refine wK ?_ | fail)
    all_goals try (exfalso; omega)
    refine zc (za [2, 3, 4, 6, 7, 9] [.loc 3, .loc 4, .loc 6, .loc 7] rfl rfl) ?_
    refine zi (fun p env st => ∃ (t : Nat) (w : List Int), 16 ≤ t ∧ t ≤ 64 ∧ p = 64 - t ∧ w.length = 64 ∧ S = xf yR (64 - t) t w ∧
        env = EnvL.get [(2, .t (.str b)), (3, .ref (.loc 3) 0 0 0), (4, .ref (.loc 4) 0 0 0), (6, .ref (.loc 6) 0 0 0), (7, .ref (.loc 7) 0 0 0), (9, .t (.int .i64 (t : Int)))] ∧
        st = StO.get [(.loc 3, some (.var 58 (v.t.map AV.t))), (.loc 4, some (.arr 60 1 (K.map wY))), (.loc 6, some (.var 58 [.t (.int .u32 0), .t (.int .u32 0), .t (.int .u32 0), .t (.int .u32 0), .t (.int .u32 0), .t (.int .u32 0), .t (.int .u32 0), .t (.int .u32 0)])), (.loc 7, some (.arr 60 1 (w.map wY)))])
      ?_ (n := 48) ⟨16, W, by omega, by omega, rfl, hw, hS, rfl, rfl⟩
    rintro p env st ⟨t, w, ht0, ht, rfl, hwl, hi, rfl, rfl⟩
    clear hS
    by_cases hlt : t < 64
    · obtain ⟨c, hc⟩ : ∃ c, 64 - t = c + 1 := ⟨64 - t - 1, by omega⟩
      rw [hc] at hi
      simp only [xf, yR] at hi
      have w0 : IntKind.i64.wrap ((t : Int) - 15) = ((t - 15 : Nat) : Int) := by rw [zl (by omega) (by omega)]; omega
      have w1 : IntKind.i64.wrap ((t : Int) - 2) = ((t - 2 : Nat) : Int) := by rw [zl (by omega) (by omega)]; omega
      have w2 : IntKind.i64.wrap ((t : Int) - 7) = ((t - 7 : Nat) : Int) := by rw [zl (by omega) (by omega)]; omega
      have w3 : IntKind.i64.wrap ((t : Int) - 16) = ((t - 16 : Nat) : Int) := by rw [zl (by omega) (by omega)]; omega
      have r7 := fun x => yp x 7 (by omega) (by omega)
      have r18 := fun x => yp x 18 (by omega) (by omega)
      have r17 := fun x => yp x 17 (by omega) (by omega)
      have r19 := fun x => yp x 19 (by omega) (by omega)
      repeat' (first | refine wC ?_ | refine wK ?_ | ((with_reducible refine zj ?_); refine zu rfl rfl rfl rfl rfl rfl ?_ ?_ ?_) | ((with_reducible refine zk ?_); first | refine wL (r7 _) ?_ | refine wL (r18 _) ?_ | refine wL (r17 _) ?_ | refine wL (r19 _) ?_) | ((with_reducible refine va ?_); refine xb rfl rfl rfl rfl rfl rfl rfl rfl ?_ ?_) | ((with_reducible refine xm ?_); refine yD rfl rfl rfl rfl rfl rfl rfl ?_ ?_) | refine zo rfl ?_ ?_ <;> intro hc | fail)
      all_goals try simp only [w0, w1, w2, w3]
      all_goals try omega
      all_goals try (rw [Int.toNat_natCast]; omega)
      exact zD (n' := 64 - (t + 1)) (by omega) (za [2, 3, 4, 6, 7, 9] [.loc 3, .loc 4, .loc 6, .loc 7] rfl rfl) ⟨t + 1, _, by omega, by omega, rfl, by rw [List.length_set]; exact hwl, by rw [hi, show 64 - (t + 1) = c by omega]; rfl, by rw [zl (by omega) (by omega)]; rfl, rfl⟩
    · obtain rfl : t = 64 := by omega
      simp only [Nat.sub_self, xf] at hi
      subst hi
      repeat' (first | refine wC ?_ | refine wK ?_ | fail)
      all_goals try (exfalso; omega)
      refine zc (za [3, 4, 6, 7, 14, 76] [.loc 3, .loc 4, .loc 6, .loc 7, .loc 14] rfl rfl) ?_
      refine zi (fun p env st => ∃ (t : Nat) (r : H8), t ≤ 64 ∧ p = 64 - t ∧ V = xf (fun t v => rnd (K.getD t 0) (S.getD t 0) v) (64 - t) t r ∧
          env = EnvL.get [(3, .ref (.loc 3) 0 0 0), (4, .ref (.loc 4) 0 0 0), (6, .ref (.loc 6) 0 0 0), (7, .ref (.loc 7) 0 0 0), (14, .ref (.loc 14) 0 0 0), (76, .t (.int .i64 (t : Int)))] ∧
          st = StO.get [(.loc 3, some (.var 58 (v.t.map AV.t))), (.loc 4, some (.arr 60 1 (K.map wY))), (.loc 6, some (.var 58 [.t (.int .u32 0), .t (.int .u32 0), .t (.int .u32 0), .t (.int .u32 0), .t (.int .u32 0), .t (.int .u32 0), .t (.int .u32 0), .t (.int .u32 0)])), (.loc 7, some (.arr 60 1 (S.map wY))), (.loc 14, some (.var 58 (r.t.map AV.t)))])
        ?_ (n := 64) ⟨0, v, by omega, rfl, hV, rfl, rfl⟩
      rintro p env st ⟨t, r, ht, rfl, hi, rfl, rfl⟩
      clear hV
      by_cases hlt : t < 64
      · obtain ⟨c, hc⟩ : ∃ c, 64 - t = c + 1 := ⟨64 - t - 1, by omega⟩
        rw [hc] at hi
        simp only [xf] at hi
        obtain ⟨a1, a2, a3, a4, a5, a6, a7, a8⟩ := r
        have r6 := fun x => yp x 6 (by omega) (by omega)
        have r11 := fun x => yp x 11 (by omega) (by omega)
        have r25 := fun x => yp x 25 (by omega) (by omega)
        have r2 := fun x => yp x 2 (by omega) (by omega)
        have r13 := fun x => yp x 13 (by omega) (by omega)
        have r22 := fun x => yp x 22 (by omega) (by omega)
        simp only [H8.t, List.map_cons, List.map_nil]
        repeat' (first | refine wC ?_ | refine wK ?_ | ((with_reducible refine zj ?_); refine zu rfl rfl rfl rfl rfl rfl ?_ ?_ ?_) | ((with_reducible refine zk ?_); first | refine wL (r6 _) ?_ | refine wL (r11 _) ?_ | refine wL (r25 _) ?_ | refine wL (r2 _) ?_ | refine wL (r13 _) ?_ | refine wL (r22 _) ?_) | ((with_reducible refine va ?_); refine xb rfl rfl rfl rfl rfl rfl rfl rfl ?_ ?_) | ((with_reducible refine v8 ?_); refine xp (r := (.t (.agg _))) rfl rfl rfl rfl rfl rfl rfl ?_) | refine zo rfl ?_ ?_ <;> intro hc | fail)
        all_goals try omega
        all_goals try (rw [Int.toNat_natCast]; omega)
        exact zD (n' := 64 - (t + 1)) (by omega) (za [3, 4, 6, 7, 14, 76] [.loc 3, .loc 4, .loc 6, .loc 7, .loc 14] rfl rfl) ⟨t + 1, rnd (K.getD t 0) (S.getD t 0) ⟨a1, a2, a3, a4, a5, a6, a7, a8⟩, by omega, rfl, by rw [hi, show 64 - (t + 1) = c by omega], by rw [zl (by omega) (by omega)]; rfl, rfl⟩
      · obtain rfl : t = 64 := by omega
        simp only [Nat.sub_self, xf] at hi
        subst hi
        obtain ⟨R, hR⟩ : ∃ R, R = (kH v V).l := ⟨_, rfl⟩
        have hR2 : R = xf (vV v.l) 8 0 V.l := by rw [hR, ju, zfl]
        have hvl : v.l.length = 8 := rfl
        have hrl : V.l.length = 8 := rfl
        repeat' (first | refine wC ?_ | refine wK ?_ | fail)
        all_goals try (exfalso; omega)
        refine zc (yg (id := .loc 3) rfl (RowLE.arr (es := v.l.map wY) rfl (xq _)) rfl) ?_
        refine zc (yg (id := .loc 14) rfl (RowLE.arr (es := V.l.map wY) rfl (xq _)) rfl) ?_
        refine zc (za [3, 6, 14, 156] [.loc 3, .loc 6, .loc 14] rfl rfl) ?_
        obtain ⟨vl, hvl'⟩ : ∃ l, l = v.l := ⟨_, rfl⟩
        obtain ⟨rl, hrl'⟩ : ∃ l, l = V.l := ⟨_, rfl⟩
        rw [← hvl', ← hrl'] at hR2
        rw [← hvl'] at hvl
        rw [← hrl'] at hrl
        refine zi (fun p env st => ∃ (t : Nat) (l : List Int), t ≤ 8 ∧ p = 8 - t ∧ l.length = 8 ∧ R = xf (vV vl) (8 - t) t l ∧
            env = EnvL.get [(3, .ref (.loc 3) 0 0 0), (6, .ref (.loc 6) 0 0 0), (14, .ref (.loc 14) 0 0 0), (156, .t (.int .i64 (t : Int)))] ∧
            st = StO.get [(.loc 3, some (.arr 58 1 (vl.map wY))), (.loc 6, some (.var 58 [.t (.int .u32 0), .t (.int .u32 0), .t (.int .u32 0), .t (.int .u32 0), .t (.int .u32 0), .t (.int .u32 0), .t (.int .u32 0), .t (.int .u32 0)])), (.loc 14, some (.arr 58 1 (l.map wY)))])
          ?_ (n := 8) ⟨0, rl, by omega, rfl, hrl, hR2, rfl, by rw [hvl', hrl']; rfl⟩
        clear hR2
        rintro p env st ⟨t, l, ht, rfl, hl, hi, rfl, rfl⟩
        by_cases hlt : t < 8
        · obtain ⟨c, hc⟩ : ∃ c, 8 - t = c + 1 := ⟨8 - t - 1, by omega⟩
          rw [hc] at hi
          simp only [xf, vV] at hi
          repeat' (first | refine wC ?_ | refine wK ?_ | ((with_reducible refine zj ?_); refine zu rfl rfl rfl rfl rfl rfl ?_ ?_ ?_) | ((with_reducible refine va ?_); refine xb rfl rfl rfl rfl rfl rfl rfl rfl ?_ ?_) | ((with_reducible refine xm ?_); refine yD rfl rfl rfl rfl rfl rfl rfl ?_ ?_) | refine zo rfl ?_ ?_ <;> intro hc | fail)
          all_goals try omega
          all_goals try (rw [Int.toNat_natCast]; omega)
          exact zD (n' := 8 - (t + 1)) (by omega) (za [3, 6, 14, 156] [.loc 3, .loc 6, .loc 14] rfl rfl) ⟨t + 1, _, by omega, rfl, by rw [List.length_set]; exact hl, by rw [hi, show 8 - (t + 1) = c by omega]; rfl, by rw [zl (by omega) (by omega)]; rfl, rfl⟩
        · obtain rfl : t = 8 := by omega
          simp only [Nat.sub_self, xf] at hi
          rw [← hi, hR]
          refine zc (yg (id := .loc 14) rfl (RowLE.unarr (cs := (kH v V).t.map AV.t) rfl (xq _)) rfl) ?_
          generalize kH v V = X
          obtain ⟨a1, a2, a3, a4, a5, a6, a7, a8⟩ := X
          simp only [H8.t, H8.l, List.map_cons, List.map_nil]
          repeat' (first | refine wC ?_ | refine wK ?_ | fail)
          exact wB
instance : Lies Tryz.prog 95 2 95 := ⟨by kernel_rfl⟩
instance : CellsOf Tryz.prog 5 1 := ⟨by kernel_rfl⟩
instance : NoEsc Tryz.prog 98 := .of Tryz.func98 (by kernel_rfl) (by kernel_rfl) (by kernel_rfl) (by kernel_rfl)
theorem yh (s : ByteArray) : (zX s).length = s.size := by simp [zX]
def ziK : StL := [(.par 0, .var 95 [.t .nilp, .t .nilsl])]
def zc5 (es : List T) : StL := [(.par 0, .var 95 [.ref (.par 0) 0 0 0, .row (.par 1)]), (.par 1, .slt 5 1 es)]
def zfp (es : List T) : StL := [(.par 0, .var 95 [.ref (.par 0) 0 0 0, .row (.res 0)]), (.res 0, .slt 5 1 es)]
set_option maxHeartbeats 1000000 in
theorem zhO : Spec Tryz.prog 85 [.ref (.par 0) 0 0 0] ziK (.tup []) [(.par 0, .var 95 [.ref (.par 0) 0 0 0, .t .nilsl])] := by
  unfold ziK
  refine wI Tryz.func85 ?_
  repeat' (first | refine wC ?_ | refine wK ?_ | ((with_reducible refine zU ?_); refine ki rfl rfl rfl rfl rfl rfl rfl ?_) | ((with_reducible refine zY ?_); first | refine zdv rfl rfl rfl rfl rfl rfl rfl rfl ?_ | refine zaS rfl rfl rfl rfl rfl rfl rfl ?_) | ((with_reducible refine zk ?_); refine zhJ rfl rfl rfl rfl rfl rfl ?_) | fail)
  exact ziS (jH rfl) (zW ⟨rfl, trivial⟩)
set_option maxHeartbeats 1000000 in
theorem zd4 (l : List T) : Spec Tryz.prog 85 [.ref (.par 0) 0 0 0] (zc5 l) (.tup []) (zc5 l) := by
  unfold zc5
  refine wI Tryz.func85 ?_
  repeat' (first | refine wC ?_ | refine wK ?_ | ((with_reducible refine zU ?_); first | refine ki rfl rfl rfl rfl rfl rfl rfl ?_ | refine zbb rfl rfl rfl rfl rfl rfl ?_) | fail)
  exact ziS (jH rfl) (zW ⟨rfl, rfl, trivial⟩)
set_option maxHeartbeats 1000000 in
theorem zbl (s : ByteArray) (hs : s.size ≤ 100000000) : Spec Tryz.prog 68 [.ref (.par 0) 0 0 0, .t (.str s)] ziK (.tup [.t (.int .i64 s.size), .junk]) (zfp (zX s)) := by
  have hC := zhO
  unfold ziK at hC ⊢
  unfold zfp
  refine wIG Tryz.func68 ?_
  repeat' (first | refine wC ?_ | refine wK ?_ | ((with_reducible refine zR ?_); refine qV rfl rfl rfl rfl rfl rfl rfl rfl ?_ ?_ ?_) | ((with_reducible refine zk ?_); refine wN (.tup []) [] hC ?_) | fail)
  · simp [yh]; omega
  · simp [yh]; omega
  · refine ye ((za [4, 5] [.par 0, .loc 14] rfl rfl).trans (zq (.loc 14) (.res 0) rfl rfl rfl rfl)) ?_
    exact y4 (zE (k5 rfl (AVLE.refl _) (AVLE.junk _)) (zW ⟨rfl, rfl, trivial⟩))
set_option maxHeartbeats 1000000 in
theorem zbr (l : List T) (s : ByteArray) (hs : l.length + s.size ≤ 100000000) : Spec Tryz.prog 68 [.ref (.par 0) 0 0 0, .t (.str s)] (zc5 l) (.tup [.t (.int .i64 s.size), .junk]) (zfp (l ++ zX s)) := by
  have hC := zd4 l
  unfold zc5 at hC ⊢
  unfold zfp
  refine wIG Tryz.func68 ?_
  repeat' (first | refine wC ?_ | refine wK ?_ | ((with_reducible refine zR ?_); refine zaO rfl rfl rfl rfl rfl rfl rfl rfl rfl ?_ ?_ ?_) | ((with_reducible refine zk ?_); refine wN (.tup []) [] hC ?_) | fail)
  · simp [yh]; omega
  · simp [yh]; omega
  · refine ye ((za [4, 5] [.par 0, .loc 14] rfl rfl).trans (zq (.loc 14) (.res 0) rfl rfl rfl rfl)) ?_
    exact y4 (zE (k5 rfl (AVLE.refl _) (AVLE.junk _)) (zW ⟨rfl, rfl, trivial⟩))
set_option maxHeartbeats 1000000 in
theorem zd2 (l : List T) (c : Int) (hs : l.length ≤ 100000000) : Spec Tryz.prog 75 [.ref (.par 0) 0 0 0, .t (.int .u8 c)] (zc5 l) .junk (zfp (l ++ [.int .u8 c])) := by
  have hC := zd4 l
  unfold zc5 at hC ⊢
  unfold zfp
  refine wIG Tryz.func75 ?_
  repeat' (first | refine wC ?_ | refine wK ?_ | ((with_reducible refine zR ?_); refine zt rfl rfl rfl rfl rfl rfl rfl rfl rfl rfl ?_ ?_ ?_) | ((with_reducible refine zk ?_); refine wN (.tup []) [] hC ?_) | fail)
  · simp; omega
  · simp; omega
  · refine ye ((za [4] [.par 0, .loc 14] rfl rfl).trans (zq (.loc 14) (.res 0) rfl rfl rfl rfl)) ?_
    exact y4 (zE (xd rfl (AVLE.junk _)) (zW ⟨rfl, rfl, trivial⟩))
set_option maxHeartbeats 1000000 in
theorem jQ (l : List UInt8) (hs : l.length ≤ 100000000) (hne : l ≠ []) : Spec Tryz.prog 70 [.ref (.par 0) 0 0 0] (zc5 (l.map u8T)) (.t (.str (ofL l))) [] := by
  unfold zc5
  refine wI Tryz.func70 ?_
  repeat' (first | refine wC ?_ | refine wK ?_ | ((with_reducible refine zdp ?_); refine zci rfl rfl rfl rfl rfl rfl ?_ ?_) | ((with_reducible refine jZ ?_); refine jP rfl rfl rfl rfl rfl rfl rfl rfl ?_ ?_ ?_ ?_) | fail)
  · simpa using hne
  · rfl
  · exact hne
  · omega
  · exact zE (zh rfl rfl rfl) (by simp)
end Go.AL
namespace Go.AL
open Go Go.Proofs Go.RowKit Go.Shelf
theorem zaB {P : Program} (t : TypeId) {d : TypeDesc} [tu : TyU P t d] (w : World) : (isAgg t).run P w = .ok (yG d) w := qi tu
theorem zai {P : Program} (t : TypeId) {s b : Nat} {z : Value} [ti : TyI P t s b z] (w : World) : (Go.sizeOf t).run P w = .ok s w := yw ti
theorem zaA {P : Program} (t : TypeId) {s b : Nat} {z : Value} [ti : TyI P t s b z] (w : World) : (zeroValue t).run P w = .ok z w := yj ti
def zhW : Ren := ⟨fun | 99 => 87 | 105 => 73 | 165 => 88 | 166 => 68 | 169 => 70 | 170 => 89 | 206 => 101 | 212 => 86 | 240 => 85 | 241 => 102 | 263 => 99 | 264 => 100 | 276 => 98 | 277 => 104 | x => x, fun | 0 => 0 | 3 => 3 | 4 => 4 | 5 => 5 | 9 => 9 | 20 => 20 | 37 => 37 | 46 => 63 | 51 => 57 | 53 => 88 | 70 => 93 | 72 => 95 | 75 => 97 | 76 => 98 | 80 => 100 | 109 => 113 | 127 => 112 | 146 => 120 | 148 => 122 | 164 => 118 | x => x, fun x => x⟩
set_option maxRecDepth 100000 in
theorem ziX : Lays.n105 Tryz.prog zhW where
  mixed := by kernel_rfl
  f99 := by kernel_rfl
  f105 := by kernel_rfl
  f165 := by kernel_rfl
  f166 := by kernel_rfl
  f169 := by kernel_rfl
  f170 := by kernel_rfl
  f206 := by kernel_rfl
  f212 := by kernel_rfl
  f240 := by kernel_rfl
  f241 := by kernel_rfl
  f263 := by kernel_rfl
  f264 := by kernel_rfl
  f276 := by kernel_rfl
  f277 := by kernel_rfl
  t0 := Tryz.underlying0
  a0 := fun w => zaB (P := Tryz.prog) (d := (TypeDesc.tuple #[])) 0 w
  z0 := fun w => zai 0 w
  v0 := fun w => zaA 0 w
  t3 := Tryz.underlying3
  a3 := fun w => zaB (P := Tryz.prog) (d := (TypeDesc.int IntKind.i64)) 3 w
  z3 := fun w => zai 3 w
  v3 := fun w => zaA 3 w
  t4 := Tryz.underlying4
  a4 := fun w => zaB (P := Tryz.prog) (d := TypeDesc.bool) 4 w
  z4 := fun w => zai 4 w
  v4 := fun w => zaA 4 w
  t5 := Tryz.underlying5
  a5 := fun w => zaB (P := Tryz.prog) (d := (TypeDesc.int IntKind.u8)) 5 w
  z5 := fun w => zai 5 w
  v5 := fun w => zaA 5 w
  t9 := Tryz.underlying9
  a9 := fun w => zaB (P := Tryz.prog) (d := TypeDesc.string) 9 w
  z9 := fun w => zai 9 w
  v9 := fun w => zaA 9 w
  t20 := Tryz.underlying20
  a20 := fun w => zaB (P := Tryz.prog) (d := (TypeDesc.interface #[])) 20 w
  z20 := fun w => zai 20 w
  v20 := fun w => zaA 20 w
  t37 := Tryz.underlying37
  a37 := fun w => zaB (P := Tryz.prog) (d := (TypeDesc.slice 5)) 37 w
  z37 := fun w => zai 37 w
  v37 := fun w => zaA 37 w
  t46 := Tryz.underlying63
  a46 := fun w => zaB (P := Tryz.prog) (d := (TypeDesc.int IntKind.u64)) 63 w
  z46 := fun w => zai 63 w
  v46 := fun w => zaA 63 w
  t51 := Tryz.underlying57
  a51 := fun w => zaB (P := Tryz.prog) (d := (TypeDesc.int IntKind.u32)) 57 w
  z51 := fun w => zai 57 w
  v51 := fun w => zaA 57 w
  t53 := Tryz.underlying88
  a53 := fun w => zaB (P := Tryz.prog) (d := (TypeDesc.int IntKind.u64)) 88 w
  z53 := fun w => zai 88 w
  v53 := fun w => zaA 88 w
  t70 := Tryz.underlying93
  a70 := fun w => zaB (P := Tryz.prog) (d := (TypeDesc.pointer 95)) 93 w
  z70 := fun w => zai 93 w
  v70 := fun w => zaA 93 w
  t72 := Tryz.underlying95
  a72 := fun w => zaB (P := Tryz.prog) (d := (TypeDesc.struct #[{ name := "addr", type := 93, offset := 0, embedded := false, tag := "", pkgPath := "strings", byteOffset := 0 }, { name := "buf", type := 37, offset := 1, embedded := false, tag := "", pkgPath := "strings", byteOffset := 8 }])) 95 w
  z72 := fun w => zai 95 w
  v72 := fun w => zaA 95 w
  t75 := Tryz.underlying97
  a75 := fun w => zaB (P := Tryz.prog) (d := (TypeDesc.interface #[("Error", 100)])) 97 w
  z75 := fun w => zai 97 w
  v75 := fun w => zaA 97 w
  t76 := Tryz.underlying98
  a76 := fun w => zaB (P := Tryz.prog) (d := (TypeDesc.tuple #[3, 97])) 98 w
  z76 := fun w => zai 98 w
  v76 := fun w => zaA 98 w
  t109 := Tryz.underlying113
  a109 := fun w => zaB (P := Tryz.prog) (d := (TypeDesc.tuple #[63, 63])) 113 w
  z109 := fun w => zai 113 w
  v109 := fun w => zaA 113 w
  t127 := Tryz.underlying112
  a127 := fun w => zaB (P := Tryz.prog) (d := (TypeDesc.pointer 5)) 112 w
  z127 := fun w => zai 112 w
  v127 := fun w => zaA 112 w
  t146 := Tryz.underlying120
  a146 := fun w => zaB (P := Tryz.prog) (d := (TypeDesc.tuple #[57, 57])) 120 w
  z146 := fun w => zai 120 w
  v146 := fun w => zaA 120 w
  t148 := Tryz.underlying122
  a148 := fun w => zaB (P := Tryz.prog) (d := (TypeDesc.tuple #[88, 88])) 122 w
  z148 := fun w => zai 122 w
  v148 := fun w => zaA 122 w
  t164 := Tryz.underlying118
  a164 := fun w => zaB (P := Tryz.prog) (d := TypeDesc.unsafePointer) 118 w
  z164 := fun w => zai 118 w
  v164 := fun w => zaA 118 w
theorem zgQ : Builder.Extra Tryz.prog zhW where
  sizeBuilder := by kernel_rfl
  liesBuilder := by kernel_rfl
  t5 := Tryz.underlying5
  a5 := fun w => zaB (P := Tryz.prog) (d := .int .u8) 5 w
  z5 := fun w => zai 5 w
  v5 := fun w => zaA 5 w
  infoByte := by kernel_rfl
  cellsByte := by kernel_rfl
  sizeByte := by kernel_rfl
  neB5 := by decide
theorem Spec.of_below {P : Program} {f : FuncId} {args : List AV} {r : AV} (H : ∀ h m (vs : Array Value) w, vs.size = args.length → RepAs h m (fun j => vs[j]?) 0 args → Calls P f vs w fun e w' => ∃ v, e = .returned v ∧ (∀ h' m', RepA h' m' v r) ∧ Below w.heap.size w w') : Spec P f args [] r [] where
  run h m vs w hs hv hr := (H h m vs w hv hr).mono fun e w' ⟨v, he, hv', hb⟩ => by
    refine ⟨v, h, m, he, hv' h m, ⟨fun b o hb' => ?_, fun _ _ hx => by simp [StL.get] at hx, fun _ _ _ hx => by simp [StL.get] at hx, fun _ _ _ _ _ hx => by simp [StL.get] at hx⟩, ?_⟩
    · have h1 := hs.imm b o hb'
      have hlt : b < w.heap.size := by
        rcases Nat.lt_or_ge b w.heap.size with h2 | h2
        · exact h2
        · rw [Array.getElem?_eq_none h2] at h1; cases h1
      rw [hb.block b hlt]; exact h1
    · exact ⟨⟨hb.os, hb.tape, hb.output, hb.size, fun b hb' _ => ⟨hb.block b hb', rfl⟩, fun _ _ hu => hu, fun _ _ _ hx => by simp [StL.get] at hx⟩, fun _ => rfl⟩
theorem jk (s : ByteArray) (c : Nat) (hc : c ≤ 9223372036854775807) (hl : s.size * c ≤ 140737488355328) : Spec Tryz.prog 73 [.t (.str s), .t (.int .i64 (c : Int))] [] (.t (.str ⟨(Lib.repeatL s.data.toList c).toArray⟩)) [] :=
  Spec.of_below fun h m vs w hv hr => by
    simp only [RepAs, RepA, RepT, and_true] at hr
    obtain ⟨⟨u0, h0, rfl⟩, u1, h1, rfl⟩ := hr
    have hv2 : vs.size = 2 := hv
    have e : vs = #[.string s, .int .i64 c] := by
      apply Array.ext
      · simpa using hv2
      · intro i h1' h2'
        have : i = 0 ∨ i = 1 := by omega
        rcases this with rfl | rfl
        · rw [Array.getElem?_eq_getElem h1'] at h0; simpa using h0
        · rw [Array.getElem?_eq_getElem h1'] at h1; simpa using h1
    subst e
    exact (Any.strings_Repeat ziX zgQ s c w hc hl).mono fun e w' ⟨he, hb⟩ => ⟨_, he, fun h' m' => by simp [RepA, RepT], hb⟩
theorem zap (b : UInt8) : ∀ c : Nat, Lib.repeatL [b] c = List.replicate c b
  | 0 => rfl
  | c + 1 => by rw [Lib.repeatL, zap b c, List.replicate_succ]; rfl
end Go.AL
namespace Go.AL
open Go Go.Proofs Go.RowKit
theorem zjD (n c : Nat) : IntKind.u8.wrap ((n : Int) / 2 ^ (8 * c)) = ((UInt8.ofNat (n / 256 ^ c)).toNat : Int) := by
  have e : (2 : Int) ^ (8 * c) = ((256 ^ c : Nat) : Int) := by
    have : (256 : Nat) ^ c = 2 ^ (8 * c) := by rw [Nat.pow_mul]
    rw [this]; simp
  rw [e]
  simp only [IntKind.wrap, IntKind.bits, IntKind.signed, Bool.false_and, Bool.false_eq_true, if_false]
  rw [UInt8.toNat_ofNat']
  omega
theorem qx (l : List UInt8) : vL (l.map u8T) = ofL l := by
  unfold vL strOfNums ofL
  rw [List.map_map, List.map_map]
  have : (((fun n => UInt8.ofNat n.toNat) ∘ T.num) ∘ u8T) = id := by
    funext b
    show UInt8.ofNat ((b.toNat : Int).toNat) = b
    simp
  rw [this, List.map_id]
theorem kN (l : List UInt8) : IsU8 (l.map u8T) := by
  intro e he
  obtain ⟨b, _, rfl⟩ := List.mem_map.1 he
  rfl
theorem ww (s : ByteArray) : zX s = s.data.toList.map u8T := rfl
set_option maxHeartbeats 4000000 in
theorem zf7 (left : ByteArray) (n : Nat) (hl : left.size ≤ 50000000) (hn : n ≤ 100000000) : Spec Tryz.prog 50 [.t (.str left), .t (.int .i64 (n : Int))] [] (.t (.str (ofL (ws left.data.toList n)))) [] := by
  obtain ⟨z, hz⟩ : ∃ z : Nat, z = (119 - left.size % 64) % 64 := ⟨_, rfl⟩
  have hz63 : z ≤ 63 := by omega
  have hz1 : (left.size : Int).tmod 64 = ((left.size % 64 : Nat) : Int) := by rw [Int.tmod_eq_emod_of_nonneg (by omega)]; omega
  have hz2 : (IntKind.i64.wrap (119 - (left.size : Int).tmod 64)).tmod 64 = (z : Int) := by
    rw [hz1, zl (by omega) (by omega), Int.tmod_eq_emod_of_nonneg (by omega), hz]; omega
  have hR := jk ⟨#[0]⟩ z (by omega) (by show 1 * z ≤ _; omega)
  rw [show (⟨#[0]⟩ : ByteArray).data.toList = [0] from rfl, zap] at hR
  rw [← hz2] at hR
  obtain ⟨Z, hZ⟩ : ∃ Z : ByteArray, Z = ⟨(List.replicate z (0 : UInt8)).toArray⟩ := ⟨_, rfl⟩
  have hZs : Z.size = z := by rw [hZ]; simp [ByteArray.size]
  have hZl : Z.data.toList = List.replicate z 0 := by rw [hZ]
  rw [← hZ] at hR
  have h1 := zbl left (by omega)
  have h2 := zd2 (zX left) 128 (by rw [yh]; omega)
  have h3 := zbr (zX left ++ [.int .u8 128]) Z (by rw [List.length_append, yh]; simp; omega)
  have h4 := fun es c h => zd2 es c h
  have h5 := fun l h h' => jQ l h h'
  unfold ziK zfp at h1
  unfold zc5 zfp at h2 h3 h4
  unfold zc5 at h5
  refine wI Tryz.func50 ?_
  repeat' (first | refine wC ?_ | refine wK ?_ | ((with_reducible refine zk ?_); first | refine wN (.tup [_, _]) [(.par 0, .loc 6), (.res 0, .loc 901)] h1 ?_ | refine wN .junk [(.par 0, .loc 6), (.par 1, .loc 901), (.res 0, .loc 902)] h2 ?_ | refine wL hR ?_ | refine wN (.tup [_, _]) [(.par 0, .loc 6), (.par 1, .loc 902), (.res 0, .loc 903)] h3 ?_) | fail)
  rw [yT (n := (n : Int)) (by omega) (by omega), yT (n := (n : Int) * 8) (by omega) (by omega), show (n : Int) * 8 = ((8 * n : Nat) : Int) by omega]
  refine zc (za [6, 7, 8] [.loc 6, .loc 903] rfl rfl) ?_
  refine zi (fun p env st => ∃ (c : Nat) (es : List T), c ≤ 8 ∧ p = c ∧ es.length ≤ 90000000 - c ∧ es ++ (xu c (8 * n)).map u8T = (ws left.data.toList n).map u8T ∧
      env = EnvL.get [(6, .ref (.loc 6) 0 0 0), (7, .t (.int .u64 ((8 * n : Nat) : Int))), (8, .t (.int .i64 ((c : Int) - 1)))] ∧
      st = StO.get [(.loc 6, some (.var 95 [.ref (.loc 6) 0 0 0, .row (.loc 903)])), (.loc 903, some (.slt 5 1 es))])
    ?_ (n := 8) ⟨8, zX left ++ [.int .u8 128] ++ zX Z, by omega, rfl, ?_, ?_, rfl, rfl⟩
  rotate_left
  · simp only [List.length_append, yh, List.length_cons, List.length_nil]; omega
  · rw [ww, ww, hZl]
    unfold ws
    rw [show (119 - left.data.toList.length % 64) % 64 = z by rw [hz]; rfl]
    simp only [List.map_append, List.map_cons, List.append_assoc]
    rfl
  clear h1 h2 h3 hR
  rintro p env st ⟨c, es, hc8, rfl, hlen, hi, rfl, rfl⟩
  have h4 := fun x => h4 es x (by omega)
  by_cases hp : p = 0
  · subst hp
    simp only [xu, List.map_nil, List.append_nil] at hi
    subst hi
    have h5 := h5 (ws left.data.toList n) (by rw [jr]; simp; omega) (by unfold ws; simp)
    repeat' (first | refine wC ?_ | refine wK ?_ | ((with_reducible refine zk ?_); refine wN (.t (.str _)) [(.par 0, .loc 6), (.par 1, .loc 903)] h5 ?_) | fail)
    exact zE (zh rfl rfl rfl) (by simp)
  · obtain ⟨c, rfl⟩ : ∃ c, p = c + 1 := ⟨p - 1, by omega⟩
    have e : (min (IntKind.i64.wrap (8 * (((c + 1 : Nat) : Int) - 1))).toNat IntKind.u64.bits) = 8 * c := by
      rw [zl (by omega) (by omega)]
      have : IntKind.u64.bits = 64 := rfl
      omega
    repeat' (first | refine wC ?_ | refine wK ?_ | ((with_reducible refine zU ?_); refine kp rfl rfl rfl rfl rfl rfl ?_ ?_) | ((with_reducible refine zk ?_); refine wN .junk [(.par 0, .loc 6), (.par 1, .loc 903), (.res 0, .loc 904)] (h4 _) ?_) | refine zo rfl ?_ ?_ <;> intro hc | fail)
    · rw [zl (by omega) (by omega)]; omega
    · rw [e, zjD]
      refine zD (n' := c) (by omega) ((za [6, 7, 8] [.loc 6, .loc 904] rfl rfl).trans (zq (.loc 904) (.loc 903) rfl rfl rfl rfl)) ⟨c, es ++ [.int .u8 ((UInt8.ofNat (8 * n / 256 ^ c)).toNat : Int)], by omega, rfl, by rw [List.length_append]; simp; omega, ?_, ?_, rfl⟩
      · rw [← hi, List.append_assoc]; rfl
      · rw [zl (by omega) (by omega), show ((c + 1 : Nat) : Int) - 1 - 1 = (c : Int) - 1 by omega]; rfl
    · exfalso; omega
set_option maxHeartbeats 4000000 in
theorem zf5 (s : ByteArray) (hl : s.size ≤ 50000000) : Spec Tryz.prog 36 [.t (.str s)] [] (.t (.str (ofL (zN s.data.toList)))) [] := by
  unfold zN
  obtain ⟨n, hn⟩ : ∃ n, n = s.size := ⟨_, rfl⟩
  have hn2 : s.data.toList.length = n := by rw [hn]; rfl
  obtain ⟨z, hz⟩ : ∃ z : Nat, z = (119 - n % 64) % 64 := ⟨_, rfl⟩
  refine wI Tryz.func36 ?_
  repeat' (first | refine wC ?_ | refine wK ?_ | ((with_reducible refine zY ?_); refine zes rfl rfl rfl rfl rfl rfl ?_ ?_) | ((with_reducible refine zR ?_); refine zt rfl rfl rfl rfl rfl rfl rfl rfl rfl rfl ?_ ?_ ?_) | fail)
  · omega
  · rw [yh]; simp; omega
  · rw [yh]; simp; omega
  refine zc (za [0, 3] [.loc 8] rfl rfl) ?_
  refine zi (fun p env st => ∃ (j : Nat) (es : List T), j ≤ z ∧ p = z - j ∧ es = zX s ++ ([.int .u8 128] ++ (List.replicate j (0 : UInt8)).map u8T) ∧
      env = EnvL.get [(0, .t (.str s)), (3, .row (.loc 8))] ∧ st = StO.get [(.loc 8, some (.slt 5 1 es))])
    ?_ (n := z) ⟨0, _, by omega, rfl, rfl, rfl, by simp; rfl⟩
  rintro p env st ⟨j, es, hj, rfl, hes, rfl, rfl⟩
  have hel : es.length = n + 1 + j := by rw [hes]; simp [yh]; omega
  have hm : ((es.length : Int)).tmod 64 = ((n + 1 + j) % 64 : Nat) := by rw [hel, Int.tmod_eq_emod_of_nonneg (by omega)]; omega
  by_cases hjz : j = z
  · subst hjz
    have h56 : (n + 1 + j) % 64 = 56 := by omega
    repeat' (first | refine wC ?_ | refine wK ?_ | ((with_reducible refine zR ?_); refine zt rfl rfl rfl rfl rfl rfl rfl rfl rfl rfl ?_ ?_ ?_) | refine yL rfl ?_ ?_ <;> intro hc | fail)
    all_goals try (exfalso; omega)
    refine zc (za [0, 3, 4] [.loc 8] rfl rfl) ?_
    refine zi (fun p env st => ∃ (c : Nat) (es : List T), c ≤ 8 ∧ p = c ∧ es.length ≤ 90000000 - c ∧ es ++ (xu c (8 * n)).map u8T = (ws s.data.toList n).map u8T ∧
        env = EnvL.get [(0, .t (.str s)), (3, .row (.loc 8)), (4, .t (.int .i64 (8 * (c : Int) - 8)))] ∧ st = StO.get [(.loc 8, some (.slt 5 1 es))])
      ?_ (n := 8) ⟨8, es, by omega, rfl, by omega, ?_, rfl, rfl⟩
    rotate_left
    · rw [hes, ww]
      unfold ws
      rw [hn2, ← hz]
      simp only [List.map_append, List.map_cons, List.append_assoc]
      rfl
    clear hes hel hm
    rintro p env st ⟨c, es, hc8, rfl, hlen, hi, rfl, rfl⟩
    by_cases hp : p = 0
    · subst hp
      simp only [xu, List.map_nil, List.append_nil] at hi
      subst hi
      repeat' (first | refine wC ?_ | refine wK ?_ | ((with_reducible refine zY ?_); refine zF rfl rfl rfl rfl rfl rfl ?_ ?_) | fail)
      · exact kN _
      · exact zE (zh rfl rfl (congrArg T.str (by rw [qx, hn2]))) (by simp)
    · obtain ⟨c, rfl⟩ : ∃ c, p = c + 1 := ⟨p - 1, by omega⟩
      have e0 : IntKind.u64.wrap (8 * ((c + 1 : Nat) : Int) - 8) = ((8 * c : Nat) : Int) := by rw [yT (by omega) (by omega)]; omega
      have e1 : min ((8 * c : Nat) : Int).toNat IntKind.u64.bits = 8 * c := by
        have : IntKind.u64.bits = 64 := rfl
        omega
      have e2 : IntKind.u64.wrap (IntKind.u64.wrap (s.size : Int) * 8) = ((8 * n : Nat) : Int) := by rw [yT (n := (s.size : Int)) (by omega) (by omega), yT (by omega) (by omega)]; omega
      repeat' (first | refine wC ?_ | refine wK ?_ | ((with_reducible refine zU ?_); refine kp rfl rfl rfl rfl rfl rfl ?_ ?_) | ((with_reducible refine zY ?_); refine zF rfl rfl rfl rfl rfl rfl ?_ ?_) | ((with_reducible refine zR ?_); refine zt rfl rfl rfl rfl rfl rfl rfl rfl rfl rfl ?_ ?_ ?_) | refine zo rfl ?_ ?_ <;> intro hc | fail)
      · rw [e0]; omega
      · simp; omega
      · simp; omega
      · rw [e0, e1, e2, zjD]
        refine zD (n' := c) (by omega) ((za [0, 3, 4] [.loc 30] rfl rfl).trans (zq (.loc 30) (.loc 8) rfl rfl rfl rfl)) ⟨c, es ++ [.int .u8 ((UInt8.ofNat (8 * n / 256 ^ c)).toNat : Int)], by omega, rfl, by rw [List.length_append]; simp; omega, ?_, ?_, rfl⟩
        · rw [← hi, List.append_assoc]; rfl
        · rw [zl (by omega) (by omega), show 8 * ((c + 1 : Nat) : Int) - 8 - 8 = 8 * (c : Int) - 8 by omega]; rfl
      all_goals (exfalso; omega)
  · repeat' (first | refine wC ?_ | refine wK ?_ | ((with_reducible refine zR ?_); refine zt rfl rfl rfl rfl rfl rfl rfl rfl rfl rfl ?_ ?_ ?_) | refine yL rfl ?_ ?_ <;> intro hc | fail)
    · exfalso; rw [hm] at hc; omega
    · simp; omega
    · simp; omega
    · refine zD (n' := z - (j + 1)) (by omega) ((za [0, 3] [.loc 15] rfl rfl).trans (zq (.loc 15) (.loc 8) rfl rfl rfl rfl)) ⟨j + 1, es ++ [.int .u8 0], by omega, rfl, ?_, rfl, rfl⟩
      rw [hes, List.replicate_succ', List.map_append, List.append_assoc, List.append_assoc]; rfl
set_option maxHeartbeats 1000000 in
theorem zfe : Spec Tryz.prog 48 [] [] (.t (.agg zdZ.t)) [] := by
  refine wI Tryz.func48 ?_
  repeat' (first | refine wC ?_ | refine wK ?_ | ((with_reducible refine v8 ?_); refine xp (r := (.t (.agg _))) rfl rfl rfl rfl rfl rfl rfl ?_) | fail)
  exact wD
set_option maxHeartbeats 1000000 in
theorem zeY : Spec Tryz.prog 34 [] [] (.t (.agg zdZ.t)) [] := by
  refine wI Tryz.func34 ?_
  repeat' (first | refine wC ?_ | refine wK ?_ | ((with_reducible refine v8 ?_); refine xp (r := (.t (.agg _))) rfl rfl rfl rfl rfl rfl rfl ?_) | fail)
  exact wD
set_option maxHeartbeats 4000000 in
set_option maxRecDepth 10000 in
theorem zdM : Spec Tryz.prog 35 [] [] (.t (.agg (zbw.map wY))) [] := by
  refine wI Tryz.func35 ?_
  repeat' (first | refine wC ?_ | refine wK ?_ | ((with_reducible refine v8 ?_); refine xp (r := (.t (.agg _))) rfl rfl rfl rfl rfl rfl rfl ?_) | fail)
  exact wD
set_option maxHeartbeats 4000000 in
set_option maxRecDepth 10000 in
theorem ze1 : Spec Tryz.prog 49 [] [] (.ref (.res 0) 0 0 0) [(.res 0, .arr 60 1 (zbw.map wY))] := by
  refine wIG Tryz.func49 ?_
  repeat' (first | refine wC ?_ | refine wK ?_ | ((with_reducible refine v8 ?_); refine xp (r := (.t (.agg _))) rfl rfl rfl rfl rfl rfl rfl ?_) | fail)
  refine ye (yg (id := .loc 2) rfl (RowLE.arr (es := zbw.map wY) rfl (xq _)) rfl) ?_
  refine ye ((za [0] [.loc 2] rfl rfl).trans (zq (.loc 2) (.res 0) rfl rfl rfl rfl)) ?_
  exact y4 (zE (xd rfl (AVLE.refl _)) (zW ⟨rfl, trivial⟩))
def b0 (x : Int) : Int := IntKind.u8.wrap (x / 2 ^ 24)
def b1 (x : Int) : Int := IntKind.u8.wrap (x / 2 ^ 16)
def b2 (x : Int) : Int := IntKind.u8.wrap (x / 2 ^ 8)
def b3 (x : Int) : Int := IntKind.u8.wrap x
theorem xE {x : Int} (h0 : 0 ≤ x) (h1 : x < 4294967296) : [b0 x, b1 x, b2 x, b3 x].map (T.int .u8) = (w4 x).map u8T := by
  obtain ⟨n, rfl⟩ : ∃ n : Nat, x = n := ⟨x.toNat, by omega⟩
  have e0 := zjD n 3
  have e1 := zjD n 2
  have e2 := zjD n 1
  have e3 := zjD n 0
  simp only [Nat.mul_zero, Int.pow_zero, Int.ediv_one] at e3
  unfold w4 b0 b1 b2 b3
  rw [Int.toNat_natCast]
  simp only [xu, List.map_cons, List.map_nil, u8T]
  rw [← e0, ← e1, ← e2, ← e3]
def zjA (f0 f1 f2 f3 : Int → Int) (v : List Int) (i : Nat) (l : List Int) : List Int := (((l.set (4 * i) (f0 (v.getD i 0))).set (4 * i + 1) (f1 (v.getD i 0))).set (4 * i + 2) (f2 (v.getD i 0))).set (4 * i + 3) (f3 (v.getD i 0))
theorem zhD (f0 f1 f2 f3 : Int → Int) (v : H8) : xf (zjA f0 f1 f2 f3 v.l) 8 0 (List.replicate 32 0) = [f0 v.a, f1 v.a, f2 v.a, f3 v.a] ++ [f0 v.b, f1 v.b, f2 v.b, f3 v.b] ++ [f0 v.c, f1 v.c, f2 v.c, f3 v.c] ++ [f0 v.d, f1 v.d, f2 v.d, f3 v.d] ++ [f0 v.e, f1 v.e, f2 v.e, f3 v.e] ++ [f0 v.f, f1 v.f, f2 v.f, f3 v.f] ++ [f0 v.g, f1 v.g, f2 v.g, f3 v.g] ++ [f0 v.h, f1 v.h, f2 v.h, f3 v.h] := by kernel_rfl
theorem zjc (v : H8) (hv : v.In) : (xf (zjA b0 b1 b2 b3 v.l) 8 0 (List.replicate 32 0)).map (T.int .u8) = v.out.map u8T := by
  rw [zhD]
  obtain ⟨h1, h2, h3, h4, h5, h6, h7, h8⟩ := hv
  unfold H8.out
  simp only [List.map_append, xE h1.1 h1.2, xE h2.1 h2.2, xE h3.1 h3.2, xE h4.1 h4.2, xE h5.1 h5.2, xE h6.1 h6.2, xE h7.1 h7.2, xE h8.1 h8.2]
theorem wV (b : ByteArray) (i j : Nat) : (b.extract i j).data.toList = (b.data.toList.drop i).take (j - i) := by
  simp [ByteArray.data_extract]
theorem zjf (l : List Int) : ∀ x ∈ l.map (T.int .u8), x.isAgg = false := fun x hx => by
  obtain ⟨n, _, rfl⟩ := List.mem_map.1 hx; rfl
theorem zdW (l : List UInt8) : ∀ x ∈ l.map u8T, x.isAgg = false := fun x hx => by
  obtain ⟨n, _, rfl⟩ := List.mem_map.1 hx; rfl
set_option maxHeartbeats 8000000 in
theorem vx (s : ByteArray) (hs : s.size ≤ 40000000) : Spec Tryz.prog 28 [.t (.str s)] [] (.t (.str (sha s))) [] := by
  obtain ⟨w, hw⟩ : ∃ w : Nat, w = s.size / 64 * 64 := ⟨_, rfl⟩
  have hsp := zeX s.data.toList w hw
  rw [z8] at hsp
  have e1 : IntKind.i64.wrap (IntKind.i64.wrap ((s.size : Int).tdiv 64) * 64) = (w : Int) := by
    rw [Int.tdiv_eq_ediv_of_nonneg (by omega), zl (n := (s.size : Int) / 64) (by omega) (by omega), zl (by omega) (by omega), hw]; omega
  have hR := zf7 (s.extract (w : Int).toNat (s.size : Int).toNat) s.size (by rw [ByteArray.size_extract]; omega) (by omega)
  rw [← e1] at hR
  refine wI Tryz.func28 ?_
  repeat' (first | refine wC ?_ | refine wK ?_ | ((with_reducible refine yA ?_); first | refine zy rfl rfl rfl ⟨_, rfl⟩ rfl rfl rfl ?_ ?_ ?_ ?_ | refine zy rfl rfl ⟨_, rfl⟩ rfl rfl rfl rfl ?_ ?_ ?_ ?_) | ((with_reducible refine zk ?_); first | refine wL zfe ?_ | refine wN (.ref (.loc 907) 0 0 0) [(.res 0, .loc 907)] ze1 ?_ | refine wL hR ?_) | fail)
  all_goals try simp only [e1]
  all_goals try omega
  obtain ⟨A, hA⟩ : ∃ A, A = s.extract (Int.toNat 0) (w : Int).toNat := ⟨_, rfl⟩
  obtain ⟨B, hB⟩ : ∃ B, B = ofL (ws (s.extract (w : Int).toNat (s.size : Int).toNat).data.toList s.size) := ⟨_, rfl⟩
  have hAl : A.data.toList = s.data.toList.take w := by rw [hA, wV]; simp
  have hBx : (s.extract (w : Int).toNat (s.size : Int).toNat).data.toList = s.data.toList.drop w := by
    rw [wV, List.take_of_length_le (by rw [List.length_drop]; have := z8 s; omega)]; simp
  have hBl : B.data.toList = ws (s.data.toList.drop w) s.size := by rw [hB, xn, hBx]
  rw [← hA, ← hB]
  have hAs : A.size = w := by rw [← z8, hAl, List.length_take]; have := z8 s; omega
  have hBs : B.size = (ws (s.data.toList.drop w) s.size).length := by rw [← z8, hBl]
  have hBm : B.size % 64 = 0 ∧ B.size ≤ 200 := by
    rw [hBs, jr, List.length_drop, z8]; omega
  refine zc (za [3, 4, 26, 27, 28] [.loc 3, .loc 26, .loc 907] rfl rfl) ?_
  refine zc (zz (id := .loc 26) rfl rfl rfl) ?_
  obtain ⟨Hs, hH0, hH1, hH2, hsha⟩ : ∃ Hs : Nat → H8, Hs 0 = zdZ ∧ Hs 1 = xJ (A.size / 64) (Hs 0) A.data.toList ∧ Hs 2 = xJ (B.size / 64) (Hs 1) B.data.toList ∧ zia s.data.toList = (Hs 2).out := by
    refine ⟨fun i => match i with | 0 => zdZ | 1 => xJ (A.size / 64) zdZ A.data.toList | _ => xJ (B.size / 64) (xJ (A.size / 64) zdZ A.data.toList) B.data.toList, rfl, rfl, rfl, ?_⟩
    rw [hsp, hBs, hAs, hAl, hBl]; rfl
  have hIn : (Hs 2).In := by rw [hH2, hH1, hH0]; exact kT _ _ _ (kT _ _ _ zfY)
  obtain ⟨L, hL⟩ : ∃ L, L = [A, B] := ⟨_, rfl⟩
  have hLs : ∀ j, j < 2 → (L.getD j default).size % 64 = 0 ∧ (L.getD j default).size ≤ 40000000 ∧ Hs (j + 1) = xJ ((L.getD j default).size / 64) (Hs j) (L.getD j default).data.toList := by
    intro j hj
    have : j = 0 ∨ j = 1 := by omega
    rcases this with rfl | rfl
    · rw [hL]; exact ⟨by show A.size % 64 = 0; omega, by show A.size ≤ _; omega, hH1⟩
    · rw [hL]; exact ⟨hBm.1, by show B.size ≤ _; omega, hH2⟩
  refine zc (zhg 26 (y := .sl 1 (L.map .str)) rfl (by rw [hL]; exact .refl _) rfl) ?_
  have hLl : L.length = 2 := by rw [hL]; rfl
  refine zc (za [3, 4, 26, 27, 28] [.loc 3, .loc 907] rfl rfl) ?_
  refine zi (fun p env st => ∃ (j : Nat), j ≤ 2 ∧ p = 2 - j ∧
      env = EnvL.get [(3, .ref (.loc 3) 0 0 0), (4, .ref (.loc 907) 0 0 0), (26, .t (.sl 1 (L.map .str))), (27, .t (.int .i64 2)), (28, .t (.int .i64 (j : Int)))] ∧
      st = StO.get [(.loc 3, some (.var 74 ((Hs j).t.map AV.t))), (.loc 907, some (.arr 60 1 (zbw.map wY)))])
    ?_ (n := 2) ⟨0, by omega, rfl, rfl, by rw [hH0]; rfl⟩
  clear hH0 hH1 hH2 hR hsp hL
  rintro p env st ⟨j, hj, rfl, rfl, rfl⟩
  by_cases hlt : j < 2
  · obtain ⟨m1, m2, m3⟩ := hLs j hlt
    have hg : L.getD (j : Int).toNat default = L.getD j default := rfl
    repeat' (first | refine wC ?_ | refine wK ?_ | ((with_reducible refine zj ?_); refine zg rfl rfl rfl rfl rfl rfl ?_ ?_ ?_) | refine zo rfl ?_ ?_ <;> intro hc | fail)
    all_goals try (exfalso; omega)
    · omega
    · omega
    refine zc (za [3, 4, 7, 26, 27, 28] [.loc 3, .loc 907] rfl rfl) ?_
    rw [hg]
    generalize L.getD j default = X at m1 m2 m3 ⊢
    refine zi (fun p env st => ∃ (k : Nat) (x : ByteArray) (h : H8), p = k ∧ x.size = 64 * k ∧ x.size ≤ 40000000 ∧ Hs (j + 1) = xJ k h x.data.toList ∧
        env = EnvL.get [(3, .ref (.loc 3) 0 0 0), (4, .ref (.loc 907) 0 0 0), (7, .t (.str x)), (26, .t (.sl 1 (L.map .str))), (27, .t (.int .i64 2)), (28, .t (.int .i64 (j : Int)))] ∧
        st = StO.get [(.loc 3, some (.var 74 (h.t.map AV.t))), (.loc 907, some (.arr 60 1 (zbw.map wY)))])
      ?_ (n := X.size / 64) ⟨X.size / 64, X, Hs j, rfl, by omega, m2, m3, rfl, rfl⟩
    rintro k env st ⟨k', x, h, rfl, hx, hx2, hh, rfl, rfl⟩
    by_cases hk : k = 0
    · subst hk
      have hxe : x = ⟨#[]⟩ := by
        have : x.data.toList = [] := List.eq_nil_of_length_eq_zero (by rw [z8]; omega)
        have h2 := wE x
        rw [this] at h2
        exact h2.symm
      repeat' (first | refine wC ?_ | refine wK ?_ | ((with_reducible refine zk ?_); exact absurd hxe ‹_›) | refine yL rfl ?_ ?_ <;> intro hc | fail)
      exact zD (n' := 2 - (j + 1)) (by omega) (za [3, 4, 26, 27, 28] [.loc 3, .loc 907] rfl rfl) ⟨j + 1, by omega, rfl, by rw [zl (by omega) (by omega)]; rfl, by rw [hh]; rfl⟩
    · obtain ⟨k, rfl⟩ : ∃ c, k = c + 1 := ⟨k - 1, by omega⟩
      have hxe : ¬ x = ⟨#[]⟩ := fun e => by rw [e] at hx; simp [ByteArray.size] at hx
      have hAdd := zgT h x (by omega) (by omega)
      repeat' (first | refine wC ?_ | refine wK ?_ | ((with_reducible refine yA ?_); refine zy rfl rfl ⟨_, rfl⟩ rfl rfl rfl rfl ?_ ?_ ?_ ?_) | ((with_reducible refine zk ?_); refine wN (.tup []) [(.par 0, .loc 3), (.par 1, .loc 907)] hAdd ?_) | refine yL rfl ?_ ?_ <;> intro hc | fail)
      · exact absurd hc hxe
      · omega
      · omega
      · omega
      · refine zD (n' := k) (by omega) (za [3, 4, 7, 26, 27, 28] [.loc 3, .loc 907] rfl rfl) ⟨k, x.extract (Int.toNat 64) (x.size : Int).toNat, zeh h x.data.toList, rfl, by rw [ByteArray.size_extract]; omega, by rw [ByteArray.size_extract]; omega, ?_, rfl, rfl⟩
        rw [hh, wV, List.take_of_length_le (by rw [List.length_drop]; have := z8 x; omega)]
        rfl
  · obtain rfl : j = 2 := by omega
    repeat' (first | refine wC ?_ | refine wK ?_ | fail)
    all_goals try (exfalso; omega)
    rw [show sha s = ofL (Hs 2).out by unfold sha; rw [hsha]]
    generalize Hs 2 = V at hIn ⊢
    obtain ⟨R, hR⟩ : ∃ R, R = xf (zjA b0 b1 b2 b3 V.l) 8 0 (List.replicate 32 0) := ⟨_, rfl⟩
    have hE : R.map (T.int .u8) = V.out.map u8T := by rw [hR]; exact zjc V hIn
    refine zc (yg (id := .loc 8) rfl (RowLE.arr (es := (List.replicate 32 (0 : Int)).map (T.int .u8)) rfl (zjf _)) rfl) ?_
    refine zc (za [8, 40, 41] [.loc 8] rfl rfl) ?_
    have hvl : V.l.length = 8 := rfl
    obtain ⟨vl, hvl'⟩ : ∃ l, l = V.l := ⟨_, rfl⟩
    rw [← hvl'] at hR hvl
    refine zi (fun p env st => ∃ (t : Nat) (l : List Int), t ≤ 8 ∧ p = 8 - t ∧ l.length = 32 ∧ R = xf (zjA b0 b1 b2 b3 vl) (8 - t) t l ∧
        env = EnvL.get [(8, .ref (.loc 8) 0 0 0), (40, .t (.agg (vl.map wY))), (41, .t (.int .i64 (t : Int)))] ∧
        st = StO.get [(.loc 8, some (.arr 80 1 (l.map (T.int .u8))))])
      ?_ (n := 8) ⟨0, _, by omega, rfl, by simp, hR, by rw [hvl']; rfl, rfl⟩
    clear hR
    rintro p env st ⟨t, l, ht, rfl, hl, hi, rfl, rfl⟩
    by_cases hlt : t < 8
    · obtain ⟨c, hc⟩ : ∃ c, 8 - t = c + 1 := ⟨8 - t - 1, by omega⟩
      rw [hc] at hi
      simp only [xf] at hi
      have w0 : IntKind.i64.wrap (4 * (t : Int)) = ((4 * t : Nat) : Int) := by rw [zl (by omega) (by omega)]; omega
      have w1 : IntKind.i64.wrap (((4 * t : Nat) : Int) + 1) = ((4 * t + 1 : Nat) : Int) := by rw [zl (by omega) (by omega)]; omega
      have w2 : IntKind.i64.wrap (((4 * t : Nat) : Int) + 2) = ((4 * t + 2 : Nat) : Int) := by rw [zl (by omega) (by omega)]; omega
      have w3 : IntKind.i64.wrap (((4 * t : Nat) : Int) + 3) = ((4 * t + 3 : Nat) : Int) := by rw [zl (by omega) (by omega)]; omega
      repeat' (first | refine wC ?_ | refine wK ?_ | ((with_reducible refine zj ?_); refine zu rfl rfl rfl rfl rfl rfl ?_ ?_ ?_) | ((with_reducible refine xm ?_); refine yD rfl rfl rfl rfl rfl rfl rfl ?_ ?_) | ((with_reducible refine yu ?_); refine wQ rfl rfl rfl rfl rfl rfl rfl ?_ ?_ ?_ ?_) | refine zo rfl ?_ ?_ <;> intro hc | fail)
      all_goals try simp only [w0, w1, w2, w3, List.length_set, Int.toNat_natCast]
      all_goals try omega
      exact zD (n' := 8 - (t + 1)) (by omega) (za [8, 40, 41] [.loc 8] rfl rfl) ⟨t + 1, zjA b0 b1 b2 b3 vl t l, by omega, rfl, by unfold zjA; simp only [List.length_set]; exact hl, by rw [hi, show 8 - (t + 1) = c by omega], by rw [zl (by omega) (by omega)]; rfl, rfl⟩
    · obtain rfl : t = 8 := by omega
      simp only [Nat.sub_self, xf] at hi
      rw [← hi, hE]
      have hol : (V.out.map u8T).length = 32 := by rw [List.length_map, zgu]
      refine zc (yg (id := .loc 8) rfl (RowLE.unarr (cs := (V.out.map u8T).map AV.t) rfl (zdW _)) rfl) ?_
      refine zc (zgF 8 (.loc 8) (V.out.map u8T) rfl rfl rfl rfl rfl) ?_
      repeat' (first | refine wC ?_ | refine wK ?_ | ((with_reducible refine zY ?_); refine za8 rfl rfl rfl rfl rfl ?_ ?_) | ((with_reducible refine yA ?_); refine zbX rfl rfl rfl rfl rfl rfl ?_ ?_ ?_) | fail)
      all_goals try (exfalso; omega)
      · exact hol
      · exact zdW _
      · exact kN _
      · exact zE (zh rfl rfl (congrArg T.str (qx _))) (by simp)
def zic (f0 f1 f2 f3 : Int → Int) (v : List Int) (i : Nat) (l : List Int) : List Int := l ++ [f0 (v.getD i 0), f1 (v.getD i 0), f2 (v.getD i 0), f3 (v.getD i 0)]
theorem zhq (f0 f1 f2 f3 : Int → Int) (v : H8) : xf (zic f0 f1 f2 f3 v.l) 8 0 [] = [f0 v.a, f1 v.a, f2 v.a, f3 v.a] ++ [f0 v.b, f1 v.b, f2 v.b, f3 v.b] ++ [f0 v.c, f1 v.c, f2 v.c, f3 v.c] ++ [f0 v.d, f1 v.d, f2 v.d, f3 v.d] ++ [f0 v.e, f1 v.e, f2 v.e, f3 v.e] ++ [f0 v.f, f1 v.f, f2 v.f, f3 v.f] ++ [f0 v.g, f1 v.g, f2 v.g, f3 v.g] ++ [f0 v.h, f1 v.h, f2 v.h, f3 v.h] := by kernel_rfl
theorem ziM (v : H8) (hv : v.In) : (xf (zic b0 b1 b2 b3 v.l) 8 0 []).map (T.int .u8) = v.out.map u8T := by
  rw [zhq]
  obtain ⟨h1, h2, h3, h4, h5, h6, h7, h8⟩ := hv
  unfold H8.out
  simp only [List.map_append, xE h1.1 h1.2, xE h2.1 h2.2, xE h3.1 h3.2, xE h4.1 h4.2, xE h5.1 h5.2, xE h6.1 h6.2, xE h7.1 h7.2, xE h8.1 h8.2]
set_option maxHeartbeats 8000000 in
theorem wF (s : ByteArray) (hs : s.size ≤ 40000000) : Spec Tryz.prog 21 [.t (.str s)] [] (.t (.str (sha s))) [] := by
  have hP := zf5 s (by omega)
  have hpl := zgR s.data.toList
  obtain ⟨p, hp⟩ : ∃ p, p = ofL (zN s.data.toList) := ⟨_, rfl⟩
  have hpp : p.data.toList = zN s.data.toList := by rw [hp, xn]
  have hps : p.size = (zN s.data.toList).length := by rw [← z8, hpp]
  rw [z8] at hpl
  have hsl : zia s.data.toList = (xJ (p.size / 64) zdZ p.data.toList).out := by unfold zia; rw [hps, hpp]
  rw [← hp] at hP
  refine wI Tryz.func21 ?_
  repeat' (first | refine wC ?_ | refine wK ?_ | ((with_reducible refine zk ?_); first | refine wL zeY ?_ | refine wL zdM ?_ | refine wL hP ?_) | fail)
  refine zc (yg (id := .loc 4) rfl (RowLE.arr (es := zbw.map wY) rfl (xq _)) rfl) ?_
  refine zc (za [3, 4, 5, 6] [.loc 3, .loc 4] rfl rfl) ?_
  obtain ⟨N, hN⟩ : ∃ N, N = p.size / 64 := ⟨_, rfl⟩
  rw [← hN] at hsl
  have hp64 : p.size = 64 * N := by rw [hN, hps]; have := hpl.1; omega
  have hpm : p.size ≤ 50000000 := by rw [hps]; omega
  obtain ⟨F, hF⟩ : ∃ F, F = xJ N zdZ p.data.toList := ⟨_, rfl⟩
  have hFi : F.In := by rw [hF]; exact kT _ _ _ zfY
  rw [← hF] at hsl
  rw [show sha s = ofL F.out by unfold sha; rw [hsl]]
  clear hsl hP hp hpp hps hpl hN
  refine zi (fun m env st => ∃ (k : Nat) (h : H8), k ≤ N ∧ m = N - k ∧ F = xJ (N - k) h (p.data.toList.drop (64 * k)) ∧
      env = EnvL.get [(3, .ref (.loc 3) 0 0 0), (4, .ref (.loc 4) 0 0 0), (5, .t (.str p)), (6, .t (.int .i64 ((64 * k : Nat) : Int)))] ∧
      st = StO.get [(.loc 3, some (.var 58 (h.t.map AV.t))), (.loc 4, some (.arr 60 1 (zbw.map wY)))])
    ?_ (n := N) ⟨0, zdZ, by omega, rfl, by rw [hF]; rfl, rfl, rfl⟩
  clear hF
  rintro m env st ⟨k, h, hk, rfl, hf, rfl, rfl⟩
  by_cases hlt : k < N
  · have hw1 : IntKind.i64.wrap (((64 * k : Nat) : Int) + 64) = ((64 * k + 64 : Nat) : Int) := by rw [zl (by omega) (by omega)]; omega
    have hB := zey h (p.extract (((64 * k : Nat) : Int)).toNat (IntKind.i64.wrap (((64 * k : Nat) : Int) + 64)).toNat) (by rw [ByteArray.size_extract, hw1]; omega) (by rw [ByteArray.size_extract, hw1]; omega)
    have hX : (p.extract (((64 * k : Nat) : Int)).toNat (IntKind.i64.wrap (((64 * k : Nat) : Int) + 64)).toNat).data.toList = (p.data.toList.drop (64 * k)).take 64 := by
      rw [wV, hw1, Int.toNat_natCast, Int.toNat_natCast, show 64 * k + 64 - 64 * k = 64 by omega]
    rw [hX, zgr _ _ _ (by rw [List.length_drop, z8]; omega) (by omega)] at hB
    obtain ⟨c, hc⟩ : ∃ c, N - k = c + 1 := ⟨N - k - 1, by omega⟩
    rw [hc] at hf
    simp only [xJ, List.drop_drop] at hf
    generalize zeh h (p.data.toList.drop (64 * k)) = h' at hf hB
    obtain ⟨a1, a2, a3, a4, a5, a6, a7, a8⟩ := h
    obtain ⟨c1, c2, c3, c4, c5, c6, c7, c8⟩ := h'
    simp only [H8.t, List.map_cons, List.map_nil] at hB ⊢
    repeat' (first | refine wC ?_ | refine wK ?_ | ((with_reducible refine yA ?_); refine zy rfl rfl ⟨_, rfl⟩ ⟨_, rfl⟩ rfl rfl rfl ?_ ?_ ?_ ?_) | ((with_reducible refine zk ?_); refine wL hB ?_) | ((with_reducible refine va ?_); refine kl rfl rfl rfl rfl rfl rfl rfl rfl rfl ?_) | refine zo rfl ?_ ?_ <;> intro hc | fail)
    all_goals try (rw [hw1]; omega)
    all_goals try (exfalso; omega)
    · omega
    exact zD (n' := N - (k + 1)) (by omega) (za [3, 4, 5, 6] [.loc 3, .loc 4] rfl rfl) ⟨k + 1, ⟨c1, c2, c3, c4, c5, c6, c7, c8⟩, by omega, rfl, by rw [hf, show N - (k + 1) = c by omega, show 64 * (k + 1) = 64 * k + 64 by omega], by rw [hw1, show 64 * (k + 1) = 64 * k + 64 by omega]; rfl, rfl⟩
  · have hkN : k = N := by omega
    subst hkN
    simp only [Nat.sub_self, xJ] at hf
    subst hf
    repeat' (first | refine wC ?_ | refine wK ?_ | ((with_reducible refine yA ?_); refine zy rfl rfl ⟨_, rfl⟩ ⟨_, rfl⟩ rfl rfl rfl ?_ ?_ ?_ ?_) | ((with_reducible refine va ?_); refine kl rfl rfl rfl rfl rfl rfl rfl rfl rfl ?_) | refine zo rfl ?_ ?_ <;> intro hc | fail)
    all_goals try (exfalso; omega)
    obtain ⟨R, hR⟩ : ∃ R, R = xf (zic b0 b1 b2 b3 F.l) 8 0 [] := ⟨_, rfl⟩
    have hE : R.map (T.int .u8) = F.out.map u8T := by rw [hR]; exact ziM F hFi
    refine zc (yI 7 (.loc 900) 5 1 rfl rfl rfl) ?_
    refine zc (za [7, 28, 29] [.loc 900] rfl rfl) ?_
    have hvl : F.l.length = 8 := rfl
    obtain ⟨vl, hvl'⟩ : ∃ l, l = F.l := ⟨_, rfl⟩
    rw [← hvl'] at hR hvl
    refine zi (fun p env st => ∃ (t : Nat) (l : List Int), t ≤ 8 ∧ p = 8 - t ∧ l.length = 4 * t ∧ R = xf (zic b0 b1 b2 b3 vl) (8 - t) t l ∧
        env = EnvL.get [(7, .row (.loc 900)), (28, .t (.agg (vl.map wY))), (29, .t (.int .i64 (t : Int)))] ∧
        st = StO.get [(.loc 900, some (.slt 5 1 (l.map (T.int .u8))))])
      ?_ (n := 8) ⟨0, [], by omega, rfl, by simp, hR, by rw [hvl']; rfl, rfl⟩
    clear hR
    rintro p env st ⟨t, l, ht, rfl, hl, hi, rfl, rfl⟩
    by_cases hlt : t < 8
    · obtain ⟨c, hc⟩ : ∃ c, 8 - t = c + 1 := ⟨8 - t - 1, by omega⟩
      rw [hc] at hi
      simp only [xf] at hi
      repeat' (first | refine wC ?_ | refine wK ?_ | ((with_reducible refine zY ?_); refine zF rfl rfl rfl rfl rfl rfl ?_ ?_) | ((with_reducible refine zR ?_); refine zt rfl rfl rfl rfl rfl rfl rfl rfl rfl rfl ?_ ?_ ?_) | ((with_reducible refine yu ?_); refine wQ rfl rfl rfl rfl rfl rfl rfl ?_ ?_ ?_ ?_) | refine zo rfl ?_ ?_ <;> intro hc | fail)
      all_goals try omega
      all_goals try (exfalso; omega)
      all_goals try (simp only [List.length_map, List.length_cons, List.length_nil]; omega)
      refine zD (n' := 8 - (t + 1)) (by omega) ((za [7, 28, 29] [.loc 45] rfl rfl).trans (zq (.loc 45) (.loc 900) rfl rfl rfl rfl)) ⟨t + 1, zic b0 b1 b2 b3 vl t l, by omega, rfl, by unfold zic; rw [List.length_append]; simp; omega, by rw [hi, show 8 - (t + 1) = c by omega], by rw [zl (by omega) (by omega)]; rfl, ?_⟩
      unfold zic
      rw [List.map_append]; rfl
    · obtain rfl : t = 8 := by omega
      simp only [Nat.sub_self, xf] at hi
      rw [← hi, hE]
      repeat' (first | refine wC ?_ | refine wK ?_ | ((with_reducible refine zY ?_); refine zF rfl rfl rfl rfl rfl rfl ?_ ?_) | fail)
      all_goals try (exfalso; omega)
      · exact kN _
      · exact zE (zh rfl rfl (congrArg T.str (qx _))) (by simp)
def yW (n : Int) : ByteArray := vL [.int .u8 (IntKind.u8.wrap (n / 2 ^ 24)), .int .u8 (IntKind.u8.wrap (n / 2 ^ 16)), .int .u8 (IntKind.u8.wrap (n / 2 ^ 8)), .int .u8 (IntKind.u8.wrap n)]
theorem vq (es : List T) : (vL es).size = es.length := by
  unfold vL strOfNums
  rw [ByteArray.size, List.size_toArray, List.length_map, List.length_map]
theorem y9 (n : Int) : (yW n).size = 4 := vq _
theorem zbU (a b c d : Int) : IsU8 [T.int .u8 a, .int .u8 b, .int .u8 c, .int .u8 d] := by
  intro e he
  simp only [List.mem_cons, List.not_mem_nil, or_false] at he
  rcases he with rfl | rfl | rfl | rfl <;> rfl
set_option maxHeartbeats 1000000 in
theorem zcJ (n : Int) : Spec Tryz.prog 69 [.t (.int .i64 n)] [] (.t (.str (yW n))) [] := by
  refine wI Tryz.func69 ?_
  repeat' (first | refine wC ?_ | refine wK ?_ | ((with_reducible refine zY ?_); refine zF rfl rfl rfl rfl rfl rfl ?_ ?_) | fail)
  all_goals try exact zbU _ _ _ _
  exact zE (zh rfl rfl rfl) (by simp)
def zO (s : ByteArray) : ByteArray := (sha s).extract 0 16
theorem yC (s : ByteArray) : (zO s).size = 16 := by unfold zO; rw [ByteArray.size_extract, xw]; omega
set_option maxHeartbeats 1000000 in
theorem wA (s : ByteArray) (hs : s.size ≤ 40000000) : Spec Tryz.prog 93 [.t (.str s)] [] (.t (.str (zO s))) [] := by
  have hS := vx s hs
  have hz := xw s
  unfold zO
  generalize sha s = Y at hS hz ⊢
  refine wI Tryz.func93 ?_
  repeat' (first | refine wC ?_ | refine wK ?_ | ((with_reducible refine yA ?_); refine zy rfl rfl rfl ⟨_, rfl⟩ rfl rfl rfl ?_ ?_ ?_ ?_) | ((with_reducible refine zk ?_); refine wL hS ?_) | fail)
  all_goals try omega
  exact zE (zh rfl rfl rfl) (by simp)
set_option maxHeartbeats 1000000 in
theorem yV (s : ByteArray) (hs : s.size ≤ 40000000) : Spec Tryz.prog 43 [.t (.str s)] [] (.t (.str (zO s))) [] := by
  have hS := wF s hs
  have hz := xw s
  unfold zO
  generalize sha s = Y at hS hz ⊢
  refine wI Tryz.func43 ?_
  repeat' (first | refine wC ?_ | refine wK ?_ | ((with_reducible refine yA ?_); refine zy rfl rfl rfl ⟨_, rfl⟩ rfl rfl rfl ?_ ?_ ?_ ?_) | ((with_reducible refine zk ?_); refine wL hS ?_) | fail)
  all_goals try omega
  exact zE (zh rfl rfl rfl) (by simp)
def yr (l : List ByteArray) (j : Nat) : ByteArray := (l.take j).foldl (fun s x => s ++ (yW x.size ++ x)) (⟨#[2]⟩ ++ yW l.length)
def zaG (l : List ByteArray) : ByteArray := yr l l.length
theorem vg (l : List ByteArray) (j : Nat) (h : j < l.length) : yr l (j + 1) = yr l j ++ (yW (l.getD j default).size ++ l.getD j default) := by
  unfold yr
  rw [List.take_add_one, List.getElem?_eq_getElem h, Option.toList_some, List.foldl_append]
  simp [List.getD_eq_getElem?_getD, h]
theorem ku {B : Nat} (l : List ByteArray) (hB : ∀ x ∈ l, x.size ≤ B) : ∀ j, j ≤ l.length → (yr l j).size ≤ 5 + j * (B + 4)
  | 0, _ => by
    unfold yr
    rw [List.take_zero, List.foldl_nil, ByteArray.size_append, y9]
    show 1 + 4 ≤ _; omega
  | j + 1, h => by
    have ih := ku l hB j (by omega)
    have hm : l.getD j default ∈ l := by rw [List.getD_eq_getElem?_getD, List.getElem?_eq_getElem (by omega)]; exact List.getElem_mem _
    have := hB _ hm
    rw [vg l j (by omega), ByteArray.size_append, ByteArray.size_append, y9, Nat.add_mul]
    omega
theorem jc (l : List ByteArray) : ∀ j, 1 ≤ (yr l j).size
  | 0 => by
    unfold yr
    rw [List.take_zero, List.foldl_nil, ByteArray.size_append]
    show 1 ≤ 1 + _; omega
  | j + 1 => by
    have ih := jc l j
    rcases Nat.lt_or_ge j l.length with h | h
    · rw [vg l j h, ByteArray.size_append]; omega
    · have e : yr l (j + 1) = yr l j := by
        unfold yr; rw [List.take_of_length_le (by omega), List.take_of_length_le h]
      rw [e]; exact ih
theorem qD (a b : ByteArray) : zX (a ++ b) = zX a ++ zX b := by
  unfold zX
  rw [ByteArray.data_append, Array.toList_append, List.map_append]
set_option maxHeartbeats 4000000 in
theorem zgt (l : List ByteArray) (B : Nat) (hB : ∀ x ∈ l, x.size ≤ B) (hl : l.length ≤ 100000) (hm : l.length * (B + 4) ≤ 20000000) : Spec Tryz.prog 45 [.t (.sl 1 (l.map .str))] [] (.t (.str (sha (zaG l)))) [] := by
  have hsz := ku l hB
  have hmul : ∀ j, j ≤ l.length → j * (B + 4) ≤ l.length * (B + 4) := fun j hj => Nat.mul_le_mul_right _ hj
  have hSum := vx (zaG l) (by have := hsz l.length (Nat.le_refl _); unfold zaG; omega)
  have h1 := zcJ (l.length : Int)
  have z1 := y9 (l.length : Int)
  have hp0 : yr l 0 = ⟨#[2]⟩ ++ yW (l.length : Int) := rfl
  generalize sha (zaG l) = Y at hSum ⊢
  have o2 : (⟨#[2]⟩ : ByteArray).size = 1 := rfl
  have hw := zbl (⟨#[2]⟩ ++ yW (l.length : Int)) (by rw [ByteArray.size_append, o2]; omega)
  rw [← hp0] at hw
  unfold ziK zfp at hw
  refine wI Tryz.func45 ?_
  repeat' (first | refine wC ?_ | refine wK ?_ | ((with_reducible refine zU ?_); refine zL rfl rfl rfl rfl rfl rfl ?_ ?_) | ((with_reducible refine zk ?_); first | refine wL h1 ?_ | refine wN (.tup [_, _]) [(.par 0, .loc 3), (.res 0, .loc 901)] hw ?_) | fail)
  · rw [o2]; omega
  refine zc (za [3, 11, 12, 13] [.loc 3, .loc 901] rfl rfl) ?_
  refine zi (fun p env st => ∃ (j : Nat), j ≤ l.length ∧ p = l.length - j ∧
      env = EnvL.get [(3, .ref (.loc 3) 0 0 0), (11, .t (.sl 1 (l.map .str))), (12, .t (.int .i64 (l.length : Int))), (13, .t (.int .i64 (j : Int)))] ∧
      st = StO.get [(.loc 3, some (.var 95 [.ref (.loc 3) 0 0 0, .row (.loc 901)])), (.loc 901, some (.slt 5 1 (zX (yr l j))))])
    ?_ (n := l.length) ⟨0, by omega, rfl, rfl, rfl⟩
  clear hw h1
  rintro p env st ⟨j, hj, rfl, rfl, rfl⟩
  have hsj := hsz j hj
  have hmj := hmul j hj
  by_cases hlt : j < l.length
  · have hm2 : l.getD (j : Int).toNat default ∈ l := by rw [List.getD_eq_getElem?_getD, List.getElem?_eq_getElem (by omega)]; exact List.getElem_mem _
    have hx := hB _ hm2
    have hsucc := vg l j hlt
    have hg : l.getD (j : Int).toNat default = l.getD j default := rfl
    have hmj1 := hmul (j + 1) (by omega)
    rw [Nat.add_mul] at hmj1
    rw [← hg] at hsucc
    have h2 := zcJ ((l.getD (j : Int).toNat default).size : Int)
    have z2 := y9 ((l.getD (j : Int).toNat default).size : Int)
    have hw := zbr (zX (yr l j)) (yW ((l.getD (j : Int).toNat default).size : Int) ++ l.getD (j : Int).toNat default) (by rw [yh, ByteArray.size_append, z2]; omega)
    unfold zc5 zfp at hw
    repeat' (first | refine wC ?_ | refine wK ?_ | ((with_reducible refine zU ?_); refine zL rfl rfl rfl rfl rfl rfl ?_ ?_) | ((with_reducible refine zj ?_); refine zg rfl rfl rfl rfl rfl rfl ?_ ?_ ?_) | ((with_reducible refine zk ?_); first | refine wL h2 ?_ | refine wN (.tup [_, _]) [(.par 0, .loc 3), (.par 1, .loc 901), (.res 0, .loc 902)] hw ?_) | refine zo rfl ?_ ?_ <;> intro hc | fail)
    all_goals try (exfalso; omega)
    all_goals try omega
    refine zD (n' := l.length - (j + 1)) (by omega) ((za [3, 11, 12, 13] [.loc 3, .loc 902] rfl rfl).trans (zq (.loc 902) (.loc 901) rfl rfl rfl rfl)) ⟨j + 1, by omega, rfl, by rw [zl (by omega) (by omega)]; rfl, ?_⟩
    rw [hsucc, qD (yr l j)]; rfl
  · obtain rfl : j = l.length := by omega
    have hne : (yr l l.length).data.toList ≠ [] := by
      intro h
      have h3 := z8 (yr l l.length)
      rw [h] at h3
      have := jc l l.length
      simp at h3; omega
    have hS := jQ (yr l l.length).data.toList (by rw [z8]; omega) hne
    rw [wE, ← ww] at hS
    unfold zc5 at hS
    rw [show zaG l = yr l l.length from rfl] at hSum
    generalize yr l l.length = X at hS hSum ⊢
    repeat' (first | refine wC ?_ | refine wK ?_ | ((with_reducible refine zj ?_); refine zg rfl rfl rfl rfl rfl rfl ?_ ?_ ?_) | ((with_reducible refine zk ?_); first | refine wN (.t (.str _)) [(.par 0, .loc 3), (.par 1, .loc 901)] hS ?_ | refine wL hSum ?_) | refine zo rfl ?_ ?_ <;> intro hc | fail)
    all_goals try (exfalso; omega)
    exact zE (zh rfl rfl rfl) (by simp)
def zM (c p : Int) : ByteArray := vL [.int .u8 (IntKind.u8.wrap c), .int .u8 (IntKind.u8.wrap p)]
theorem vF (c p : Int) : (zM c p).size = 2 := vq _
theorem zen (a b : Int) : IsU8 [T.int .u8 a, .int .u8 b] := by
  intro e he
  simp only [List.mem_cons, List.not_mem_nil, or_false] at he
  rcases he with rfl | rfl <;> rfl
theorem kW (a : Int) : IsU8 [T.int .u8 a] := by
  intro e he
  simp only [List.mem_cons, List.not_mem_nil, or_false] at he
  rcases he with rfl; rfl
def qa (v : ByteArray) (c p : Int) : ByteArray := zO (v ++ zM c p)
theorem vB (v : ByteArray) (c p : Int) : (qa v c p).size = 16 := yC _
def zbJ (v : ByteArray) (c : Int) : ByteArray := zO (v ++ zM 128 c)
theorem qg (v : ByteArray) (c : Int) : (zbJ v c).size = 16 := yC _
theorem zhG (c : Int) : (⟨#[128]⟩ : ByteArray) ++ vL [.int .u8 (IntKind.u8.wrap c)] = zM 128 c := rfl
def ym (v : ByteArray) (c : Int) (p : Nat) : Nat → ByteArray
  | 0 => v
  | n + 1 => qa (ym v c p n) c ((p + n : Nat) : Int)
theorem jp {v : ByteArray} (hv : v.size = 16) (c : Int) (p : Nat) : ∀ n, (ym v c p n).size = 16
  | 0 => hv
  | n + 1 => vB _ _ _
theorem zcG (v : ByteArray) (c : Int) (p : Nat) : ∀ n, (ym v c p n).size ≤ v.size + 16
  | 0 => by rw [ym]; omega
  | n + 1 => by rw [ym, vB]; omega
theorem zav (v : ByteArray) (c : Int) (m : Nat) : ∀ n, ym (ym v c 0 m) c m n = ym v c 0 (m + n)
  | 0 => rfl
  | n + 1 => by
    rw [ym, zav v c m n, ← Nat.add_assoc, ym, Nat.zero_add]
def zfD (v : ByteArray) (d : Nat → Nat) (c : Nat) : ByteArray := ym (zbJ v (c : Int)) (c : Int) 0 (d c)
theorem vh (v : ByteArray) (d : Nat → Nat) (c : Nat) : (zfD v d c).size = 16 := jp (qg _ _) _ _ _
def kS (v : ByteArray) (d : Nat → Nat) (n : Nat) : ByteArray := kg (zfD v d) n
theorem vi (v : ByteArray) (d : Nat → Nat) (n : Nat) : (kS v d n).size = 16 * n := ql (vh v d) n
def vJ (v : ByteArray) : ByteArray := zO (kS v (fun _ => 3) 36)
def zfo (v m : ByteArray) : ByteArray := kS v (vK (sha m)) 36
theorem qk (v m : ByteArray) : (zfo v m).size = 576 := by unfold zfo; rw [vi]
def zjB (d : Nat → Nat) (w : ByteArray) (c : Nat) : ByteArray := ym (w.extract (16 * c) (16 * (c + 1))) (c : Int) (d c) (3 - d c)
theorem zbG {d : Nat → Nat} {w : ByteArray} {c : Nat} (h : 16 * (c + 1) ≤ w.size) : (zjB d w c).size = 16 := jp (by rw [ByteArray.size_extract]; omega) _ _ _
def zgN (d : Nat → Nat) (w : ByteArray) (n : Nat) : ByteArray := kg (zjB d w) n
theorem jv {d : Nat → Nat} {w : ByteArray} : ∀ n, 16 * n ≤ w.size → (zgN d w n).size = 16 * n
  | 0, _ => rfl
  | n + 1, h => by
    have := jv (d := d) (w := w) n (by omega)
    unfold zgN at this ⊢
    rw [kg, ByteArray.size_append, zbG h, this]; omega
def zkE (m w : ByteArray) : ByteArray := zO (zgN (vK (sha m)) w 36)
theorem ziU (v m : ByteArray) : zkE m (zfo v m) = vJ v := by
  unfold zkE vJ zgN kS
  refine congrArg zO (zaq 36 (fun c hc => ?_))
  unfold zjB zfo kS
  rw [zcg (vh v _) 36 c hc]
  unfold zfD
  rw [zav]
  have := jF (sha m) c
  rw [show vK (sha m) c + (3 - vK (sha m) c) = 3 by omega]
end Go.AL
namespace Go.AL
open Go Go.RowKit
def byS (u : Int) : ByteArray := vL [.int .u8 (IntKind.u8.wrap u)]
theorem qm (u : Int) : (byS u).size = 1 := vq _
def xU (s : ByteArray) (u : Int) : ByteArray := sha (s ++ byS u)
theorem qG (s : ByteArray) (u : Int) : (xU s u).size = 32 := xw _
def zhl (p : ByteArray) : ByteArray := zO (⟨#[0]⟩ ++ p)
def qE (a b : ByteArray) : ByteArray := zO (⟨#[1]⟩ ++ a ++ b)
def zfr (t : ByteArray) : ByteArray := sha (⟨#[2]⟩ ++ t)
def ktL (s : ByteArray) : Nat → Nat → ByteArray
  | 0, i => zhl (vJ (xU s (i : Int)))
  | k + 1, i => qE (ktL s k (2 * i)) (ktL s k (2 * i + 1))
theorem zJ (s : ByteArray) : ∀ k i, (ktL s k i).size = 16
  | 0, i => yC _
  | k + 1, i => yC _
def zC (s : ByteArray) (k n : Nat) : List ByteArray := (List.range n).map (ktL s k)
theorem zV (s : ByteArray) (k n : Nat) : (zC s k n).length = n := by simp [zC]
theorem yZ (s : ByteArray) (k n : Nat) : zC s k (n + 1) = zC s k n ++ [ktL s k n] := by simp [zC, List.range_succ]
theorem zd0 (s : ByteArray) (k n : Nat) {i : Nat} (h : i < n) : (zC s k n).getD i default = ktL s k i := by
  unfold zC
  rw [List.getD_eq_getElem?_getD, List.getElem?_map, List.getElem?_range h]; rfl
def ktP (s : ByteArray) : ByteArray := zfr (ktL s 3 0)
theorem wX (s : ByteArray) : (ktP s).size = 32 := xw _
def ktB (s : ByteArray) (u k : Nat) : ByteArray := ktL s k (u / 2 ^ k ^^^ 1)
def ktS (s : ByteArray) (u : Nat) (m : ByteArray) : ByteArray := byS (u : Int) ++ zfo (xU s (u : Int)) m ++ ktB s u 0 ++ ktB s u 1 ++ ktB s u 2
theorem zgW (s : ByteArray) (u : Nat) (m : ByteArray) : (ktS s u m).size = 625 := by
  unfold ktS ktB
  simp only [ByteArray.size_append, qm, qk, zJ]
theorem zja (s : ByteArray) (u k : Nat) (hu : u < 8) (hk : k < 3) : ktL s (k + 1) (u / 2 ^ (k + 1)) = if u / 2 ^ k % 2 = 0 then qE (ktL s k (u / 2 ^ k)) (ktB s u k) else qE (ktB s u k) (ktL s k (u / 2 ^ k)) := by
  unfold ktB
  rw [ktL]
  have e : u / 2 ^ (k + 1) = u / 2 ^ k / 2 := by rw [Nat.pow_succ, Nat.div_div_eq_div_mul]
  rw [e]
  have hv : u / 2 ^ k < 8 := Nat.lt_of_le_of_lt (Nat.div_le_self _ _) hu
  generalize u / 2 ^ k = v at *
  have : v = 0 ∨ v = 1 ∨ v = 2 ∨ v = 3 ∨ v = 4 ∨ v = 5 ∨ v = 6 ∨ v = 7 := by omega
  rcases this with rfl | rfl | rfl | rfl | rfl | rfl | rfl | rfl <;> rfl
end Go.AL
namespace Go.AL
open Go Go.Proofs Go.RowKit
end Go.AL
