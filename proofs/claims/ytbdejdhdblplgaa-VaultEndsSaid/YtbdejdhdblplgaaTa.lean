/- What functions of the program and of the document answer, and the plain laws behind it; each under the conditions that its own theorem names. -/
import Derived.Test.YtbdejdhdblplgaaAl3
import Derived.Test.YtbdejdhdblplgaaProg
import Derived.Shelf.Strings.Repeat
set_option linter.unusedVariables false
namespace Go.AL
open Go Go.RowKit
inductive Nd where
  | mk (kind : Int) (b : Bool) (num : Int) (text : ByteArray) (names : List ByteArray) (items : List Nd)
  deriving Inhabited
mutual
def Nd.toT : Nd → T
  | .mk k b n t ns is => .agg [.int .i64 k, .bool b, .int .i64 n, .str t, .sl 1 (ns.map .str), .sl 6 (Nd.toTs is)]
def Nd.toTs : List Nd → List T
  | [] => []
  | x :: xs => x.toT :: Nd.toTs xs
end
def Nd.items : Nd → List Nd
  | .mk _ _ _ _ _ is => is
def Nd.names : Nd → List ByteArray
  | .mk _ _ _ _ ns _ => ns
inductive Nd.Ok : Nd → Prop
  | mk {k : Int} {b : Bool} {n : Int} {t : ByteArray} {ns : List ByteArray} {is : List Nd} : ns.length ≤ 8796093021952 → is.length ≤ 1599289640354 → (∀ x ∈ is, x.Ok) → Nd.Ok (.mk k b n t ns is)
section
variable {P : Program} {nt : Nat} {ops : Array Oper} {o : Oper} {rest : List Oper} {env : EnvL} {st : StO} {acc : List SD} {K : EnvL → StO → List SD → Prop} {d : Nat}
end
def Nd.fieldsOK : Nd → Bool
  | .mk k b n t ns is => (decide (k = 1) || !b) && (decide (k = 2) || decide (n = 0)) && (decide (k = 3) || decide (t = ⟨#[]⟩)) && (decide (k = 4) || decide (k = 5) || decide ((is.length : Int) = 0)) && (decide (k = 5) || decide ((ns.length : Int) = 0))
def zjq (V : ByteArray → Bool) (s : ByteArray) : Bool := decide ((s.size : Int) ≤ 65536) && V s
def inB (s : ByteArray) (l : List ByteArray) : Bool := l.any fun x => decide (s = x)
def zf6 (tx : ByteArray → Bool) : List ByteArray → List ByteArray → Bool
  | _, [] => true
  | seen, s :: l => if inB s seen || !tx s then false else zf6 tx (s :: seen) l
mutual
def Nd.validB (V : ByteArray → Bool) : Nd → Int → Bool
  | .mk k b n t ns is, d => !(decide (d < 1) || decide (k < 0) || decide (5 < k) || !(Nd.mk k b n t ns is).fieldsOK || !zjq V t || decide (256 < (is.length : Int))) && (!decide (k = 5) || (zf6 (zjq V) [] ns && decide ((ns.length : Int) = is.length))) && !Nd.anyBad V is (d - 1)
def Nd.anyBad (V : ByteArray → Bool) : List Nd → Int → Bool
  | [], _ => false
  | x :: xs, d => !x.validB V d || Nd.anyBad V xs d
end
def Nd.kind : Nd → Int
  | .mk k _ _ _ _ _ => k
def Nd.bool : Nd → Bool
  | .mk _ b _ _ _ _ => b
def Nd.num : Nd → Int
  | .mk _ _ n _ _ _ => n
def Nd.text : Nd → ByteArray
  | .mk _ _ _ t _ _ => t
def Nd.zero : Nd := .mk 0 false 0 ⟨#[]⟩ [] []
def zjf (s : ByteArray) : List ByteArray → Int → Int
  | [], _ => -1
  | x :: xs, j => if s = x then j else zjf s xs (j + 1)
def Nd.place (n : Nd) (s : ByteArray) : Int := if n.kind = 5 then zjf s (n.names.take (min n.names.length n.items.length)) 0 else -1
def Nd.get (n : Nd) (s : ByteArray) : Nd × Bool := if n.place s < 0 then (Nd.zero, false) else (n.items.getD (n.place s).toNat default, true)
def Nd.set (n : Nd) (s : ByteArray) (v : Nd) : Nd :=
  if 0 ≤ n.place s then .mk n.kind n.bool n.num n.text n.names (n.items.set (n.place s).toNat v)
  else .mk n.kind n.bool n.num n.text (n.names ++ [s]) (n.items ++ [v])
def Nd.put (V : ByteArray → Bool) (n : Nd) (s : ByteArray) (v : Nd) : Nd × Int :=
  if n.kind = 5 ∧ n.validB V 8 = true ∧ (n.set s v).validB V 8 = true then (n.set s v, 0) else (Nd.zero, 1)
theorem zf9 (s : ByteArray) : ∀ (l : List ByteArray) (j : Int) (i : Nat), l.Nodup → l[i]? = some s → zjf s l j = j + i
  | [], j, i, _, h => by simp at h
  | x :: xs, j, 0, _, h => by
    simp only [List.getElem?_cons_zero, Option.some.injEq] at h
    simp [zjf, h]
  | x :: xs, j, i + 1, hn, h => by
    simp only [List.getElem?_cons_succ] at h
    have hm : s ∈ xs := List.mem_of_getElem? h
    have hx : s ≠ x := fun e => (List.nodup_cons.1 hn).1 (e ▸ hm)
    rw [zjf, if_neg hx, zf9 s xs (j + 1) i (List.nodup_cons.1 hn).2 h]
    omega
structure Dc where
  l : List Int
  k : Nat
def zk6 (n m : Int) : Int := if m < 1 then 0 else n % m
def Dc.next (d : Dc) (n : Int) : Int × Dc := if (d.l.length : Int) ≤ d.k then (0, d) else (zk6 (d.l.getD d.k 0) n, ⟨d.l, d.k + 1⟩)
def Dc.word (d : Dc) (l : List ByteArray) : ByteArray × Dc := (l.getD (d.next l.length).1.toNat default, (d.next l.length).2)
def eS : ByteArray := ⟨#[]⟩
def xS : ByteArray := ⟨#[120]⟩
structure VOk (V : ByteArray → Bool) : Prop where
  asc : ∀ s : ByteArray, (∀ b ∈ s.data.toList, b.toNat < 128) → V s = true
  app : ∀ s : ByteArray, V s = true → V (s ++ xS) = true
  odd : V ⟨#[195, 164, 226, 130, 172, 240, 159, 152, 128]⟩ = true
end Go.AL
set_option linter.unusedSimpArgs false
namespace Go.AL
open Go Go.RowKit
end Go.AL
set_option linter.unusedSimpArgs false
namespace Go.AL
open Go Go.RowKit
mutual
def Nd.same : Nd → Nd → Bool
  | .mk k b n t ns is, .mk k' b' n' t' ns' is' => decide (k = k') && decide (b = b') && decide (n = n') && decide (t = t') && decide (ns = ns') && Nd.sames is is'
def Nd.sames : List Nd → List Nd → Bool
  | [], [] => true
  | x :: xs, y :: ys => x.same y && Nd.sames xs ys
  | [], _ :: _ => false
  | _ :: _, [] => false
end
structure Nd.IsMap (m : Nd) : Prop where
  kind : m.kind = 5
  len : m.names.length = m.items.length
  nodup : m.names.Nodup
theorem Nd.IsMap.place_eq {m : Nd} (h : m.IsMap) (s : ByteArray) : m.place s = zjf s m.names 0 := by
  unfold Nd.place
  rw [if_pos h.kind, ← h.len, Nat.min_self, List.take_length]
theorem Nd.IsMap.place_at {m : Nd} (h : m.IsMap) {i : Nat} {s : ByteArray} (hi : m.names[i]? = some s) : m.place s = i := by
  rw [h.place_eq, zf9 s _ 0 i h.nodup hi]; omega
theorem Nd.IsMap.set {m : Nd} (h : m.IsMap) (s : ByteArray) (v : Nd) : (m.set s v).IsMap := by
  unfold Nd.set
  split
  · exact ⟨h.kind, by simpa [Nd.names, Nd.items] using h.len, h.nodup⟩
  · rename_i hp
    refine ⟨h.kind, by simp only [Nd.names, Nd.items, List.length_append, List.length_singleton]; have := h.len; simp only [Nd.names, Nd.items] at this; cases m; simpa using this, ?_⟩
    show (m.names ++ [s]).Nodup
    rw [List.nodup_append]
    refine ⟨h.nodup, by simp, fun a ha b hb => ?_⟩
    simp only [List.mem_singleton] at hb
    subst hb
    rintro rfl
    obtain ⟨i, hi⟩ := List.getElem?_of_mem ha
    have := h.place_at hi
    omega
def ofL (l : List UInt8) : ByteArray := ⟨l.toArray⟩
theorem xH (l : List UInt8) : (ofL l).data.toList = l := by simp [ofL]
theorem xV (l : List UInt8) : (ofL l).size = l.length := by simp [ofL, ByteArray.size]
theorem wX (s : ByteArray) : ofL s.data.toList = s := by cases s; simp [ofL]
theorem yJ (l : List UInt8) (a b : Nat) : (ofL l).extract a b = ofL ((l.drop a).take (b - a)) := by
  have h : ((ofL l).extract a b).data.toList = (ofL ((l.drop a).take (b - a))).data.toList := by
    rw [xH]; simp [ofL, ByteArray.data_extract]
  have := congrArg ofL h
  rwa [wX, wX] at this
def xo : Nat → Nat → List UInt8
  | 0, _ => []
  | k + 1, n => UInt8.ofNat (n / 256 ^ k) :: xo k n
theorem xC : ∀ k n, (xo k n).length = k
  | 0, n => rfl
  | k + 1, n => by simp [xo, xC k n]
def hdL (m n : Nat) : List UInt8 :=
  if n < 24 then [UInt8.ofNat (32 * m + n)] else if n < 256 then UInt8.ofNat (32 * m + 24) :: xo 1 n
  else if n < 65536 then UInt8.ofNat (32 * m + 25) :: xo 2 n else if n < 4294967296 then UInt8.ofNat (32 * m + 26) :: xo 4 n
  else UInt8.ofNat (32 * m + 27) :: xo 8 n
mutual
def Nd.cb : Nd → List UInt8
  | .mk k b n t ns is =>
    if k = 0 then hdL 7 22 else if k = 1 then hdL 7 (if b then 21 else 20) else if k = 2 then (if n < 0 then hdL 1 (-1 - n).toNat else hdL 0 n.toNat)
    else if k = 3 then hdL 3 t.size ++ t.data.toList else if k = 4 then hdL 4 is.length ++ Nd.cbs is else hdL 5 is.length ++ Nd.cbm ns is
def Nd.cbs : List Nd → List UInt8
  | [] => []
  | x :: xs => x.cb ++ Nd.cbs xs
def Nd.cbm : List ByteArray → List Nd → List UInt8
  | s :: ns, x :: xs => hdL 3 s.size ++ s.data.toList ++ x.cb ++ Nd.cbm ns xs
  | _, _ => []
end
structure Rs where
  s : ByteArray
  bad : Bool
def Rs.take (r : Rs) (n : Int) : ByteArray × Rs :=
  if r.bad = true ∨ n < 0 ∨ (r.s.size : Int) < n then (eS, ⟨r.s, true⟩) else (r.s.extract 0 n.toNat, ⟨r.s.extract n.toNat r.s.size, false⟩)
def Rs.byte (r : Rs) : Int × Rs := (if (r.take 1).1 = eS then 0 else bAt (r.take 1).1 0, (r.take 1).2)
def zim (n : Int) (b : UInt8) : Int := n * 256 % 18446744073709551616 + b.toNat
def Rs.uint (r : Rs) (k : Int) : Int × Rs := ((r.take k).1.data.toList.foldl zim 0, (r.take k).2)
def Rs.fits (r : Rs) (n : Int) : Int × Rs := if (r.s.size : Int) < n then (0, ⟨r.s, true⟩) else (n, r)
def zbZ (r : Rs) : (Int × Int) × Rs :=
  if r.byte.1 % 32 < 24 then ((r.byte.1 / 32, r.byte.1 % 32), r.byte.2)
  else if 27 < r.byte.1 % 32 then ((r.byte.1 / 32, 0), ⟨r.byte.2.s, true⟩)
  else ((r.byte.1 / 32, (r.byte.2.uint (2 ^ (r.byte.1 % 32 - 24).toNat)).1), (r.byte.2.uint (2 ^ (r.byte.1 % 32 - 24).toNat)).2)
def zio (r : Rs) (n : Int) : ByteArray × Rs := (r.fits n).2.take (r.fits n).1
def zhW (r : Rs) : ByteArray × Rs := zio (if (zbZ r).1.1 = 3 then (zbZ r).2 else ⟨(zbZ r).2.s, true⟩) (zbZ r).1.2
def zdT (f : Rs → Nd × Rs) (k : Int) : Nat → List ByteArray → List Nd → Rs → Nd × Rs
  | 0, ns, is, r => (.mk k false 0 eS ns is, r)
  | c + 1, ns, is, r => if r.bad = true then (.mk k false 0 eS ns is, r)
    else if k = 5 then zdT f k c (ns ++ [(zhW r).1]) (is ++ [(f (zhW r).2).1]) (f (zhW r).2).2
    else zdT f k c ns (is ++ [(f r).1]) (f r).2
def i64 (n : Int) : Int := IntKind.i64.wrap n
def zid : Nat → Rs → Nd × Rs
  | 0, r => (Nd.zero, ⟨(zbZ r).2.s, true⟩)
  | d + 1, r =>
    let m := (zbZ r).1.1
    let n := (zbZ r).1.2
    let q := (zbZ r).2
    if m = 0 then (.mk 2 false (i64 n) eS [] [], q)
    else if m = 1 then (.mk 2 false (-1 - i64 n) eS [] [], q)
    else if m = 3 then (.mk 3 false 0 (zio q n).1 [] [], (zio q n).2)
    else if m = 4 then zdT (zid d) 4 (q.fits n).1.toNat [] [] (q.fits n).2
    else if m = 5 then zdT (zid d) 5 (q.fits n).1.toNat [] [] (q.fits n).2
    else if m = 7 ∧ (n = 21 ∨ n = 20) then (.mk 1 (decide (n = 21)) 0 eS [] [], q)
    else (Nd.zero, q)
inductive Nd.In : Nd → Prop
  | mk {k : Int} {b : Bool} {n : Int} {t : ByteArray} {ns : List ByteArray} {is : List Nd} : -9223372036854775808 ≤ n → n ≤ 9223372036854775807 → (∀ x ∈ is, x.In) → Nd.In (.mk k b n t ns is)
theorem zZ (s : ByteArray) : s.data.toList.length = s.size := by rw [Array.length_toList]; rfl
theorem zbB (s : ByteArray) (i : Int) : 0 ≤ bAt s i ∧ bAt s i < 256 := by
  unfold bAt
  have := (s.data.toList.getD i.toNat 0).toNat_lt
  omega
def zk9 (V : ByteArray → Bool) (x : Nd) : ByteArray × Int := if x.validB V 8 = true then (if 65536 < x.cb.length then (eS, 3) else (ofL x.cb, 0)) else (eS, 1)
def zgF (s : ByteArray) : Nd × Rs := zid 8 ⟨s, false⟩
def zjw (V : ByteArray → Bool) (s : ByteArray) : Prop := (zgF s).2.bad = false ∧ (zgF s).2.s = eS ∧ (zgF s).1.validB V 8 = true ∧ zk9 V (zgF s).1 = (s, 0)
instance (V : ByteArray → Bool) (s : ByteArray) : Decidable (zjw V s) := by unfold zjw; exact inferInstance
theorem ziN : Nd.zero.Ok := .mk (by simp) (by simp) (by simp)
def VGood (s : ByteArray) (p : Nat) (r : Nd × Int) : Prop := r.1.Ok ∧ -1 ≤ r.2 ∧ (r.2 ≠ -1 → (p : Int) < r.2 ∧ r.2 ≤ s.size ∧ (r.1.cb.length : Int) + p ≤ r.2 ∧ r.1.In)
theorem VGood.fail (s : ByteArray) (p : Nat) : VGood s p (Nd.zero, -1) := ⟨ziN, by decide, fun h => absurd rfl h⟩
def wx (a b : Int) : Int := IntKind.u32.wrap ((BitVec.ofInt 32 a ^^^ BitVec.ofInt 32 b).toNat : Int)
def wa (a b : Int) : Int := IntKind.u32.wrap ((BitVec.ofInt 32 a &&& BitVec.ofInt 32 b).toNat : Int)
def wo (a b : Int) : Int := IntKind.u32.wrap ((BitVec.ofInt 32 a ||| BitVec.ofInt 32 b).toNat : Int)
def wn (a : Int) : Int := IntKind.u32.wrap ((BitVec.ofInt 32 4294967295 ^^^ BitVec.ofInt 32 a).toNat : Int)
def wp (a b : Int) : Int := IntKind.u32.wrap (a + b)
def wr (a : Int) (n : Nat) : Int := a / 2 ^ n
def wl (a : Int) (n : Nat) : Int := IntKind.u32.wrap (a * 2 ^ n)
def rr (x : Int) (n : Nat) : Int := wo (wr x n) (wl x (32 - n))
def bL (p : List UInt8) (i : Nat) : Int := ((p.getD i 0).toNat : Int)
def x9 (p : List UInt8) (t : Nat) : Int := wo (wo (wo (wl (bL p (4 * t)) 24) (wl (bL p (4 * t + 1)) 16)) (wl (bL p (4 * t + 2)) 8)) (bL p (4 * t + 3))
def zkI (x y u v : Int) : Int := wp (wp (wp (wx (wx (rr y 17) (rr y 19)) (wr y 10)) u) (wx (wx (rr x 7) (rr x 18)) (wr x 3))) v
structure H8 where
  a : Int
  b : Int
  c : Int
  d : Int
  e : Int
  f : Int
  g : Int
  h : Int
  deriving DecidableEq
def H8.l (v : H8) : List Int := [v.a, v.b, v.c, v.d, v.e, v.f, v.g, v.h]
def H8.t (v : H8) : List T := [.int .u32 v.a, .int .u32 v.b, .int .u32 v.c, .int .u32 v.d, .int .u32 v.e, .int .u32 v.f, .int .u32 v.g, .int .u32 v.h]
def rnd (k w : Int) (v : H8) : H8 :=
  let t1 := wp (wp (wp (wp v.h (wx (wx (rr v.e 6) (rr v.e 11)) (rr v.e 25))) (wx (wa v.e v.f) (wa (wn v.e) v.g))) k) w
  let t2 := wp (wx (wx (rr v.a 2) (rr v.a 13)) (rr v.a 22)) (wx (wx (wa v.a v.b) (wa v.a v.c)) (wa v.b v.c))
  ⟨wp t1 t2, v.a, v.b, v.c, wp v.d t1, v.e, v.f, v.g⟩
def y9 {α : Type} (f : Nat → α → α) : Nat → Nat → α → α
  | 0, _, a => a
  | c + 1, t, a => y9 f c (t + 1) (f t a)
def zbn : List Int := [
  0x428a2f98, 0x71374491, 0xb5c0fbcf, 0xe9b5dba5, 0x3956c25b, 0x59f111f1, 0x923f82a4, 0xab1c5ed5,
  0xd807aa98, 0x12835b01, 0x243185be, 0x550c7dc3, 0x72be5d74, 0x80deb1fe, 0x9bdc06a7, 0xc19bf174,
  0xe49b69c1, 0xefbe4786, 0x0fc19dc6, 0x240ca1cc, 0x2de92c6f, 0x4a7484aa, 0x5cb0a9dc, 0x76f988da,
  0x983e5152, 0xa831c66d, 0xb00327c8, 0xbf597fc7, 0xc6e00bf3, 0xd5a79147, 0x06ca6351, 0x14292967,
  0x27b70a85, 0x2e1b2138, 0x4d2c6dfc, 0x53380d13, 0x650a7354, 0x766a0abb, 0x81c2c92e, 0x92722c85,
  0xa2bfe8a1, 0xa81a664b, 0xc24b8b70, 0xc76c51a3, 0xd192e819, 0xd6990624, 0xf40e3585, 0x106aa070,
  0x19a4c116, 0x1e376c08, 0x2748774c, 0x34b0bcb5, 0x391c0cb3, 0x4ed8aa4a, 0x5b9cca4f, 0x682e6ff3,
  0x748f82ee, 0x78a5636f, 0x84c87814, 0x8cc70208, 0x90befffa, 0xa4506ceb, 0xbef9a3f7, 0xc67178f2]
def zdF : H8 := ⟨0x6a09e667, 0xbb67ae85, 0x3c6ef372, 0xa54ff53a, 0x510e527f, 0x9b05688c, 0x1f83d9ab, 0x5be0cd19⟩
def w0L : List Int := List.replicate 64 0
def vk (p : List UInt8) : List Int := y9 (fun t w => w.set t (x9 p t)) 16 0 w0L
def yO (t : Nat) (w : List Int) : List Int := w.set t (zkI (w.getD (t - 15) 0) (w.getD (t - 2) 0) (w.getD (t - 7) 0) (w.getD (t - 16) 0))
def je (w : List Int) : List Int := y9 yO 48 16 w
def zas (w : List Int) (v : H8) : H8 := y9 (fun t v => rnd (zbn.getD t 0) (w.getD t 0) v) 64 0 v
def ki (u v : H8) : H8 := ⟨wp u.a v.a, wp u.b v.b, wp u.c v.c, wp u.d v.d, wp u.e v.e, wp u.f v.f, wp u.g v.g, wp u.h v.h⟩
def zdG (h : H8) (p : List UInt8) : H8 := ki h (zas (je (vk p)) h)
def xD : Nat → H8 → List UInt8 → H8
  | 0, h, _ => h
  | n + 1, h, p => xD n (zdG h p) (p.drop 64)
def w4 (x : Int) : List UInt8 := xo 4 x.toNat
def H8.out (v : H8) : List UInt8 := w4 v.a ++ w4 v.b ++ w4 v.c ++ w4 v.d ++ w4 v.e ++ w4 v.f ++ w4 v.g ++ w4 v.h
def wg (left : List UInt8) (n : Nat) : List UInt8 := left ++ 128 :: (List.replicate ((119 - left.length % 64) % 64) 0 ++ xo 8 (8 * n))
def zJ (s : List UInt8) : List UInt8 := wg s s.length
def zhE (s : List UInt8) : List UInt8 := (xD ((zJ s).length / 64) zdF (zJ s)).out
def sha (s : ByteArray) : ByteArray := ofL (zhE s.data.toList)
theorem j5 {α : Type} {f g : Nat → α → α} : ∀ (c t : Nat) (a : α), (∀ i, t ≤ i → i < t + c → ∀ x, f i x = g i x) → y9 f c t a = y9 g c t a
  | 0, _, _, _ => rfl
  | c + 1, t, a, h => by
    simp only [y9]
    rw [h t (Nat.le_refl _) (by omega)]
    exact j5 c (t + 1) _ fun i h1 h2 => h i (by omega) (by omega)
theorem zdC {α : Type} {f : Nat → α → α} {Q : α → Prop} (hf : ∀ i x, Q x → Q (f i x)) : ∀ (c t : Nat) (a : α), Q a → Q (y9 f c t a)
  | 0, _, _, h => h
  | c + 1, t, a, h => zdC hf c (t + 1) _ (hf t a h)
theorem qu {x y : List UInt8} {i : Nat} (h : i < x.length) : bL (x ++ y) i = bL x i := by
  unfold bL
  rw [List.getD_eq_getElem?_getD, List.getD_eq_getElem?_getD, List.getElem?_append_left h]
theorem zbG {x y : List UInt8} {t : Nat} (hx : 64 ≤ x.length) (ht : t < 16) : x9 (x ++ y) t = x9 x t := by
  unfold x9
  rw [qu (by omega), qu (by omega), qu (by omega), qu (by omega)]
theorem zbx {x y : List UInt8} (hx : 64 ≤ x.length) : vk (x ++ y) = vk x :=
  j5 16 0 _ fun i _ h w => by rw [zbG hx (by omega)]
theorem ju {h : H8} {x y : List UInt8} (hx : 64 ≤ x.length) : zdG h (x ++ y) = zdG h x := by
  unfold zdG; rw [zbx hx]
theorem zfZ (h : H8) (x : List UInt8) (n : Nat) (hx : 64 ≤ x.length) (hn : 64 ≤ n) : zdG h (x.take n) = zdG h x := by
  have h1 : 64 ≤ (x.take n).length := by rw [List.length_take]; omega
  rw [← ju (y := x.drop n) h1, List.take_append_drop]
theorem qX : ∀ (a b : Nat) (h : H8) (x y : List UInt8), x.length = 64 * a → xD (a + b) h (x ++ y) = xD b (xD a h x) y
  | 0, b, h, x, y, hx => by
    obtain rfl := List.eq_nil_of_length_eq_zero (by omega : x.length = 0)
    simp [xD]
  | a + 1, b, h, x, y, hx => by
    rw [show a + 1 + b = (a + b) + 1 by omega]
    simp only [xD]
    rw [ju (by omega), List.drop_append_of_le_length (by omega)]
    exact qX a b _ _ y (by rw [List.length_drop]; omega)
def H8.In (v : H8) : Prop := (0 ≤ v.a ∧ v.a < 4294967296) ∧ (0 ≤ v.b ∧ v.b < 4294967296) ∧ (0 ≤ v.c ∧ v.c < 4294967296) ∧ (0 ≤ v.d ∧ v.d < 4294967296) ∧ (0 ≤ v.e ∧ v.e < 4294967296) ∧ (0 ≤ v.f ∧ v.f < 4294967296) ∧ (0 ≤ v.g ∧ v.g < 4294967296) ∧ (0 ≤ v.h ∧ v.h < 4294967296)
theorem xW (a b : Int) : 0 ≤ wp a b ∧ wp a b < 4294967296 := by
  unfold wp
  simp only [IntKind.wrap, IntKind.bits, IntKind.signed, Bool.false_and, Bool.false_eq_true, if_false]
  omega
theorem zif (a b : Int) : wp a b = wp b a := by unfold wp; rw [Int.add_comm]
theorem zgM (u v : H8) : (ki u v).In := ⟨xW _ _, xW _ _, xW _ _, xW _ _, xW _ _, xW _ _, xW _ _, xW _ _⟩
theorem zeJ (u v : H8) : ki u v = ki v u := by unfold ki; simp only [zif]
theorem zfv : zdF.In := by unfold zdF H8.In; simp
theorem kJ : ∀ (n : Nat) (h : H8) (p : List UInt8), h.In → (xD n h p).In
  | 0, _, _, hh => hh
  | n + 1, h, p, _ => kJ n _ _ (zgM _ _)
theorem zhN (x : Int) : (w4 x).length = 4 := xC 4 _
theorem zfU (v : H8) : v.out.length = 32 := by simp [H8.out, zhN]
theorem zg1 (s : List UInt8) : (zhE s).length = 32 := zfU _
theorem xA (s : ByteArray) : (sha s).size = 32 := by unfold sha; rw [xV, zg1]
theorem jx (left : List UInt8) (n : Nat) : (wg left n).length = left.length + 9 + (119 - left.length % 64) % 64 := by
  simp only [wg, List.length_append, List.length_cons, List.length_replicate, xC]; omega
theorem zgN (s : List UInt8) : (zJ s).length % 64 = 0 ∧ s.length + 9 ≤ (zJ s).length ∧ (zJ s).length ≤ s.length + 72 := by
  unfold zJ; rw [jx]; omega
theorem jH {a b : Nat} (h : a = b) : List.replicate a (0 : UInt8) = List.replicate b 0 := by rw [h]
theorem zeV (s : List UInt8) (w : Nat) (hw : w = s.length / 64 * 64) : zJ s = s.take w ++ wg (s.drop w) s.length := by
  unfold zJ wg
  rw [← List.append_assoc, List.take_append_drop]
  congr 2
  rw [List.length_drop, hw]
  congr 1
  exact jH (by omega)
theorem zes (s : List UInt8) (w : Nat) (hw : w = s.length / 64 * 64) : zhE s = (xD ((wg (s.drop w) s.length).length / 64) (xD (w / 64) zdF (s.take w)) (wg (s.drop w) s.length)).out := by
  have hl : (s.take w).length = 64 * (w / 64) := by rw [List.length_take]; omega
  have h := zeV s w hw
  unfold zhE
  have h2 : (zJ s).length / 64 = w / 64 + (wg (s.drop w) s.length).length / 64 := by
    rw [h, List.length_append, hl]; omega
  rw [h2]
  conv => lhs; rw [h]
  rw [qX _ _ _ _ _ hl]
def kg (f : Nat → ByteArray) : Nat → ByteArray
  | 0 => ⟨#[]⟩
  | j + 1 => kg f j ++ f j
theorem vZ {f : Nat → ByteArray} (hf : ∀ i, (f i).size = 16) : ∀ j, (kg f j).size = 16 * j
  | 0 => rfl
  | j + 1 => by rw [kg, ByteArray.size_append, vZ hf j, hf j]; omega
theorem j8 {f g : Nat → ByteArray} : ∀ j, (∀ i, i < j → f i = g i) → kg f j = kg g j
  | 0, _ => rfl
  | j + 1, h => by rw [kg, kg, j8 j (fun i hi => h i (by omega)), h j (by omega)]
theorem zbI {f : Nat → ByteArray} (hf : ∀ i, (f i).size = 16) : ∀ j c, c < j → (kg f j).extract (16 * c) (16 * (c + 1)) = f c
  | 0, c, h => by omega
  | j + 1, c, h => by
    have hz := vZ hf j
    have hj := hf j
    have hc := hf c
    rw [kg]
    rcases Nat.lt_or_ge c j with h' | h'
    · have ih := zbI hf j c h'
      rw [ByteArray.extract_append, ih, hz]
      have : (f j).extract (16 * c - 16 * j) (16 * (c + 1) - 16 * j) = ByteArray.empty := by
        apply ByteArray.size_eq_zero_iff.1
        rw [ByteArray.size_extract]; omega
      rw [this, ByteArray.append_empty]
    · obtain rfl : c = j := by omega
      rw [ByteArray.extract_append, hz]
      have e1 : (kg f c).extract (16 * c) (16 * (c + 1)) = ByteArray.empty := by
        apply ByteArray.size_eq_zero_iff.1
        rw [ByteArray.size_extract]; omega
      rw [e1, ByteArray.empty_append, show 16 * c - 16 * c = 0 by omega, show 16 * (c + 1) - 16 * c = (f c).size by omega, ByteArray.extract_zero_size]
def zkj (Y : ByteArray) (j : Nat) : Nat := (bAt Y ((j / 4 : Nat) : Int)).toNat / 2 ^ (6 - 2 * (j % 4)) % 4
theorem zfW (Y : ByteArray) (j : Nat) : zkj Y j < 4 := Nat.mod_lt _ (by decide)
def xt (Y : ByteArray) : Nat → Nat
  | 0 => 0
  | j + 1 => xt Y j + 3 - zkj Y j
theorem kC (Y : ByteArray) : ∀ j, xt Y j ≤ 3 * j
  | 0 => Nat.le_refl _
  | j + 1 => by have := kC Y j; have := zfW Y j; rw [xt]; omega
def vA (Y : ByteArray) (j : Nat) : Nat := if j < 32 then zkj Y j else xt Y 32 / 2 ^ (2 * (35 - j)) % 4
theorem jd (Y : ByteArray) (j : Nat) : vA Y j < 4 := by
  unfold vA
  split
  · exact zfW _ _
  · exact Nat.mod_lt _ (by decide)
def zc1 (Y : ByteArray) (j : Nat) : List T := (List.range j).map (fun i => T.int .i64 (vA Y i : Int))
theorem v6 (Y : ByteArray) (j : Nat) : (zc1 Y j).length = j := by simp [zc1]
theorem xJ (Y : ByteArray) (j : Nat) : zc1 Y (j + 1) = zc1 Y j ++ [.int .i64 (vA Y j : Int)] := by simp [zc1, List.range_succ]
end Go.AL
namespace Go.AL
open Go Go.Proofs
instance : TyU Try.prog 0 (TypeDesc.tuple #[]) := ⟨Try.underlying0⟩
instance : TyI Try.prog 0 1 0 (Value.tuple [].toArray) := ⟨by kernel_rfl⟩
instance : TyU Try.prog 1 (TypeDesc.func #[] #[] false) := ⟨Try.underlying1⟩
instance : TyI Try.prog 1 1 8 (Value.nilFunc) := ⟨by kernel_rfl⟩
instance : TyU Try.prog 2 (TypeDesc.int IntKind.i64) := ⟨Try.underlying2⟩
instance : TyI Try.prog 2 1 8 (Value.int IntKind.i64 (0)) := ⟨by kernel_rfl⟩
instance : TyU Try.prog 3 (TypeDesc.int IntKind.i64) := ⟨Try.underlying3⟩
instance : TyI Try.prog 3 1 8 (Value.int IntKind.i64 (0)) := ⟨by kernel_rfl⟩
instance : TyU Try.prog 4 TypeDesc.bool := ⟨Try.underlying4⟩
instance : TyI Try.prog 4 1 1 (Value.bool false) := ⟨by kernel_rfl⟩
instance : TyU Try.prog 5 (TypeDesc.int IntKind.u8) := ⟨Try.underlying5⟩
instance : TyI Try.prog 5 1 1 (Value.int IntKind.u8 (0)) := ⟨by kernel_rfl⟩
instance : TyU Try.prog 6 (TypeDesc.int IntKind.u8) := ⟨Try.underlying6⟩
instance : TyI Try.prog 6 1 1 (Value.int IntKind.u8 (0)) := ⟨by kernel_rfl⟩
instance : TyU Try.prog 7 (TypeDesc.struct #[{ name := "x", type := 2, offset := 0, embedded := false, tag := "", pkgPath := "runtime", byteOffset := 0 }, { name := "y", type := 3, offset := 1, embedded := false, tag := "", pkgPath := "runtime", byteOffset := 8 }, { name := "signed", type := 4, offset := 2, embedded := false, tag := "", pkgPath := "runtime", byteOffset := 16 }, { name := "code", type := 6, offset := 3, embedded := false, tag := "", pkgPath := "runtime", byteOffset := 17 }]) := ⟨Try.underlying7⟩
instance : TyI Try.prog 7 4 24 (Value.agg [Value.int IntKind.i64 (0), Value.int IntKind.i64 (0), Value.bool false, Value.int IntKind.u8 (0)].toArray) := ⟨by kernel_rfl⟩
instance : TyU Try.prog 8 (TypeDesc.struct #[{ name := "x", type := 2, offset := 0, embedded := false, tag := "", pkgPath := "runtime", byteOffset := 0 }, { name := "y", type := 3, offset := 1, embedded := false, tag := "", pkgPath := "runtime", byteOffset := 8 }, { name := "signed", type := 4, offset := 2, embedded := false, tag := "", pkgPath := "runtime", byteOffset := 16 }, { name := "code", type := 6, offset := 3, embedded := false, tag := "", pkgPath := "runtime", byteOffset := 17 }]) := ⟨Try.underlying8⟩
instance : TyI Try.prog 8 4 24 (Value.agg [Value.int IntKind.i64 (0), Value.int IntKind.i64 (0), Value.bool false, Value.int IntKind.u8 (0)].toArray) := ⟨by kernel_rfl⟩
instance : TyU Try.prog 9 TypeDesc.string := ⟨Try.underlying9⟩
instance : TyI Try.prog 9 1 16 (Value.string ⟨#[]⟩) := ⟨by kernel_rfl⟩
instance : TyU Try.prog 10 TypeDesc.string := ⟨Try.underlying10⟩
instance : TyI Try.prog 10 1 16 (Value.string ⟨#[]⟩) := ⟨by kernel_rfl⟩
instance : TyU Try.prog 11 TypeDesc.string := ⟨Try.underlying11⟩
instance : TyI Try.prog 11 1 16 (Value.string ⟨#[]⟩) := ⟨by kernel_rfl⟩
instance : TyU Try.prog 12 (TypeDesc.int IntKind.u64) := ⟨Try.underlying12⟩
instance : TyI Try.prog 12 1 8 (Value.int IntKind.u64 (0)) := ⟨by kernel_rfl⟩
instance : TyU Try.prog 13 (TypeDesc.struct #[{ name := "msg", type := 9, offset := 0, embedded := false, tag := "", pkgPath := "runtime", byteOffset := 0 }, { name := "addr", type := 12, offset := 1, embedded := false, tag := "", pkgPath := "runtime", byteOffset := 16 }]) := ⟨Try.underlying13⟩
instance : TyI Try.prog 13 2 24 (Value.agg [Value.string ⟨#[]⟩, Value.int IntKind.u64 (0)].toArray) := ⟨by kernel_rfl⟩
instance : TyU Try.prog 14 (TypeDesc.struct #[{ name := "msg", type := 9, offset := 0, embedded := false, tag := "", pkgPath := "runtime", byteOffset := 0 }, { name := "addr", type := 12, offset := 1, embedded := false, tag := "", pkgPath := "runtime", byteOffset := 16 }]) := ⟨Try.underlying14⟩
instance : TyI Try.prog 14 2 24 (Value.agg [Value.string ⟨#[]⟩, Value.int IntKind.u64 (0)].toArray) := ⟨by kernel_rfl⟩
instance : TyU Try.prog 15 (TypeDesc.pointer 123) := ⟨Try.underlying15⟩
instance : TyI Try.prog 15 1 8 (Value.pointer none) := ⟨by kernel_rfl⟩
instance : TyU Try.prog 16 (TypeDesc.pointer 126) := ⟨Try.underlying16⟩
instance : TyI Try.prog 16 1 8 (Value.pointer none) := ⟨by kernel_rfl⟩
instance : TyU Try.prog 17 (TypeDesc.pointer 133) := ⟨Try.underlying17⟩
instance : TyI Try.prog 17 1 8 (Value.pointer none) := ⟨by kernel_rfl⟩
instance : TyU Try.prog 18 (TypeDesc.struct #[{ name := "typ", type := 17, offset := 0, embedded := false, tag := "", pkgPath := "internal/runtime/maps", byteOffset := 0 }]) := ⟨Try.underlying18⟩
instance : TyI Try.prog 18 1 8 (Value.agg [Value.pointer none].toArray) := ⟨by kernel_rfl⟩
instance : TyU Try.prog 19 (TypeDesc.struct #[{ name := "typ", type := 17, offset := 0, embedded := false, tag := "", pkgPath := "internal/runtime/maps", byteOffset := 0 }]) := ⟨Try.underlying19⟩
instance : TyI Try.prog 19 1 8 (Value.agg [Value.pointer none].toArray) := ⟨by kernel_rfl⟩
instance : TyU Try.prog 20 (TypeDesc.interface #[]) := ⟨Try.underlying20⟩
instance : TyI Try.prog 20 1 16 (Value.nilIface) := ⟨by kernel_rfl⟩
instance : TyU Try.prog 21 (TypeDesc.int IntKind.i32) := ⟨Try.underlying21⟩
instance : TyI Try.prog 21 1 4 (Value.int IntKind.i32 (0)) := ⟨by kernel_rfl⟩
instance : TyU Try.prog 22 (TypeDesc.slice 3) := ⟨Try.underlying22⟩
instance : TyI Try.prog 22 1 24 (Value.slice none 0 0) := ⟨by kernel_rfl⟩
instance : TyU Try.prog 23 (TypeDesc.struct #[{ name := "Seed", type := 9, offset := 0, embedded := false, tag := "", pkgPath := "", byteOffset := 0 }, { name := "Present", type := 3, offset := 1, embedded := false, tag := "", pkgPath := "", byteOffset := 16 }, { name := "Count", type := 3, offset := 2, embedded := false, tag := "", pkgPath := "", byteOffset := 24 }, { name := "NextCount", type := 3, offset := 3, embedded := false, tag := "", pkgPath := "", byteOffset := 32 }, { name := "Used", type := 22, offset := 4, embedded := false, tag := "", pkgPath := "", byteOffset := 40 }]) := ⟨Try.underlying23⟩
instance : TyI Try.prog 23 5 64 (Value.agg [Value.string ⟨#[]⟩, Value.int IntKind.i64 (0), Value.int IntKind.i64 (0), Value.int IntKind.i64 (0), Value.slice none 0 0].toArray) := ⟨by kernel_rfl⟩
instance : TyU Try.prog 24 (TypeDesc.struct #[{ name := "Seed", type := 9, offset := 0, embedded := false, tag := "", pkgPath := "", byteOffset := 0 }, { name := "Present", type := 3, offset := 1, embedded := false, tag := "", pkgPath := "", byteOffset := 16 }, { name := "Count", type := 3, offset := 2, embedded := false, tag := "", pkgPath := "", byteOffset := 24 }, { name := "NextCount", type := 3, offset := 3, embedded := false, tag := "", pkgPath := "", byteOffset := 32 }, { name := "Used", type := 22, offset := 4, embedded := false, tag := "", pkgPath := "", byteOffset := 40 }]) := ⟨Try.underlying24⟩
instance : TyI Try.prog 24 5 64 (Value.agg [Value.string ⟨#[]⟩, Value.int IntKind.i64 (0), Value.int IntKind.i64 (0), Value.int IntKind.i64 (0), Value.slice none 0 0].toArray) := ⟨by kernel_rfl⟩
instance : TyU Try.prog 25 (TypeDesc.int IntKind.i64) := ⟨Try.underlying25⟩
instance : TyI Try.prog 25 1 8 (Value.int IntKind.i64 (0)) := ⟨by kernel_rfl⟩
instance : TyU Try.prog 26 (TypeDesc.tuple #[24, 25]) := ⟨Try.underlying26⟩
instance : TyI Try.prog 26 1 0 (Value.tuple { toList := [Value.agg [Value.string ⟨#[]⟩, Value.int IntKind.i64 (0), Value.int IntKind.i64 (0), Value.int IntKind.i64 (0), Value.slice none 0 0].toArray, Value.int IntKind.i64 (0)] }) := ⟨by kernel_rfl⟩
instance : TyU Try.prog 27 (TypeDesc.func #[9, 3, 3] #[24, 25] false) := ⟨Try.underlying27⟩
instance : TyI Try.prog 27 1 8 (Value.nilFunc) := ⟨by kernel_rfl⟩
instance : TyU Try.prog 28 (TypeDesc.func #[5] #[9] false) := ⟨Try.underlying28⟩
instance : TyI Try.prog 28 1 8 (Value.nilFunc) := ⟨by kernel_rfl⟩
instance : TyU Try.prog 29 (TypeDesc.slice 9) := ⟨Try.underlying29⟩
instance : TyI Try.prog 29 1 24 (Value.slice none 0 0) := ⟨by kernel_rfl⟩
instance : TyU Try.prog 30 (TypeDesc.func #[24] #[29] false) := ⟨Try.underlying30⟩
instance : TyI Try.prog 30 1 8 (Value.nilFunc) := ⟨by kernel_rfl⟩
instance : TyU Try.prog 31 (TypeDesc.func #[24, 3] #[24, 25] false) := ⟨Try.underlying31⟩
instance : TyI Try.prog 31 1 8 (Value.nilFunc) := ⟨by kernel_rfl⟩
instance : TyU Try.prog 32 (TypeDesc.func #[] #[4] false) := ⟨Try.underlying32⟩
instance : TyI Try.prog 32 1 8 (Value.nilFunc) := ⟨by kernel_rfl⟩
instance : TyU Try.prog 33 (TypeDesc.func #[5, 5] #[4] false) := ⟨Try.underlying33⟩
instance : TyI Try.prog 33 1 8 (Value.nilFunc) := ⟨by kernel_rfl⟩
instance : TyU Try.prog 34 (TypeDesc.func #[3, 3] #[4] false) := ⟨Try.underlying34⟩
instance : TyI Try.prog 34 1 8 (Value.nilFunc) := ⟨by kernel_rfl⟩
instance : TyU Try.prog 35 (TypeDesc.slice 5) := ⟨Try.underlying35⟩
instance : TyI Try.prog 35 1 24 (Value.slice none 0 0) := ⟨by kernel_rfl⟩
instance : TyU Try.prog 36 (TypeDesc.func #[24, 3, 3] #[29] false) := ⟨Try.underlying36⟩
instance : TyI Try.prog 36 1 8 (Value.nilFunc) := ⟨by kernel_rfl⟩
instance : TyU Try.prog 37 (TypeDesc.func #[9] #[9] false) := ⟨Try.underlying37⟩
instance : TyI Try.prog 37 1 8 (Value.nilFunc) := ⟨by kernel_rfl⟩
instance : TyU Try.prog 38 (TypeDesc.func #[24] #[24] false) := ⟨Try.underlying38⟩
instance : TyI Try.prog 38 1 8 (Value.nilFunc) := ⟨by kernel_rfl⟩
instance : TyU Try.prog 39 (TypeDesc.func #[24] #[4] false) := ⟨Try.underlying39⟩
instance : TyI Try.prog 39 1 8 (Value.nilFunc) := ⟨by kernel_rfl⟩
instance : TyU Try.prog 40 (TypeDesc.slice 45) := ⟨Try.underlying40⟩
instance : TyI Try.prog 40 1 24 (Value.slice none 0 0) := ⟨by kernel_rfl⟩
instance : TyU Try.prog 41 (TypeDesc.tuple #[40, 24, 25]) := ⟨Try.underlying41⟩
instance : TyI Try.prog 41 1 0 (Value.tuple { toList := [Value.slice none 0 0, Value.agg [Value.string ⟨#[]⟩, Value.int IntKind.i64 (0), Value.int IntKind.i64 (0), Value.int IntKind.i64 (0), Value.slice none 0 0].toArray, Value.int IntKind.i64 (0)] }) := ⟨by kernel_rfl⟩
instance : TyU Try.prog 42 (TypeDesc.func #[24, 9] #[40, 24, 25] false) := ⟨Try.underlying42⟩
instance : TyI Try.prog 42 1 8 (Value.nilFunc) := ⟨by kernel_rfl⟩
instance : TyU Try.prog 43 (TypeDesc.func #[9, 9, 9] #[4] false) := ⟨Try.underlying43⟩
instance : TyI Try.prog 43 1 8 (Value.nilFunc) := ⟨by kernel_rfl⟩
instance : TyU Try.prog 44 (TypeDesc.struct #[{ name := "Index", type := 3, offset := 0, embedded := false, tag := "", pkgPath := "", byteOffset := 0 }, { name := "Raw", type := 9, offset := 1, embedded := false, tag := "", pkgPath := "", byteOffset := 8 }]) := ⟨Try.underlying44⟩
instance : TyI Try.prog 44 2 24 (Value.agg [Value.int IntKind.i64 (0), Value.string ⟨#[]⟩].toArray) := ⟨by kernel_rfl⟩
instance : TyU Try.prog 45 (TypeDesc.struct #[{ name := "Index", type := 3, offset := 0, embedded := false, tag := "", pkgPath := "", byteOffset := 0 }, { name := "Raw", type := 9, offset := 1, embedded := false, tag := "", pkgPath := "", byteOffset := 8 }]) := ⟨Try.underlying45⟩
instance : TyI Try.prog 45 2 24 (Value.agg [Value.int IntKind.i64 (0), Value.string ⟨#[]⟩].toArray) := ⟨by kernel_rfl⟩
instance : TyU Try.prog 46 (TypeDesc.func #[9, 3, 3] #[9] false) := ⟨Try.underlying46⟩
instance : TyI Try.prog 46 1 8 (Value.nilFunc) := ⟨by kernel_rfl⟩
instance : TyU Try.prog 47 (TypeDesc.func #[3, 9] #[9] false) := ⟨Try.underlying47⟩
instance : TyI Try.prog 47 1 8 (Value.nilFunc) := ⟨by kernel_rfl⟩
instance : TyU Try.prog 48 (TypeDesc.func #[22] #[22] false) := ⟨Try.underlying48⟩
instance : TyI Try.prog 48 1 8 (Value.nilFunc) := ⟨by kernel_rfl⟩
instance : TyU Try.prog 49 (TypeDesc.func #[3] #[4] false) := ⟨Try.underlying49⟩
instance : TyI Try.prog 49 1 8 (Value.nilFunc) := ⟨by kernel_rfl⟩
instance : TyU Try.prog 50 (TypeDesc.func #[22, 49] #[4] false) := ⟨Try.underlying50⟩
instance : TyI Try.prog 50 1 8 (Value.nilFunc) := ⟨by kernel_rfl⟩
instance : TyU Try.prog 51 (TypeDesc.func #[22] #[3] false) := ⟨Try.underlying51⟩
instance : TyI Try.prog 51 1 8 (Value.nilFunc) := ⟨by kernel_rfl⟩
instance : TyU Try.prog 52 (TypeDesc.tuple #[9, 25]) := ⟨Try.underlying52⟩
instance : TyI Try.prog 52 1 0 (Value.tuple [Value.string ⟨#[]⟩, Value.int IntKind.i64 (0)].toArray) := ⟨by kernel_rfl⟩
instance : TyU Try.prog 53 (TypeDesc.func #[9, 3, 9] #[9, 25] false) := ⟨Try.underlying53⟩
instance : TyI Try.prog 53 1 8 (Value.nilFunc) := ⟨by kernel_rfl⟩
instance : TyU Try.prog 54 (TypeDesc.func #[3, 9] #[9, 25] false) := ⟨Try.underlying54⟩
instance : TyI Try.prog 54 1 8 (Value.nilFunc) := ⟨by kernel_rfl⟩
instance : TyU Try.prog 55 (TypeDesc.func #[9, 9] #[9, 25] false) := ⟨Try.underlying55⟩
instance : TyI Try.prog 55 1 8 (Value.nilFunc) := ⟨by kernel_rfl⟩
instance : TyU Try.prog 56 (TypeDesc.int IntKind.u64) := ⟨Try.underlying56⟩
instance : TyI Try.prog 56 1 8 (Value.int IntKind.u64 (0)) := ⟨by kernel_rfl⟩
instance : TyU Try.prog 57 (TypeDesc.func #[9, 9] #[9] false) := ⟨Try.underlying57⟩
instance : TyI Try.prog 57 1 8 (Value.nilFunc) := ⟨by kernel_rfl⟩
instance : TyU Try.prog 58 (TypeDesc.func #[29] #[9] false) := ⟨Try.underlying58⟩
instance : TyI Try.prog 58 1 8 (Value.nilFunc) := ⟨by kernel_rfl⟩
instance : TyU Try.prog 59 (TypeDesc.func #[3] #[9] false) := ⟨Try.underlying59⟩
instance : TyI Try.prog 59 1 8 (Value.nilFunc) := ⟨by kernel_rfl⟩
instance : TyU Try.prog 60 (TypeDesc.func #[62] #[9, 25] false) := ⟨Try.underlying60⟩
instance : TyI Try.prog 60 1 8 (Value.nilFunc) := ⟨by kernel_rfl⟩
instance : TyU Try.prog 61 (TypeDesc.struct #[{ name := "Code", type := 3, offset := 0, embedded := false, tag := "", pkgPath := "", byteOffset := 0 }, { name := "Raw", type := 9, offset := 1, embedded := false, tag := "", pkgPath := "", byteOffset := 8 }]) := ⟨Try.underlying61⟩
instance : TyI Try.prog 61 2 24 (Value.agg [Value.int IntKind.i64 (0), Value.string ⟨#[]⟩].toArray) := ⟨by kernel_rfl⟩
instance : TyU Try.prog 62 (TypeDesc.struct #[{ name := "Code", type := 3, offset := 0, embedded := false, tag := "", pkgPath := "", byteOffset := 0 }, { name := "Raw", type := 9, offset := 1, embedded := false, tag := "", pkgPath := "", byteOffset := 8 }]) := ⟨Try.underlying62⟩
instance : TyI Try.prog 62 2 24 (Value.agg [Value.int IntKind.i64 (0), Value.string ⟨#[]⟩].toArray) := ⟨by kernel_rfl⟩
instance : TyU Try.prog 63 (TypeDesc.array 4 29) := ⟨Try.underlying63⟩
instance : TyI Try.prog 63 4 96 (Value.agg [Value.slice none 0 0, Value.slice none 0 0, Value.slice none 0 0, Value.slice none 0 0].toArray) := ⟨by kernel_rfl⟩
instance : TyU Try.prog 64 (TypeDesc.func #[9] #[63] false) := ⟨Try.underlying64⟩
instance : TyI Try.prog 64 1 8 (Value.nilFunc) := ⟨by kernel_rfl⟩
instance : TyU Try.prog 65 (TypeDesc.func #[22, 49] #[3] false) := ⟨Try.underlying65⟩
instance : TyI Try.prog 65 1 8 (Value.nilFunc) := ⟨by kernel_rfl⟩
instance : TyU Try.prog 66 (TypeDesc.int IntKind.u32) := ⟨Try.underlying66⟩
instance : TyI Try.prog 66 1 4 (Value.int IntKind.u32 (0)) := ⟨by kernel_rfl⟩
instance : TyU Try.prog 67 (TypeDesc.array 8 66) := ⟨Try.underlying67⟩
instance : TyI Try.prog 67 8 32 (Value.agg [Value.int IntKind.u32 (0), Value.int IntKind.u32 (0), Value.int IntKind.u32 (0), Value.int IntKind.u32 (0), Value.int IntKind.u32 (0), Value.int IntKind.u32 (0), Value.int IntKind.u32 (0), Value.int IntKind.u32 (0)].toArray) := ⟨by kernel_rfl⟩
instance : TyU Try.prog 68 (TypeDesc.array 8 66) := ⟨Try.underlying68⟩
instance : TyI Try.prog 68 8 32 (Value.agg [Value.int IntKind.u32 (0), Value.int IntKind.u32 (0), Value.int IntKind.u32 (0), Value.int IntKind.u32 (0), Value.int IntKind.u32 (0), Value.int IntKind.u32 (0), Value.int IntKind.u32 (0), Value.int IntKind.u32 (0)].toArray) := ⟨by kernel_rfl⟩
instance : TyU Try.prog 69 (TypeDesc.func #[] #[68] false) := ⟨Try.underlying69⟩
instance : TyI Try.prog 69 1 8 (Value.nilFunc) := ⟨by kernel_rfl⟩
instance : TyU Try.prog 70 (TypeDesc.pointer 80) := ⟨Try.underlying70⟩
instance : TyI Try.prog 70 1 8 (Value.pointer none) := ⟨by kernel_rfl⟩
instance : TyU Try.prog 71 (TypeDesc.func #[] #[70] false) := ⟨Try.underlying71⟩
instance : TyI Try.prog 71 1 8 (Value.nilFunc) := ⟨by kernel_rfl⟩
instance : TyU Try.prog 72 (TypeDesc.func #[9, 3] #[9] false) := ⟨Try.underlying72⟩
instance : TyI Try.prog 72 1 8 (Value.nilFunc) := ⟨by kernel_rfl⟩
instance : TyU Try.prog 73 (TypeDesc.func #[9, 70] #[] false) := ⟨Try.underlying73⟩
instance : TyI Try.prog 73 1 8 (Value.nilFunc) := ⟨by kernel_rfl⟩
instance : TyU Try.prog 74 (TypeDesc.array 32 5) := ⟨Try.underlying74⟩
instance : TyI Try.prog 74 32 32 (Value.agg [Value.int IntKind.u8 (0), Value.int IntKind.u8 (0), Value.int IntKind.u8 (0), Value.int IntKind.u8 (0), Value.int IntKind.u8 (0), Value.int IntKind.u8 (0), Value.int IntKind.u8 (0), Value.int IntKind.u8 (0), Value.int IntKind.u8 (0), Value.int IntKind.u8 (0), Value.int IntKind.u8 (0), Value.int IntKind.u8 (0), Value.int IntKind.u8 (0), Value.int IntKind.u8 (0), Value.int IntKind.u8 (0), Value.int IntKind.u8 (0), Value.int IntKind.u8 (0), Value.int IntKind.u8 (0), Value.int IntKind.u8 (0), Value.int IntKind.u8 (0), Value.int IntKind.u8 (0), Value.int IntKind.u8 (0), Value.int IntKind.u8 (0), Value.int IntKind.u8 (0), Value.int IntKind.u8 (0), Value.int IntKind.u8 (0), Value.int IntKind.u8 (0), Value.int IntKind.u8 (0), Value.int IntKind.u8 (0), Value.int IntKind.u8 (0), Value.int IntKind.u8 (0), Value.int IntKind.u8 (0)].toArray) := ⟨by kernel_rfl⟩
instance : TyU Try.prog 75 (TypeDesc.tuple #[62, 3, 25]) := ⟨Try.underlying75⟩
instance : TyI Try.prog 75 1 0 (Value.tuple { toList := [Value.agg [Value.int IntKind.i64 (0), Value.string ⟨#[]⟩].toArray, Value.int IntKind.i64 (0), Value.int IntKind.i64 (0)] }) := ⟨by kernel_rfl⟩
instance : TyU Try.prog 76 (TypeDesc.func #[9] #[62, 3, 25] false) := ⟨Try.underlying76⟩
instance : TyI Try.prog 76 1 8 (Value.nilFunc) := ⟨by kernel_rfl⟩
instance : TyU Try.prog 77 (TypeDesc.func #[9] #[22] false) := ⟨Try.underlying77⟩
instance : TyI Try.prog 77 1 8 (Value.nilFunc) := ⟨by kernel_rfl⟩
instance : TyU Try.prog 78 (TypeDesc.func #[9, 3, 3, 3] #[9] false) := ⟨Try.underlying78⟩
instance : TyI Try.prog 78 1 8 (Value.nilFunc) := ⟨by kernel_rfl⟩
instance : TyU Try.prog 79 (TypeDesc.func #[] #[67] false) := ⟨Try.underlying79⟩
instance : TyI Try.prog 79 1 8 (Value.nilFunc) := ⟨by kernel_rfl⟩
instance : TyU Try.prog 80 (TypeDesc.array 64 66) := ⟨Try.underlying80⟩
instance : TyI Try.prog 80 64 256 (Value.agg [Value.int IntKind.u32 (0), Value.int IntKind.u32 (0), Value.int IntKind.u32 (0), Value.int IntKind.u32 (0), Value.int IntKind.u32 (0), Value.int IntKind.u32 (0), Value.int IntKind.u32 (0), Value.int IntKind.u32 (0), Value.int IntKind.u32 (0), Value.int IntKind.u32 (0), Value.int IntKind.u32 (0), Value.int IntKind.u32 (0), Value.int IntKind.u32 (0), Value.int IntKind.u32 (0), Value.int IntKind.u32 (0), Value.int IntKind.u32 (0), Value.int IntKind.u32 (0), Value.int IntKind.u32 (0), Value.int IntKind.u32 (0), Value.int IntKind.u32 (0), Value.int IntKind.u32 (0), Value.int IntKind.u32 (0), Value.int IntKind.u32 (0), Value.int IntKind.u32 (0), Value.int IntKind.u32 (0), Value.int IntKind.u32 (0), Value.int IntKind.u32 (0), Value.int IntKind.u32 (0), Value.int IntKind.u32 (0), Value.int IntKind.u32 (0), Value.int IntKind.u32 (0), Value.int IntKind.u32 (0), Value.int IntKind.u32 (0), Value.int IntKind.u32 (0), Value.int IntKind.u32 (0), Value.int IntKind.u32 (0), Value.int IntKind.u32 (0), Value.int IntKind.u32 (0), Value.int IntKind.u32 (0), Value.int IntKind.u32 (0), Value.int IntKind.u32 (0), Value.int IntKind.u32 (0), Value.int IntKind.u32 (0), Value.int IntKind.u32 (0), Value.int IntKind.u32 (0), Value.int IntKind.u32 (0), Value.int IntKind.u32 (0), Value.int IntKind.u32 (0), Value.int IntKind.u32 (0), Value.int IntKind.u32 (0), Value.int IntKind.u32 (0), Value.int IntKind.u32 (0), Value.int IntKind.u32 (0), Value.int IntKind.u32 (0), Value.int IntKind.u32 (0), Value.int IntKind.u32 (0), Value.int IntKind.u32 (0), Value.int IntKind.u32 (0), Value.int IntKind.u32 (0), Value.int IntKind.u32 (0), Value.int IntKind.u32 (0), Value.int IntKind.u32 (0), Value.int IntKind.u32 (0), Value.int IntKind.u32 (0)].toArray) := ⟨by kernel_rfl⟩
instance : TyU Try.prog 81 (TypeDesc.func #[] #[80] false) := ⟨Try.underlying81⟩
instance : TyI Try.prog 81 1 8 (Value.nilFunc) := ⟨by kernel_rfl⟩
instance : TyU Try.prog 82 (TypeDesc.func #[67, 80, 9] #[67] false) := ⟨Try.underlying82⟩
instance : TyI Try.prog 82 1 8 (Value.nilFunc) := ⟨by kernel_rfl⟩
instance : TyU Try.prog 83 (TypeDesc.pointer 85) := ⟨Try.underlying83⟩
instance : TyI Try.prog 83 1 8 (Value.pointer none) := ⟨by kernel_rfl⟩
instance : TyU Try.prog 84 (TypeDesc.struct #[{ name := "addr", type := 83, offset := 0, embedded := false, tag := "", pkgPath := "strings", byteOffset := 0 }, { name := "buf", type := 35, offset := 1, embedded := false, tag := "", pkgPath := "strings", byteOffset := 8 }]) := ⟨Try.underlying84⟩
instance : TyI Try.prog 84 2 32 (Value.agg [Value.pointer none, Value.slice none 0 0].toArray) := ⟨by kernel_rfl⟩
instance : TyU Try.prog 85 (TypeDesc.struct #[{ name := "addr", type := 83, offset := 0, embedded := false, tag := "", pkgPath := "strings", byteOffset := 0 }, { name := "buf", type := 35, offset := 1, embedded := false, tag := "", pkgPath := "strings", byteOffset := 8 }]) := ⟨Try.underlying85⟩
instance : TyI Try.prog 85 2 32 (Value.agg [Value.pointer none, Value.slice none 0 0].toArray) := ⟨by kernel_rfl⟩
instance : TyU Try.prog 86 (TypeDesc.interface #[("Error", 90)]) := ⟨Try.underlying86⟩
instance : TyI Try.prog 86 1 16 (Value.nilIface) := ⟨by kernel_rfl⟩
instance : TyU Try.prog 87 (TypeDesc.interface #[("Error", 90)]) := ⟨Try.underlying87⟩
instance : TyI Try.prog 87 1 16 (Value.nilIface) := ⟨by kernel_rfl⟩
instance : TyU Try.prog 88 (TypeDesc.tuple #[3, 87]) := ⟨Try.underlying88⟩
instance : TyI Try.prog 88 1 0 (Value.tuple [Value.int IntKind.i64 (0), Value.nilIface].toArray) := ⟨by kernel_rfl⟩
instance : TyU Try.prog 89 (TypeDesc.func #[9] #[3, 87] false) := ⟨Try.underlying89⟩
instance : TyI Try.prog 89 1 8 (Value.nilFunc) := ⟨by kernel_rfl⟩
instance : TyU Try.prog 90 (TypeDesc.func #[] #[9] false) := ⟨Try.underlying90⟩
instance : TyI Try.prog 90 1 8 (Value.nilFunc) := ⟨by kernel_rfl⟩
instance : TyU Try.prog 91 (TypeDesc.struct #[{ name := "code", type := 9, offset := 0, embedded := false, tag := "", pkgPath := "keyevent/primitive", byteOffset := 0 }, { name := "raw", type := 3, offset := 1, embedded := false, tag := "", pkgPath := "keyevent/primitive", byteOffset := 16 }]) := ⟨Try.underlying91⟩
instance : TyI Try.prog 91 2 24 (Value.agg [Value.string ⟨#[]⟩, Value.int IntKind.i64 (0)].toArray) := ⟨by kernel_rfl⟩
instance : TyU Try.prog 92 (TypeDesc.struct #[{ name := "code", type := 9, offset := 0, embedded := false, tag := "", pkgPath := "keyevent/primitive", byteOffset := 0 }, { name := "raw", type := 3, offset := 1, embedded := false, tag := "", pkgPath := "keyevent/primitive", byteOffset := 16 }]) := ⟨Try.underlying92⟩
instance : TyI Try.prog 92 2 24 (Value.agg [Value.string ⟨#[]⟩, Value.int IntKind.i64 (0)].toArray) := ⟨by kernel_rfl⟩
instance : TyU Try.prog 93 (TypeDesc.tuple #[92, 4]) := ⟨Try.underlying93⟩
instance : TyI Try.prog 93 1 0 (Value.tuple { toList := [Value.agg [Value.string ⟨#[]⟩, Value.int IntKind.i64 (0)].toArray, Value.bool false] }) := ⟨by kernel_rfl⟩
instance : TyU Try.prog 94 (TypeDesc.map 3 92) := ⟨Try.underlying94⟩
instance : TyI Try.prog 94 1 8 (Value.map none) := ⟨by kernel_rfl⟩
instance : TyU Try.prog 95 (TypeDesc.func #[] #[94] false) := ⟨Try.underlying95⟩
instance : TyI Try.prog 95 1 8 (Value.nilFunc) := ⟨by kernel_rfl⟩
instance : TyU Try.prog 96 (TypeDesc.func #[9] #[9, 25] false) := ⟨Try.underlying96⟩
instance : TyI Try.prog 96 1 8 (Value.nilFunc) := ⟨by kernel_rfl⟩
instance : TyU Try.prog 97 (TypeDesc.func #[] #[3] false) := ⟨Try.underlying97⟩
instance : TyI Try.prog 97 1 8 (Value.nilFunc) := ⟨by kernel_rfl⟩
instance : TyU Try.prog 98 (TypeDesc.func #[5] #[87] false) := ⟨Try.underlying98⟩
instance : TyI Try.prog 98 1 8 (Value.nilFunc) := ⟨by kernel_rfl⟩
instance : TyU Try.prog 99 (TypeDesc.int IntKind.u64) := ⟨Try.underlying99⟩
instance : TyI Try.prog 99 1 8 (Value.int IntKind.u64 (0)) := ⟨by kernel_rfl⟩
instance : TyU Try.prog 100 (TypeDesc.pointer 68) := ⟨Try.underlying100⟩
instance : TyI Try.prog 100 1 8 (Value.pointer none) := ⟨by kernel_rfl⟩
instance : TyU Try.prog 101 (TypeDesc.func #[66, 3] #[66] false) := ⟨Try.underlying101⟩
instance : TyI Try.prog 101 1 8 (Value.nilFunc) := ⟨by kernel_rfl⟩
instance : TyU Try.prog 102 (TypeDesc.func #[9, 22] #[9] false) := ⟨Try.underlying102⟩
instance : TyI Try.prog 102 1 8 (Value.nilFunc) := ⟨by kernel_rfl⟩
instance : TyU Try.prog 103 (TypeDesc.tuple #[9, 4]) := ⟨Try.underlying103⟩
instance : TyI Try.prog 103 1 0 (Value.tuple [Value.string ⟨#[]⟩, Value.bool false].toArray) := ⟨by kernel_rfl⟩
instance : TyU Try.prog 104 (TypeDesc.func #[3] #[9, 4] false) := ⟨Try.underlying104⟩
instance : TyI Try.prog 104 1 8 (Value.nilFunc) := ⟨by kernel_rfl⟩
instance : TyU Try.prog 105 (TypeDesc.func #[3] #[3] false) := ⟨Try.underlying105⟩
instance : TyI Try.prog 105 1 8 (Value.nilFunc) := ⟨by kernel_rfl⟩
instance : TyU Try.prog 106 (TypeDesc.func #[9] #[66] false) := ⟨Try.underlying106⟩
instance : TyI Try.prog 106 1 8 (Value.nilFunc) := ⟨by kernel_rfl⟩
instance : TyU Try.prog 107 (TypeDesc.pointer 5) := ⟨Try.underlying107⟩
instance : TyI Try.prog 107 1 8 (Value.pointer none) := ⟨by kernel_rfl⟩
instance : TyU Try.prog 108 (TypeDesc.tuple #[56, 56]) := ⟨Try.underlying108⟩
instance : TyI Try.prog 108 1 0 (Value.tuple [Value.int IntKind.u64 (0), Value.int IntKind.u64 (0)].toArray) := ⟨by kernel_rfl⟩
instance : TyU Try.prog 109 (TypeDesc.func #[56, 56] #[56, 56] false) := ⟨Try.underlying109⟩
instance : TyI Try.prog 109 1 8 (Value.nilFunc) := ⟨by kernel_rfl⟩
instance : TyU Try.prog 110 (TypeDesc.func #[9, 9] #[4] false) := ⟨Try.underlying110⟩
instance : TyI Try.prog 110 1 8 (Value.nilFunc) := ⟨by kernel_rfl⟩
instance : TyU Try.prog 111 (TypeDesc.func #[3] #[] false) := ⟨Try.underlying111⟩
instance : TyI Try.prog 111 1 8 (Value.nilFunc) := ⟨by kernel_rfl⟩
instance : TyU Try.prog 112 (TypeDesc.tuple #[3, 4]) := ⟨Try.underlying112⟩
instance : TyI Try.prog 112 1 0 (Value.tuple [Value.int IntKind.i64 (0), Value.bool false].toArray) := ⟨by kernel_rfl⟩
instance : TyU Try.prog 113 (TypeDesc.func #[5] #[3, 4] false) := ⟨Try.underlying113⟩
instance : TyI Try.prog 113 1 8 (Value.nilFunc) := ⟨by kernel_rfl⟩
instance : TyU Try.prog 114 (TypeDesc.func #[3, 3] #[9] false) := ⟨Try.underlying114⟩
instance : TyI Try.prog 114 1 8 (Value.nilFunc) := ⟨by kernel_rfl⟩
instance : TyU Try.prog 115 TypeDesc.unsafePointer := ⟨Try.underlying115⟩
instance : TyI Try.prog 115 1 8 (Value.pointer none) := ⟨by kernel_rfl⟩
instance : TyU Try.prog 116 (TypeDesc.func #[115] #[115] false) := ⟨Try.underlying116⟩
instance : TyI Try.prog 116 1 8 (Value.nilFunc) := ⟨by kernel_rfl⟩
instance : TyU Try.prog 117 (TypeDesc.tuple #[66, 66]) := ⟨Try.underlying117⟩
instance : TyI Try.prog 117 1 0 (Value.tuple [Value.int IntKind.u32 (0), Value.int IntKind.u32 (0)].toArray) := ⟨by kernel_rfl⟩
instance : TyU Try.prog 118 (TypeDesc.func #[66, 66] #[66, 66] false) := ⟨Try.underlying118⟩
instance : TyI Try.prog 118 1 8 (Value.nilFunc) := ⟨by kernel_rfl⟩
instance : TyU Try.prog 119 (TypeDesc.tuple #[99, 99]) := ⟨Try.underlying119⟩
instance : TyI Try.prog 119 1 0 (Value.tuple [Value.int IntKind.u64 (0), Value.int IntKind.u64 (0)].toArray) := ⟨by kernel_rfl⟩
instance : TyU Try.prog 120 (TypeDesc.func #[99, 99] #[99, 99] false) := ⟨Try.underlying120⟩
instance : TyI Try.prog 120 1 8 (Value.nilFunc) := ⟨by kernel_rfl⟩
instance : TyU Try.prog 121 (TypeDesc.func #[3] #[35] false) := ⟨Try.underlying121⟩
instance : TyI Try.prog 121 1 8 (Value.nilFunc) := ⟨by kernel_rfl⟩
instance : TyU Try.prog 122 (TypeDesc.struct #[{ name := "_interface", type := 17, offset := 0, embedded := false, tag := "", pkgPath := "runtime", byteOffset := 0 }, { name := "concrete", type := 17, offset := 1, embedded := false, tag := "", pkgPath := "runtime", byteOffset := 8 }, { name := "asserted", type := 17, offset := 2, embedded := false, tag := "", pkgPath := "runtime", byteOffset := 16 }, { name := "missingMethod", type := 9, offset := 3, embedded := false, tag := "", pkgPath := "runtime", byteOffset := 24 }]) := ⟨Try.underlying122⟩
instance : TyI Try.prog 122 4 40 (Value.agg [Value.pointer none, Value.pointer none, Value.pointer none, Value.string ⟨#[]⟩].toArray) := ⟨by kernel_rfl⟩
instance : TyU Try.prog 123 (TypeDesc.struct #[{ name := "_interface", type := 17, offset := 0, embedded := false, tag := "", pkgPath := "runtime", byteOffset := 0 }, { name := "concrete", type := 17, offset := 1, embedded := false, tag := "", pkgPath := "runtime", byteOffset := 8 }, { name := "asserted", type := 17, offset := 2, embedded := false, tag := "", pkgPath := "runtime", byteOffset := 16 }, { name := "missingMethod", type := 9, offset := 3, embedded := false, tag := "", pkgPath := "runtime", byteOffset := 24 }]) := ⟨Try.underlying123⟩
instance : TyI Try.prog 123 4 40 (Value.agg [Value.pointer none, Value.pointer none, Value.pointer none, Value.string ⟨#[]⟩].toArray) := ⟨by kernel_rfl⟩
instance : TyU Try.prog 124 (TypeDesc.array 0 16) := ⟨Try.underlying124⟩
instance : TyI Try.prog 124 0 0 (Value.agg [].toArray) := ⟨by kernel_rfl⟩
instance : TyU Try.prog 125 (TypeDesc.struct #[{ name := "_", type := 124, offset := 0, embedded := false, tag := "", pkgPath := "runtime", byteOffset := 0 }]) := ⟨Try.underlying125⟩
instance : TyI Try.prog 125 0 0 (Value.agg [].toArray) := ⟨by kernel_rfl⟩
instance : TyU Try.prog 126 (TypeDesc.struct #[{ name := "_", type := 124, offset := 0, embedded := false, tag := "", pkgPath := "runtime", byteOffset := 0 }]) := ⟨Try.underlying126⟩
instance : TyI Try.prog 126 0 0 (Value.agg [].toArray) := ⟨by kernel_rfl⟩
instance : TyU Try.prog 127 (TypeDesc.int IntKind.u8) := ⟨Try.underlying127⟩
instance : TyI Try.prog 127 1 1 (Value.int IntKind.u8 (0)) := ⟨by kernel_rfl⟩
instance : TyU Try.prog 128 (TypeDesc.int IntKind.u8) := ⟨Try.underlying128⟩
instance : TyI Try.prog 128 1 1 (Value.int IntKind.u8 (0)) := ⟨by kernel_rfl⟩
instance : TyU Try.prog 129 (TypeDesc.func #[115, 115] #[4] false) := ⟨Try.underlying129⟩
instance : TyI Try.prog 129 1 8 (Value.nilFunc) := ⟨by kernel_rfl⟩
instance : TyU Try.prog 130 (TypeDesc.int IntKind.i32) := ⟨Try.underlying130⟩
instance : TyI Try.prog 130 1 4 (Value.int IntKind.i32 (0)) := ⟨by kernel_rfl⟩
instance : TyU Try.prog 131 (TypeDesc.int IntKind.i32) := ⟨Try.underlying131⟩
instance : TyI Try.prog 131 1 4 (Value.int IntKind.i32 (0)) := ⟨by kernel_rfl⟩
instance : TyU Try.prog 132 (TypeDesc.struct #[{ name := "Size_", type := 12, offset := 0, embedded := false, tag := "", pkgPath := "", byteOffset := 0 }, { name := "PtrBytes", type := 12, offset := 1, embedded := false, tag := "", pkgPath := "", byteOffset := 8 }, { name := "Hash", type := 66, offset := 2, embedded := false, tag := "", pkgPath := "", byteOffset := 16 }, { name := "TFlag", type := 127, offset := 3, embedded := false, tag := "", pkgPath := "", byteOffset := 20 }, { name := "Align_", type := 5, offset := 4, embedded := false, tag := "", pkgPath := "", byteOffset := 21 }, { name := "FieldAlign_", type := 5, offset := 5, embedded := false, tag := "", pkgPath := "", byteOffset := 22 }, { name := "Kind_", type := 128, offset := 6, embedded := false, tag := "", pkgPath := "", byteOffset := 23 }, { name := "Equal", type := 129, offset := 7, embedded := false, tag := "", pkgPath := "", byteOffset := 24 }, { name := "GCData", type := 107, offset := 8, embedded := false, tag := "", pkgPath := "", byteOffset := 32 }, { name := "Str", type := 130, offset := 9, embedded := false, tag := "", pkgPath := "", byteOffset := 40 }, { name := "PtrToThis", type := 131, offset := 10, embedded := false, tag := "", pkgPath := "", byteOffset := 44 }]) := ⟨Try.underlying132⟩
instance : TyI Try.prog 132 11 48 (Value.agg [Value.int IntKind.u64 (0), Value.int IntKind.u64 (0), Value.int IntKind.u32 (0), Value.int IntKind.u8 (0), Value.int IntKind.u8 (0), Value.int IntKind.u8 (0), Value.int IntKind.u8 (0), Value.nilFunc, Value.pointer none, Value.int IntKind.i32 (0), Value.int IntKind.i32 (0)].toArray) := ⟨by kernel_rfl⟩
instance : TyU Try.prog 133 (TypeDesc.struct #[{ name := "Size_", type := 12, offset := 0, embedded := false, tag := "", pkgPath := "", byteOffset := 0 }, { name := "PtrBytes", type := 12, offset := 1, embedded := false, tag := "", pkgPath := "", byteOffset := 8 }, { name := "Hash", type := 66, offset := 2, embedded := false, tag := "", pkgPath := "", byteOffset := 16 }, { name := "TFlag", type := 127, offset := 3, embedded := false, tag := "", pkgPath := "", byteOffset := 20 }, { name := "Align_", type := 5, offset := 4, embedded := false, tag := "", pkgPath := "", byteOffset := 21 }, { name := "FieldAlign_", type := 5, offset := 5, embedded := false, tag := "", pkgPath := "", byteOffset := 22 }, { name := "Kind_", type := 128, offset := 6, embedded := false, tag := "", pkgPath := "", byteOffset := 23 }, { name := "Equal", type := 129, offset := 7, embedded := false, tag := "", pkgPath := "", byteOffset := 24 }, { name := "GCData", type := 107, offset := 8, embedded := false, tag := "", pkgPath := "", byteOffset := 32 }, { name := "Str", type := 130, offset := 9, embedded := false, tag := "", pkgPath := "", byteOffset := 40 }, { name := "PtrToThis", type := 131, offset := 10, embedded := false, tag := "", pkgPath := "", byteOffset := 44 }]) := ⟨Try.underlying133⟩
instance : TyI Try.prog 133 11 48 (Value.agg [Value.int IntKind.u64 (0), Value.int IntKind.u64 (0), Value.int IntKind.u32 (0), Value.int IntKind.u8 (0), Value.int IntKind.u8 (0), Value.int IntKind.u8 (0), Value.int IntKind.u8 (0), Value.nilFunc, Value.pointer none, Value.int IntKind.i32 (0), Value.int IntKind.i32 (0)].toArray) := ⟨by kernel_rfl⟩
instance : FnB Try.prog 3 := ⟨⟨Try.f3, Try.func3, by kernel_rfl, by kernel_rfl⟩⟩
instance : FnB Try.prog 4 := ⟨⟨Try.f4, Try.func4, by kernel_rfl, by kernel_rfl⟩⟩
instance : FnB Try.prog 5 := ⟨⟨Try.f5, Try.func5, by kernel_rfl, by kernel_rfl⟩⟩
instance : FnB Try.prog 6 := ⟨⟨Try.f6, Try.func6, by kernel_rfl, by kernel_rfl⟩⟩
instance : FnB Try.prog 7 := ⟨⟨Try.f7, Try.func7, by kernel_rfl, by kernel_rfl⟩⟩
instance : FnB Try.prog 8 := ⟨⟨Try.f8, Try.func8, by kernel_rfl, by kernel_rfl⟩⟩
instance : FnB Try.prog 9 := ⟨⟨Try.f9, Try.func9, by kernel_rfl, by kernel_rfl⟩⟩
instance : FnB Try.prog 10 := ⟨⟨Try.f10, Try.func10, by kernel_rfl, by kernel_rfl⟩⟩
instance : FnB Try.prog 11 := ⟨⟨Try.f11, Try.func11, by kernel_rfl, by kernel_rfl⟩⟩
instance : FnB Try.prog 12 := ⟨⟨Try.f12, Try.func12, by kernel_rfl, by kernel_rfl⟩⟩
instance : FnB Try.prog 13 := ⟨⟨Try.f13, Try.func13, by kernel_rfl, by kernel_rfl⟩⟩
instance : FnB Try.prog 14 := ⟨⟨Try.f14, Try.func14, by kernel_rfl, by kernel_rfl⟩⟩
instance : FnB Try.prog 15 := ⟨⟨Try.f15, Try.func15, by kernel_rfl, by kernel_rfl⟩⟩
instance : FnB Try.prog 16 := ⟨⟨Try.f16, Try.func16, by kernel_rfl, by kernel_rfl⟩⟩
instance : FnB Try.prog 17 := ⟨⟨Try.f17, Try.func17, by kernel_rfl, by kernel_rfl⟩⟩
instance : FnB Try.prog 18 := ⟨⟨Try.f18, Try.func18, by kernel_rfl, by kernel_rfl⟩⟩
instance : FnB Try.prog 19 := ⟨⟨Try.f19, Try.func19, by kernel_rfl, by kernel_rfl⟩⟩
instance : FnB Try.prog 20 := ⟨⟨Try.f20, Try.func20, by kernel_rfl, by kernel_rfl⟩⟩
instance : FnB Try.prog 21 := ⟨⟨Try.f21, Try.func21, by kernel_rfl, by kernel_rfl⟩⟩
instance : FnB Try.prog 22 := ⟨⟨Try.f22, Try.func22, by kernel_rfl, by kernel_rfl⟩⟩
instance : FnB Try.prog 23 := ⟨⟨Try.f23, Try.func23, by kernel_rfl, by kernel_rfl⟩⟩
instance : FnB Try.prog 24 := ⟨⟨Try.f24, Try.func24, by kernel_rfl, by kernel_rfl⟩⟩
instance : FnB Try.prog 25 := ⟨⟨Try.f25, Try.func25, by kernel_rfl, by kernel_rfl⟩⟩
instance : FnB Try.prog 26 := ⟨⟨Try.f26, Try.func26, by kernel_rfl, by kernel_rfl⟩⟩
instance : FnB Try.prog 27 := ⟨⟨Try.f27, Try.func27, by kernel_rfl, by kernel_rfl⟩⟩
instance : FnB Try.prog 28 := ⟨⟨Try.f28, Try.func28, by kernel_rfl, by kernel_rfl⟩⟩
instance : FnB Try.prog 29 := ⟨⟨Try.f29, Try.func29, by kernel_rfl, by kernel_rfl⟩⟩
instance : FnB Try.prog 30 := ⟨⟨Try.f30, Try.func30, by kernel_rfl, by kernel_rfl⟩⟩
instance : FnB Try.prog 31 := ⟨⟨Try.f31, Try.func31, by kernel_rfl, by kernel_rfl⟩⟩
instance : FnB Try.prog 32 := ⟨⟨Try.f32, Try.func32, by kernel_rfl, by kernel_rfl⟩⟩
instance : FnB Try.prog 33 := ⟨⟨Try.f33, Try.func33, by kernel_rfl, by kernel_rfl⟩⟩
instance : FnB Try.prog 34 := ⟨⟨Try.f34, Try.func34, by kernel_rfl, by kernel_rfl⟩⟩
instance : FnB Try.prog 35 := ⟨⟨Try.f35, Try.func35, by kernel_rfl, by kernel_rfl⟩⟩
instance : FnB Try.prog 36 := ⟨⟨Try.f36, Try.func36, by kernel_rfl, by kernel_rfl⟩⟩
instance : FnB Try.prog 37 := ⟨⟨Try.f37, Try.func37, by kernel_rfl, by kernel_rfl⟩⟩
instance : FnB Try.prog 38 := ⟨⟨Try.f38, Try.func38, by kernel_rfl, by kernel_rfl⟩⟩
instance : FnB Try.prog 39 := ⟨⟨Try.f39, Try.func39, by kernel_rfl, by kernel_rfl⟩⟩
instance : FnB Try.prog 40 := ⟨⟨Try.f40, Try.func40, by kernel_rfl, by kernel_rfl⟩⟩
instance : FnB Try.prog 41 := ⟨⟨Try.f41, Try.func41, by kernel_rfl, by kernel_rfl⟩⟩
instance : FnB Try.prog 42 := ⟨⟨Try.f42, Try.func42, by kernel_rfl, by kernel_rfl⟩⟩
instance : FnB Try.prog 43 := ⟨⟨Try.f43, Try.func43, by kernel_rfl, by kernel_rfl⟩⟩
instance : FnB Try.prog 44 := ⟨⟨Try.f44, Try.func44, by kernel_rfl, by kernel_rfl⟩⟩
instance : FnB Try.prog 45 := ⟨⟨Try.f45, Try.func45, by kernel_rfl, by kernel_rfl⟩⟩
instance : FnB Try.prog 46 := ⟨⟨Try.f46, Try.func46, by kernel_rfl, by kernel_rfl⟩⟩
instance : FnB Try.prog 47 := ⟨⟨Try.f47, Try.func47, by kernel_rfl, by kernel_rfl⟩⟩
instance : FnB Try.prog 48 := ⟨⟨Try.f48, Try.func48, by kernel_rfl, by kernel_rfl⟩⟩
instance : FnB Try.prog 49 := ⟨⟨Try.f49, Try.func49, by kernel_rfl, by kernel_rfl⟩⟩
instance : FnB Try.prog 50 := ⟨⟨Try.f50, Try.func50, by kernel_rfl, by kernel_rfl⟩⟩
instance : FnB Try.prog 51 := ⟨⟨Try.f51, Try.func51, by kernel_rfl, by kernel_rfl⟩⟩
instance : FnB Try.prog 52 := ⟨⟨Try.f52, Try.func52, by kernel_rfl, by kernel_rfl⟩⟩
instance : FnB Try.prog 53 := ⟨⟨Try.f53, Try.func53, by kernel_rfl, by kernel_rfl⟩⟩
instance : FnB Try.prog 54 := ⟨⟨Try.f54, Try.func54, by kernel_rfl, by kernel_rfl⟩⟩
instance : FnB Try.prog 55 := ⟨⟨Try.f55, Try.func55, by kernel_rfl, by kernel_rfl⟩⟩
instance : FnB Try.prog 56 := ⟨⟨Try.f56, Try.func56, by kernel_rfl, by kernel_rfl⟩⟩
instance : FnB Try.prog 57 := ⟨⟨Try.f57, Try.func57, by kernel_rfl, by kernel_rfl⟩⟩
instance : FnB Try.prog 58 := ⟨⟨Try.f58, Try.func58, by kernel_rfl, by kernel_rfl⟩⟩
instance : FnB Try.prog 59 := ⟨⟨Try.f59, Try.func59, by kernel_rfl, by kernel_rfl⟩⟩
instance : FnB Try.prog 60 := ⟨⟨Try.f60, Try.func60, by kernel_rfl, by kernel_rfl⟩⟩
instance : FnB Try.prog 61 := ⟨⟨Try.f61, Try.func61, by kernel_rfl, by kernel_rfl⟩⟩
instance : FnB Try.prog 62 := ⟨⟨Try.f62, Try.func62, by kernel_rfl, by kernel_rfl⟩⟩
instance : FnB Try.prog 63 := ⟨⟨Try.f63, Try.func63, by kernel_rfl, by kernel_rfl⟩⟩
instance : FnB Try.prog 64 := ⟨⟨Try.f64, Try.func64, by kernel_rfl, by kernel_rfl⟩⟩
instance : FnB Try.prog 65 := ⟨⟨Try.f65, Try.func65, by kernel_rfl, by kernel_rfl⟩⟩
instance : FnB Try.prog 66 := ⟨⟨Try.f66, Try.func66, by kernel_rfl, by kernel_rfl⟩⟩
instance : FnB Try.prog 67 := ⟨⟨Try.f67, Try.func67, by kernel_rfl, by kernel_rfl⟩⟩
instance : FnB Try.prog 68 := ⟨⟨Try.f68, Try.func68, by kernel_rfl, by kernel_rfl⟩⟩
instance : FnB Try.prog 69 := ⟨⟨Try.f69, Try.func69, by kernel_rfl, by kernel_rfl⟩⟩
instance : FnB Try.prog 70 := ⟨⟨Try.f70, Try.func70, by kernel_rfl, by kernel_rfl⟩⟩
instance : FnB Try.prog 71 := ⟨⟨Try.f71, Try.func71, by kernel_rfl, by kernel_rfl⟩⟩
instance : FnB Try.prog 72 := ⟨⟨Try.f72, Try.func72, by kernel_rfl, by kernel_rfl⟩⟩
instance : FnB Try.prog 73 := ⟨⟨Try.f73, Try.func73, by kernel_rfl, by kernel_rfl⟩⟩
instance : FnB Try.prog 74 := ⟨⟨Try.f74, Try.func74, by kernel_rfl, by kernel_rfl⟩⟩
instance : FnB Try.prog 75 := ⟨⟨Try.f75, Try.func75, by kernel_rfl, by kernel_rfl⟩⟩
instance : FnB Try.prog 76 := ⟨⟨Try.f76, Try.func76, by kernel_rfl, by kernel_rfl⟩⟩
instance : FnB Try.prog 77 := ⟨⟨Try.f77, Try.func77, by kernel_rfl, by kernel_rfl⟩⟩
instance : FnB Try.prog 78 := ⟨⟨Try.f78, Try.func78, by kernel_rfl, by kernel_rfl⟩⟩
instance : FnB Try.prog 79 := ⟨⟨Try.f79, Try.func79, by kernel_rfl, by kernel_rfl⟩⟩
instance : FnB Try.prog 80 := ⟨⟨Try.f80, Try.func80, by kernel_rfl, by kernel_rfl⟩⟩
instance : FnB Try.prog 81 := ⟨⟨Try.f81, Try.func81, by kernel_rfl, by kernel_rfl⟩⟩
instance : FnB Try.prog 82 := ⟨⟨Try.f82, Try.func82, by kernel_rfl, by kernel_rfl⟩⟩
instance : FnB Try.prog 83 := ⟨⟨Try.f83, Try.func83, by kernel_rfl, by kernel_rfl⟩⟩
instance : FnB Try.prog 84 := ⟨⟨Try.f84, Try.func84, by kernel_rfl, by kernel_rfl⟩⟩
instance : FnB Try.prog 85 := ⟨⟨Try.f85, Try.func85, by kernel_rfl, by kernel_rfl⟩⟩
instance : FnB Try.prog 87 := ⟨⟨Try.f87, Try.func87, by kernel_rfl, by kernel_rfl⟩⟩
instance : FnB Try.prog 88 := ⟨⟨Try.f88, Try.func88, by kernel_rfl, by kernel_rfl⟩⟩
instance : FnB Try.prog 89 := ⟨⟨Try.f89, Try.func89, by kernel_rfl, by kernel_rfl⟩⟩
instance : FnB Try.prog 90 := ⟨⟨Try.f90, Try.func90, by kernel_rfl, by kernel_rfl⟩⟩
instance : FnB Try.prog 91 := ⟨⟨Try.f91, Try.func91, by kernel_rfl, by kernel_rfl⟩⟩
instance : TyB Try.prog 7 [(0, 1), (1, 1), (2, 1), (3, 1)] := ⟨by kernel_rfl⟩
instance : TyB Try.prog 8 [(0, 1), (1, 1), (2, 1), (3, 1)] := ⟨by kernel_rfl⟩
instance : TyB Try.prog 13 [(0, 1), (1, 1)] := ⟨by kernel_rfl⟩
instance : TyB Try.prog 14 [(0, 1), (1, 1)] := ⟨by kernel_rfl⟩
instance : TyB Try.prog 18 [(0, 1)] := ⟨by kernel_rfl⟩
instance : TyB Try.prog 19 [(0, 1)] := ⟨by kernel_rfl⟩
instance : TyB Try.prog 23 [(0, 1), (1, 1), (2, 1), (3, 1), (4, 1)] := ⟨by kernel_rfl⟩
instance : TyB Try.prog 24 [(0, 1), (1, 1), (2, 1), (3, 1), (4, 1)] := ⟨by kernel_rfl⟩
instance : TyB Try.prog 44 [(0, 1), (1, 1)] := ⟨by kernel_rfl⟩
instance : TyB Try.prog 45 [(0, 1), (1, 1)] := ⟨by kernel_rfl⟩
instance : TyB Try.prog 61 [(0, 1), (1, 1)] := ⟨by kernel_rfl⟩
instance : TyB Try.prog 62 [(0, 1), (1, 1)] := ⟨by kernel_rfl⟩
instance : TyB Try.prog 84 [(0, 1), (1, 1)] := ⟨by kernel_rfl⟩
instance : TyB Try.prog 85 [(0, 1), (1, 1)] := ⟨by kernel_rfl⟩
instance : TyB Try.prog 91 [(0, 1), (1, 1)] := ⟨by kernel_rfl⟩
instance : TyB Try.prog 92 [(0, 1), (1, 1)] := ⟨by kernel_rfl⟩
instance : TyB Try.prog 122 [(0, 1), (1, 1), (2, 1), (3, 1)] := ⟨by kernel_rfl⟩
instance : TyB Try.prog 123 [(0, 1), (1, 1), (2, 1), (3, 1)] := ⟨by kernel_rfl⟩
instance : TyB Try.prog 125 [(0, 0)] := ⟨by kernel_rfl⟩
instance : TyB Try.prog 126 [(0, 0)] := ⟨by kernel_rfl⟩
instance : TyB Try.prog 132 [(0, 1), (1, 1), (2, 1), (3, 1), (4, 1), (5, 1), (6, 1), (7, 1), (8, 1), (9, 1), (10, 1)] := ⟨by kernel_rfl⟩
instance : TyB Try.prog 133 [(0, 1), (1, 1), (2, 1), (3, 1), (4, 1), (5, 1), (6, 1), (7, 1), (8, 1), (9, 1), (10, 1)] := ⟨by kernel_rfl⟩
end Go.AL
namespace Go.AL
open Go Go.Proofs Go.RowKit
theorem zd3 : ∀ n : Fin 32, 1 ≤ n.val → IntKind.u64.wrap ((BitVec.ofInt IntKind.u64.bits (IntKind.u64.wrap (IntKind.i64.wrap (0 - (n.val : Int)))) &&& BitVec.ofInt IntKind.u64.bits 31).toNat : Int) = ((32 - n.val : Nat) : Int) := by decide +kernel
theorem yQ {n : Int} (h0 : 0 ≤ n) (h1 : n < 18446744073709551616) : IntKind.u64.wrap n = n := by
  simp only [IntKind.wrap, IntKind.bits, IntKind.signed, Bool.false_and, Bool.false_eq_true, if_false]; omega
theorem zgK {n : Int} (h0 : 0 ≤ n) (h1 : n < 4294967296) : IntKind.u32.wrap n = n := by
  simp only [IntKind.wrap, IntKind.bits, IntKind.signed, Bool.false_and, Bool.false_eq_true, if_false]; omega
theorem zdU (s : ByteArray) (i : Int) : IntKind.u32.wrap (bAt s i) = bAt s i := by
  have := zbB s i
  exact zgK (by omega) (by omega)
theorem kK {n : Nat} (h : n ≤ 32) : min ((n : Nat) : Int).toNat IntKind.u32.bits = n := by
  have : IntKind.u32.bits = 32 := rfl
  omega
theorem ziV (a b : Int) : wo a b = wo b a := by unfold wo; rw [BitVec.or_comm]
set_option maxHeartbeats 2000000 in
theorem zfS (x : Int) (n : Nat) (h1 : 1 ≤ n) (h2 : n ≤ 31) : Spec Try.prog 80 [.t (.int .u32 x), .t (.int .i64 (IntKind.i64.wrap (0 - (n : Int))))] [] (.t (.int .u32 (rr x n))) [] := by
  have ha := zd3 ⟨n, by omega⟩ h1
  simp only at ha
  refine wI Try.func80 ?_
  repeat' (first | refine wC ?_ | refine wK ?_ | ((with_reducible refine zW ?_); first | refine zfm rfl rfl rfl rfl rfl rfl ?_ ?_ | refine q7 rfl rfl rfl rfl rfl rfl ?_ ?_) | fail)
  all_goals rw [ha]
  · omega
  · rw [yQ (by omega) (by omega)]; omega
  · refine zH (zj rfl rfl (congrArg (T.int .u32) ?_)) (by simp)
    rw [yQ (by omega) (by omega), show (32 : Int) - ((32 - n : Nat) : Int) = (n : Int) by omega, kK (by omega), kK (by omega)]
    exact ziV _ _
theorem yn (x : Int) (n : Nat) (h1 : 1 ≤ n) (h2 : n ≤ 31) : Spec Try.prog 62 [.t (.int .u32 x), .t (.int .i64 (n : Int))] [] (.t (.int .u32 (rr x n))) [] := by
  have hR := zfS x n h1 h2
  refine wI Try.func62 ?_
  repeat' (first | refine wC ?_ | refine wK ?_ | ((with_reducible refine zp ?_); refine wL hR ?_) | fail)
  all_goals exact zH (zj rfl rfl rfl) (by simp)
set_option maxHeartbeats 2000000 in
theorem yo (x : Int) (n : Nat) (h1 : 1 ≤ n) (h2 : n ≤ 31) : Spec Try.prog 71 [.t (.int .u32 x), .t (.int .i64 (n : Int))] [] (.t (.int .u32 (rr x n))) [] := by
  refine wI Try.func71 ?_
  repeat' (first | refine wC ?_ | refine wK ?_ | ((with_reducible refine zW ?_); first | refine zfm rfl rfl rfl rfl rfl rfl ?_ ?_ | refine q7 rfl rfl rfl rfl rfl rfl ?_ ?_) | fail)
  · rw [yQ (by omega) (by omega)]; omega
  · rw [zl (n := (32 : Int) - n) (by omega) (by omega), yQ (by omega) (by omega)]; omega
  · refine zH (zj rfl rfl (congrArg (T.int .u32) ?_)) (by simp)
    rw [zl (n := (32 : Int) - n) (by omega) (by omega), yQ (n := (n : Int)) (by omega) (by omega), yQ (n := (32 : Int) - n) (by omega) (by omega), show (32 : Int) - (n : Int) = ((32 - n : Nat) : Int) by omega, kK (by omega), kK (by omega)]
    rfl
set_option maxHeartbeats 2000000 in
theorem zeb (s : ByteArray) (hs : 4 ≤ s.size) : Spec Try.prog 70 [.t (.str s)] [] (.t (.int .u32 (x9 s.data.toList 0))) [] := by
  refine wI Try.func70 ?_
  repeat' (first | refine wC ?_ | refine wK ?_ | ((with_reducible refine yB ?_); refine zM rfl rfl rfl rfl rfl rfl ?_ ?_ ?_) | fail)
  all_goals try omega
  refine zH (zj rfl rfl (congrArg (T.int .u32) ?_)) (by simp)
  simp only [zdU]
  rfl
abbrev wM : Int → T := T.int .u32
theorem xj (l : List Int) : ∀ x ∈ l.map wM, x.isAgg = false := fun x hx => by
  obtain ⟨n, _, rfl⟩ := List.mem_map.1 hx; rfl
theorem zdK {f : Nat → List Int → List Int} (hf : ∀ i l, (f i l).length = l.length) (c t : Nat) (a : List Int) : (y9 f c t a).length = a.length :=
  zdC (Q := fun l => l.length = a.length) (fun i x h => (hf i x).trans h) c t a rfl
theorem zb5 (p : List UInt8) : (vk p).length = 64 := (zdK (fun i l => by simp) _ _ _).trans rfl
theorem zcc (w : List Int) : (je w).length = w.length := zdK (fun i l => by simp [yO]) _ _ _
def vP (v : List Int) (i : Nat) (l : List Int) : List Int := l.set i (wp (l.getD i 0) (v.getD i 0))
theorem jF (u v : H8) : y9 (vP v.l) 8 0 u.l = (ki u v).l := rfl
theorem zk3 (v : H8) : v.t.map AV.t = (v.l.map wM).map AV.t := rfl
set_option maxHeartbeats 8000000 in
theorem zgw (v : H8) (b : ByteArray) (hb : 64 ≤ b.size) (hb2 : b.size ≤ 1000000000) : Spec Try.prog 42 [.ref (.par 0) 0 0 0, .t (.str b), .ref (.par 1) 0 0 0] [(.par 0, .var 68 (v.t.map AV.t)), (.par 1, .arr 80 1 (zbn.map wM))] (.tup []) [(.par 0, .var 68 ((zdG v b.data.toList).t.map AV.t)), (.par 1, .arr 80 1 (zbn.map wM))] := by
  unfold zdG
  obtain ⟨V, hV⟩ : ∃ V, V = zas (je (vk b.data.toList)) v := ⟨_, rfl⟩
  obtain ⟨S, hS⟩ : ∃ S, S = je (vk b.data.toList) := ⟨_, rfl⟩
  obtain ⟨W, hW⟩ : ∃ W, W = vk b.data.toList := ⟨_, rfl⟩
  have hWl : W.length = 64 := by rw [hW]; exact zb5 _
  have hSl : S.length = 64 := by rw [hS, ← hW, zcc]; exact hWl
  rw [← hW] at hS hV
  rw [← hW]
  rw [← hS] at hV ⊢
  rw [← hV]
  unfold zas at hV
  unfold je at hS
  unfold vk at hW
  obtain ⟨K, hK⟩ : ∃ K, K = zbn := ⟨_, rfl⟩
  have hKl : K.length = 64 := by rw [hK]; rfl
  rw [← hK] at hV ⊢
  refine wIG Try.func42 ?_
  repeat' (first | refine wC ?_ | refine wK ?_ | fail)
  refine zc (yg (id := .loc 6) rfl (RowLE.arr (es := w0L.map wM) rfl (xj _)) rfl) ?_
  refine zc (za [0, 1, 2, 6, 21] [.par 0, .par 1, .loc 6] rfl rfl) ?_
  refine zh (fun p env st => ∃ (t : Nat) (w : List Int), t ≤ 16 ∧ p = 16 - t ∧ w.length = 64 ∧ W = y9 (fun t w => w.set t (x9 b.data.toList t)) (16 - t) t w ∧
      env = EnvL.get [(0, .ref (.par 0) 0 0 0), (1, .t (.str b)), (2, .ref (.par 1) 0 0 0), (6, .ref (.loc 6) 0 0 0), (21, .t (.int .i64 (t : Int)))] ∧
      st = StO.get [(.par 0, some (.var 68 (v.t.map AV.t))), (.par 1, some (.arr 80 1 (K.map wM))), (.loc 6, some (.arr 80 1 (w.map wM)))])
    ?_ (n := 16) ⟨0, w0L, by omega, rfl, rfl, hW, rfl, rfl⟩
  rintro p env st ⟨t, w, ht, rfl, hw, hi, rfl, rfl⟩
  clear hW
  by_cases hlt : t < 16
  · obtain ⟨c, hc⟩ : ∃ c, 16 - t = c + 1 := ⟨16 - t - 1, by omega⟩
    rw [hc] at hi
    simp only [y9] at hi
    have w0 : IntKind.i64.wrap (4 * (t : Int)) = ((4 * t : Nat) : Int) := by rw [zl (by omega) (by omega)]; omega
    have w1 : IntKind.i64.wrap (((4 * t : Nat) : Int) + 1) = ((4 * t + 1 : Nat) : Int) := by rw [zl (by omega) (by omega)]; omega
    have w2 : IntKind.i64.wrap (((4 * t : Nat) : Int) + 2) = ((4 * t + 2 : Nat) : Int) := by rw [zl (by omega) (by omega)]; omega
    have w3 : IntKind.i64.wrap (((4 * t : Nat) : Int) + 3) = ((4 * t + 3 : Nat) : Int) := by rw [zl (by omega) (by omega)]; omega
    repeat' (first | refine wC ?_ | refine wK ?_ | ((with_reducible refine zi ?_); refine zr rfl rfl rfl rfl rfl rfl ?_ ?_ ?_) | ((with_reducible refine yB ?_); refine zM rfl rfl rfl rfl rfl rfl ?_ ?_ ?_) | ((with_reducible refine xa ?_); refine yz rfl rfl rfl rfl rfl rfl rfl ?_ ?_) | refine zq rfl ?_ ?_ <;> intro hc | fail)
    all_goals try simp only [w0, w1, w2, w3, zdU]
    all_goals try omega
    exact zC (n' := 16 - (t + 1)) (by omega) (za [0, 1, 2, 6, 21] [.par 0, .par 1, .loc 6] rfl rfl) ⟨t + 1, w.set t (x9 b.data.toList t), by omega, rfl, by simpa using hw, by rw [hi, show 16 - (t + 1) = c by omega], by rw [zl (by omega) (by omega)]; rfl, rfl⟩
  · obtain rfl : t = 16 := by omega
    simp only [Nat.sub_self, y9] at hi
    subst hi
    repeat' (first | refine wC ?_ | refine wK ?_ | fail)
    all_goals try (exfalso; omega)
    refine zc (za [0, 1, 2, 6, 8] [.par 0, .par 1, .loc 6] rfl rfl) ?_
    refine zh (fun p env st => ∃ (t : Nat) (w : List Int), 16 ≤ t ∧ t ≤ 64 ∧ p = 64 - t ∧ w.length = 64 ∧ S = y9 yO (64 - t) t w ∧
        env = EnvL.get [(0, .ref (.par 0) 0 0 0), (1, .t (.str b)), (2, .ref (.par 1) 0 0 0), (6, .ref (.loc 6) 0 0 0), (8, .t (.int .i64 (t : Int)))] ∧
        st = StO.get [(.par 0, some (.var 68 (v.t.map AV.t))), (.par 1, some (.arr 80 1 (K.map wM))), (.loc 6, some (.arr 80 1 (w.map wM)))])
      ?_ (n := 48) ⟨16, W, by omega, by omega, rfl, hw, hS, rfl, rfl⟩
    rintro p env st ⟨t, w, ht0, ht, rfl, hwl, hi, rfl, rfl⟩
    clear hS
    by_cases hlt : t < 64
    · obtain ⟨c, hc⟩ : ∃ c, 64 - t = c + 1 := ⟨64 - t - 1, by omega⟩
      rw [hc] at hi
      simp only [y9, yO] at hi
      have w0 : IntKind.i64.wrap ((t : Int) - 15) = ((t - 15 : Nat) : Int) := by rw [zl (by omega) (by omega)]; omega
      have w1 : IntKind.i64.wrap ((t : Int) - 2) = ((t - 2 : Nat) : Int) := by rw [zl (by omega) (by omega)]; omega
      have w2 : IntKind.i64.wrap ((t : Int) - 7) = ((t - 7 : Nat) : Int) := by rw [zl (by omega) (by omega)]; omega
      have w3 : IntKind.i64.wrap ((t : Int) - 16) = ((t - 16 : Nat) : Int) := by rw [zl (by omega) (by omega)]; omega
      have r7 := fun x => yn x 7 (by omega) (by omega)
      have r18 := fun x => yn x 18 (by omega) (by omega)
      have r17 := fun x => yn x 17 (by omega) (by omega)
      have r19 := fun x => yn x 19 (by omega) (by omega)
      repeat' (first | refine wC ?_ | refine wK ?_ | ((with_reducible refine zi ?_); refine zr rfl rfl rfl rfl rfl rfl ?_ ?_ ?_) | ((with_reducible refine zp ?_); first | refine wL (r7 _) ?_ | refine wL (r18 _) ?_ | refine wL (r17 _) ?_ | refine wL (r19 _) ?_) | ((with_reducible refine wy ?_); refine yZ rfl rfl rfl rfl rfl rfl rfl rfl ?_ ?_) | ((with_reducible refine xa ?_); refine yz rfl rfl rfl rfl rfl rfl rfl ?_ ?_) | refine zq rfl ?_ ?_ <;> intro hc | fail)
      all_goals try simp only [w0, w1, w2, w3]
      all_goals try omega
      all_goals try (rw [Int.toNat_natCast]; omega)
      exact zC (n' := 64 - (t + 1)) (by omega) (za [0, 1, 2, 6, 8] [.par 0, .par 1, .loc 6] rfl rfl) ⟨t + 1, _, by omega, by omega, rfl, by rw [List.length_set]; exact hwl, by rw [hi, show 64 - (t + 1) = c by omega]; rfl, by rw [zl (by omega) (by omega)]; rfl, rfl⟩
    · obtain rfl : t = 64 := by omega
      simp only [Nat.sub_self, y9] at hi
      subst hi
      repeat' (first | refine wC ?_ | refine wK ?_ | fail)
      all_goals try (exfalso; omega)
      refine zc (za [0, 2, 6, 13, 102] [.par 0, .par 1, .loc 6, .loc 13] rfl rfl) ?_
      refine zh (fun p env st => ∃ (t : Nat) (r : H8), t ≤ 64 ∧ p = 64 - t ∧ V = y9 (fun t v => rnd (K.getD t 0) (S.getD t 0) v) (64 - t) t r ∧
          env = EnvL.get [(0, .ref (.par 0) 0 0 0), (2, .ref (.par 1) 0 0 0), (6, .ref (.loc 6) 0 0 0), (13, .ref (.loc 13) 0 0 0), (102, .t (.int .i64 (t : Int)))] ∧
          st = StO.get [(.par 0, some (.var 68 (v.t.map AV.t))), (.par 1, some (.arr 80 1 (K.map wM))), (.loc 6, some (.arr 80 1 (S.map wM))), (.loc 13, some (.var 68 (r.t.map AV.t)))])
        ?_ (n := 64) ⟨0, v, by omega, rfl, hV, rfl, rfl⟩
      rintro p env st ⟨t, r, ht, rfl, hi, rfl, rfl⟩
      clear hV
      by_cases hlt : t < 64
      · obtain ⟨c, hc⟩ : ∃ c, 64 - t = c + 1 := ⟨64 - t - 1, by omega⟩
        rw [hc] at hi
        simp only [y9] at hi
        obtain ⟨a1, a2, a3, a4, a5, a6, a7, a8⟩ := r
        have r6 := fun x => yn x 6 (by omega) (by omega)
        have r11 := fun x => yn x 11 (by omega) (by omega)
        have r25 := fun x => yn x 25 (by omega) (by omega)
        have r2 := fun x => yn x 2 (by omega) (by omega)
        have r13 := fun x => yn x 13 (by omega) (by omega)
        have r22 := fun x => yn x 22 (by omega) (by omega)
        simp only [H8.t, List.map_cons, List.map_nil]
        repeat' (first | refine wC ?_ | refine wK ?_ | ((with_reducible refine zi ?_); refine zr rfl rfl rfl rfl rfl rfl ?_ ?_ ?_) | ((with_reducible refine zp ?_); first | refine wL (r6 _) ?_ | refine wL (r11 _) ?_ | refine wL (r25 _) ?_ | refine wL (r2 _) ?_ | refine wL (r13 _) ?_ | refine wL (r22 _) ?_) | ((with_reducible refine wy ?_); refine yZ rfl rfl rfl rfl rfl rfl rfl rfl ?_ ?_) | ((with_reducible refine vJ ?_); refine xe (r := (.t (.agg _))) rfl rfl rfl rfl rfl rfl rfl ?_) | refine zq rfl ?_ ?_ <;> intro hc | fail)
        all_goals try omega
        all_goals try (rw [Int.toNat_natCast]; omega)
        exact zC (n' := 64 - (t + 1)) (by omega) (za [0, 2, 6, 13, 102] [.par 0, .par 1, .loc 6, .loc 13] rfl rfl) ⟨t + 1, rnd (K.getD t 0) (S.getD t 0) ⟨a1, a2, a3, a4, a5, a6, a7, a8⟩, by omega, rfl, by rw [hi, show 64 - (t + 1) = c by omega], by rw [zl (by omega) (by omega)]; rfl, rfl⟩
      · obtain rfl : t = 64 := by omega
        simp only [Nat.sub_self, y9] at hi
        subst hi
        obtain ⟨R, hR⟩ : ∃ R, R = (ki v V).l := ⟨_, rfl⟩
        have hR2 : R = y9 (vP V.l) 8 0 v.l := by rw [hR, jF]
        have hrt : (V.l.map wM) = V.t := rfl
        have hvl : v.l.length = 8 := rfl
        have hrl : V.l.length = 8 := rfl
        rw [zk3 (ki v V), ← hR]
        repeat' (first | refine wC ?_ | refine wK ?_ | fail)
        all_goals try (exfalso; omega)
        refine zc (yg (id := .par 0) rfl (RowLE.arr (es := v.l.map wM) rfl (xj _)) rfl) ?_
        refine zc (za [0, 186, 187] [.par 0, .par 1] rfl rfl) ?_
        obtain ⟨vl, hvl'⟩ : ∃ l, l = v.l := ⟨_, rfl⟩
        obtain ⟨rl, hrl'⟩ : ∃ l, l = V.l := ⟨_, rfl⟩
        rw [← hvl'] at hR2 hvl
        rw [← hrl'] at hR2 hrl
        clear hR
        refine zh (fun p env st => ∃ (t : Nat) (l : List Int), t ≤ 8 ∧ p = 8 - t ∧ l.length = 8 ∧ R = y9 (vP rl) (8 - t) t l ∧
            env = EnvL.get [(0, .ref (.par 0) 0 0 0), (186, .t (.agg (rl.map wM))), (187, .t (.int .i64 (t : Int)))] ∧
            st = StO.get [(.par 0, some (.arr 68 1 (l.map wM))), (.par 1, some (.arr 80 1 (K.map wM)))])
          ?_ (n := 8) ⟨0, vl, by omega, rfl, hvl, hR2, by rw [hrl']; rfl, by rw [hvl']; rfl⟩
        clear hR2
        rintro p env st ⟨t, l, ht, rfl, hl, hi, rfl, rfl⟩
        by_cases hlt : t < 8
        · obtain ⟨c, hc⟩ : ∃ c, 8 - t = c + 1 := ⟨8 - t - 1, by omega⟩
          rw [hc] at hi
          simp only [y9, vP] at hi
          repeat' (first | refine wC ?_ | refine wK ?_ | ((with_reducible refine zi ?_); refine zr rfl rfl rfl rfl rfl rfl ?_ ?_ ?_) | ((with_reducible refine wy ?_); refine yZ rfl rfl rfl rfl rfl rfl rfl rfl ?_ ?_) | ((with_reducible refine xa ?_); refine yz rfl rfl rfl rfl rfl rfl rfl ?_ ?_) | ((with_reducible refine yB ?_); refine wU rfl rfl rfl rfl rfl rfl rfl ?_ ?_ ?_ ?_) | refine zq rfl ?_ ?_ <;> intro hc | fail)
          all_goals try omega
          all_goals try (rw [Int.toNat_natCast]; omega)
          exact zC (n' := 8 - (t + 1)) (by omega) (za [0, 186, 187] [.par 0, .par 1] rfl rfl) ⟨t + 1, _, by omega, rfl, by rw [List.length_set]; exact hl, by rw [hi, show 8 - (t + 1) = c by omega]; rfl, by rw [zl (by omega) (by omega)]; rfl, rfl⟩
        · obtain rfl : t = 8 := by omega
          simp only [Nat.sub_self, y9] at hi
          subst hi
          repeat' (first | refine wC ?_ | refine wK ?_ | fail)
          all_goals try (exfalso; omega)
          refine yc (yg (id := .par 0) rfl (RowLE.unarr (cs := (R.map wM).map AV.t) rfl (xj _)) rfl) ?_
          exact y5 (zi9 (kY rfl) (zN ⟨rfl, rfl, trivial⟩))
theorem ziW (l : List UInt8) (n i : Nat) : bL (l.drop n) i = bL l (n + i) := by
  unfold bL
  rw [List.getD_eq_getElem?_getD, List.getD_eq_getElem?_getD, List.getElem?_drop]
theorem jO (b : ByteArray) (i j : Nat) : (b.extract i j).data.toList = (b.data.toList.drop i).take (j - i) := by
  simp [ByteArray.data_extract]
theorem zeU (b : ByteArray) (t : Nat) (hb : 64 ≤ b.size) : x9 (b.extract ((4 * t : Nat) : Int).toNat (b.size : Int).toNat).data.toList 0 = x9 b.data.toList t := by
  rw [jO, List.take_of_length_le (by rw [List.length_drop]; have := zZ b; omega)]
  unfold x9
  simp only [ziW, Int.toNat_natCast, Nat.mul_zero, Nat.add_zero, Nat.zero_add]
set_option maxHeartbeats 8000000 in
theorem zeS (v : H8) (b : ByteArray) (hb : 64 ≤ b.size) (hb2 : b.size ≤ 1000000000) : Spec Try.prog 51 [.t (.agg v.t), .t (.agg (zbn.map wM)), .t (.str b)] [] (.t (.agg (zdG v b.data.toList).t)) [] := by
  unfold zdG
  obtain ⟨V, hV⟩ : ∃ V, V = zas (je (vk b.data.toList)) v := ⟨_, rfl⟩
  obtain ⟨S, hS⟩ : ∃ S, S = je (vk b.data.toList) := ⟨_, rfl⟩
  obtain ⟨W, hW⟩ : ∃ W, W = vk b.data.toList := ⟨_, rfl⟩
  have hWl : W.length = 64 := by rw [hW]; exact zb5 _
  have hSl : S.length = 64 := by rw [hS, ← hW, zcc]; exact hWl
  rw [← hW] at hS hV
  rw [← hW]
  rw [← hS] at hV ⊢
  rw [← hV]
  unfold zas at hV
  unfold je at hS
  unfold vk at hW
  refine wIG Try.func51 ?_
  repeat' (first | refine wC ?_ | refine wK ?_ | fail)
  refine zc (yg (id := .loc 7) rfl (RowLE.arr (es := w0L.map wM) rfl (xj _)) rfl) ?_
  refine zc (yg (id := .loc 4) rfl (RowLE.arr (es := zbn.map wM) rfl (xj _)) rfl) ?_
  obtain ⟨K, hK⟩ : ∃ K, K = zbn := ⟨_, rfl⟩
  have hKl : K.length = 64 := by rw [hK]; rfl
  rw [← hK] at hV ⊢
  refine zc (za [2, 3, 4, 6, 7, 21] [.loc 3, .loc 4, .loc 6, .loc 7] rfl rfl) ?_
  refine zh (fun p env st => ∃ (t : Nat) (w : List Int), t ≤ 16 ∧ p = 16 - t ∧ w.length = 64 ∧ W = y9 (fun t w => w.set t (x9 b.data.toList t)) (16 - t) t w ∧
      env = EnvL.get [(2, .t (.str b)), (3, .ref (.loc 3) 0 0 0), (4, .ref (.loc 4) 0 0 0), (6, .ref (.loc 6) 0 0 0), (7, .ref (.loc 7) 0 0 0), (21, .t (.int .i64 (t : Int)))] ∧
      st = StO.get [(.loc 3, some (.var 67 (v.t.map AV.t))), (.loc 4, some (.arr 80 1 (K.map wM))), (.loc 6, some (.var 67 [.t (.int .u32 0), .t (.int .u32 0), .t (.int .u32 0), .t (.int .u32 0), .t (.int .u32 0), .t (.int .u32 0), .t (.int .u32 0), .t (.int .u32 0)])), (.loc 7, some (.arr 80 1 (w.map wM)))])
    ?_ (n := 16) ⟨0, w0L, by omega, rfl, rfl, hW, rfl, rfl⟩
  rintro p env st ⟨t, w, ht, rfl, hw, hi, rfl, rfl⟩
  clear hW
  by_cases hlt : t < 16
  · obtain ⟨c, hc⟩ : ∃ c, 16 - t = c + 1 := ⟨16 - t - 1, by omega⟩
    rw [hc] at hi
    simp only [y9] at hi
    have w0 : IntKind.i64.wrap (4 * (t : Int)) = ((4 * t : Nat) : Int) := by rw [zl (by omega) (by omega)]; omega
    have hW : Spec Try.prog 70 [.t (.str (b.extract (IntKind.i64.wrap (4 * (t : Int))).toNat (b.size : Int).toNat))] [] (.t (.int .u32 (x9 b.data.toList t))) [] := by
      rw [w0, ← zeU b t hb]
      exact zeb _ (by rw [ByteArray.size_extract]; omega)
    repeat' (first | refine wC ?_ | refine wK ?_ | ((with_reducible refine zi ?_); refine zr rfl rfl rfl rfl rfl rfl ?_ ?_ ?_) | ((with_reducible refine yK ?_); refine zy rfl rfl ⟨_, rfl⟩ rfl rfl rfl rfl ?_ ?_ ?_ ?_) | ((with_reducible refine zp ?_); refine wL hW ?_) | ((with_reducible refine xa ?_); refine yz rfl rfl rfl rfl rfl rfl rfl ?_ ?_) | refine zq rfl ?_ ?_ <;> intro hc | fail)
    all_goals try simp only [w0]
    all_goals try omega
    exact zC (n' := 16 - (t + 1)) (by omega) (za [2, 3, 4, 6, 7, 21] [.loc 3, .loc 4, .loc 6, .loc 7] rfl rfl) ⟨t + 1, w.set t (x9 b.data.toList t), by omega, rfl, by simpa using hw, by rw [hi, show 16 - (t + 1) = c by omega], by rw [zl (by omega) (by omega)]; rfl, rfl⟩
  · obtain rfl : t = 16 := by omega
    simp only [Nat.sub_self, y9] at hi
    subst hi
    repeat' (first | refine wC ?_ | refine wK ?_ | fail)
    all_goals try (exfalso; omega)
    refine zc (za [2, 3, 4, 6, 7, 9] [.loc 3, .loc 4, .loc 6, .loc 7] rfl rfl) ?_
    refine zh (fun p env st => ∃ (t : Nat) (w : List Int), 16 ≤ t ∧ t ≤ 64 ∧ p = 64 - t ∧ w.length = 64 ∧ S = y9 yO (64 - t) t w ∧
        env = EnvL.get [(2, .t (.str b)), (3, .ref (.loc 3) 0 0 0), (4, .ref (.loc 4) 0 0 0), (6, .ref (.loc 6) 0 0 0), (7, .ref (.loc 7) 0 0 0), (9, .t (.int .i64 (t : Int)))] ∧
        st = StO.get [(.loc 3, some (.var 67 (v.t.map AV.t))), (.loc 4, some (.arr 80 1 (K.map wM))), (.loc 6, some (.var 67 [.t (.int .u32 0), .t (.int .u32 0), .t (.int .u32 0), .t (.int .u32 0), .t (.int .u32 0), .t (.int .u32 0), .t (.int .u32 0), .t (.int .u32 0)])), (.loc 7, some (.arr 80 1 (w.map wM)))])
      ?_ (n := 48) ⟨16, W, by omega, by omega, rfl, hw, hS, rfl, rfl⟩
    rintro p env st ⟨t, w, ht0, ht, rfl, hwl, hi, rfl, rfl⟩
    clear hS
    by_cases hlt : t < 64
    · obtain ⟨c, hc⟩ : ∃ c, 64 - t = c + 1 := ⟨64 - t - 1, by omega⟩
      rw [hc] at hi
      simp only [y9, yO] at hi
      have w0 : IntKind.i64.wrap ((t : Int) - 15) = ((t - 15 : Nat) : Int) := by rw [zl (by omega) (by omega)]; omega
      have w1 : IntKind.i64.wrap ((t : Int) - 2) = ((t - 2 : Nat) : Int) := by rw [zl (by omega) (by omega)]; omega
      have w2 : IntKind.i64.wrap ((t : Int) - 7) = ((t - 7 : Nat) : Int) := by rw [zl (by omega) (by omega)]; omega
      have w3 : IntKind.i64.wrap ((t : Int) - 16) = ((t - 16 : Nat) : Int) := by rw [zl (by omega) (by omega)]; omega
      have r7 := fun x => yo x 7 (by omega) (by omega)
      have r18 := fun x => yo x 18 (by omega) (by omega)
      have r17 := fun x => yo x 17 (by omega) (by omega)
      have r19 := fun x => yo x 19 (by omega) (by omega)
      repeat' (first | refine wC ?_ | refine wK ?_ | ((with_reducible refine zi ?_); refine zr rfl rfl rfl rfl rfl rfl ?_ ?_ ?_) | ((with_reducible refine zp ?_); first | refine wL (r7 _) ?_ | refine wL (r18 _) ?_ | refine wL (r17 _) ?_ | refine wL (r19 _) ?_) | ((with_reducible refine wy ?_); refine yZ rfl rfl rfl rfl rfl rfl rfl rfl ?_ ?_) | ((with_reducible refine xa ?_); refine yz rfl rfl rfl rfl rfl rfl rfl ?_ ?_) | refine zq rfl ?_ ?_ <;> intro hc | fail)
      all_goals try simp only [w0, w1, w2, w3]
      all_goals try omega
      all_goals try (rw [Int.toNat_natCast]; omega)
      exact zC (n' := 64 - (t + 1)) (by omega) (za [2, 3, 4, 6, 7, 9] [.loc 3, .loc 4, .loc 6, .loc 7] rfl rfl) ⟨t + 1, _, by omega, by omega, rfl, by rw [List.length_set]; exact hwl, by rw [hi, show 64 - (t + 1) = c by omega]; rfl, by rw [zl (by omega) (by omega)]; rfl, rfl⟩
    · obtain rfl : t = 64 := by omega
      simp only [Nat.sub_self, y9] at hi
      subst hi
      repeat' (first | refine wC ?_ | refine wK ?_ | fail)
      all_goals try (exfalso; omega)
      refine zc (za [3, 4, 6, 7, 14, 76] [.loc 3, .loc 4, .loc 6, .loc 7, .loc 14] rfl rfl) ?_
      refine zh (fun p env st => ∃ (t : Nat) (r : H8), t ≤ 64 ∧ p = 64 - t ∧ V = y9 (fun t v => rnd (K.getD t 0) (S.getD t 0) v) (64 - t) t r ∧
          env = EnvL.get [(3, .ref (.loc 3) 0 0 0), (4, .ref (.loc 4) 0 0 0), (6, .ref (.loc 6) 0 0 0), (7, .ref (.loc 7) 0 0 0), (14, .ref (.loc 14) 0 0 0), (76, .t (.int .i64 (t : Int)))] ∧
          st = StO.get [(.loc 3, some (.var 67 (v.t.map AV.t))), (.loc 4, some (.arr 80 1 (K.map wM))), (.loc 6, some (.var 67 [.t (.int .u32 0), .t (.int .u32 0), .t (.int .u32 0), .t (.int .u32 0), .t (.int .u32 0), .t (.int .u32 0), .t (.int .u32 0), .t (.int .u32 0)])), (.loc 7, some (.arr 80 1 (S.map wM))), (.loc 14, some (.var 67 (r.t.map AV.t)))])
        ?_ (n := 64) ⟨0, v, by omega, rfl, hV, rfl, rfl⟩
      rintro p env st ⟨t, r, ht, rfl, hi, rfl, rfl⟩
      clear hV
      by_cases hlt : t < 64
      · obtain ⟨c, hc⟩ : ∃ c, 64 - t = c + 1 := ⟨64 - t - 1, by omega⟩
        rw [hc] at hi
        simp only [y9] at hi
        obtain ⟨a1, a2, a3, a4, a5, a6, a7, a8⟩ := r
        have r6 := fun x => yo x 6 (by omega) (by omega)
        have r11 := fun x => yo x 11 (by omega) (by omega)
        have r25 := fun x => yo x 25 (by omega) (by omega)
        have r2 := fun x => yo x 2 (by omega) (by omega)
        have r13 := fun x => yo x 13 (by omega) (by omega)
        have r22 := fun x => yo x 22 (by omega) (by omega)
        simp only [H8.t, List.map_cons, List.map_nil]
        repeat' (first | refine wC ?_ | refine wK ?_ | ((with_reducible refine zi ?_); refine zr rfl rfl rfl rfl rfl rfl ?_ ?_ ?_) | ((with_reducible refine zp ?_); first | refine wL (r6 _) ?_ | refine wL (r11 _) ?_ | refine wL (r25 _) ?_ | refine wL (r2 _) ?_ | refine wL (r13 _) ?_ | refine wL (r22 _) ?_) | ((with_reducible refine wy ?_); refine yZ rfl rfl rfl rfl rfl rfl rfl rfl ?_ ?_) | ((with_reducible refine vJ ?_); refine xe (r := (.t (.agg _))) rfl rfl rfl rfl rfl rfl rfl ?_) | refine zq rfl ?_ ?_ <;> intro hc | fail)
        all_goals try omega
        all_goals try (rw [Int.toNat_natCast]; omega)
        exact zC (n' := 64 - (t + 1)) (by omega) (za [3, 4, 6, 7, 14, 76] [.loc 3, .loc 4, .loc 6, .loc 7, .loc 14] rfl rfl) ⟨t + 1, rnd (K.getD t 0) (S.getD t 0) ⟨a1, a2, a3, a4, a5, a6, a7, a8⟩, by omega, rfl, by rw [hi, show 64 - (t + 1) = c by omega], by rw [zl (by omega) (by omega)]; rfl, rfl⟩
      · obtain rfl : t = 64 := by omega
        simp only [Nat.sub_self, y9] at hi
        subst hi
        obtain ⟨R, hR⟩ : ∃ R, R = (ki v V).l := ⟨_, rfl⟩
        have hR2 : R = y9 (vP v.l) 8 0 V.l := by rw [hR, jF, zeJ]
        have hvl : v.l.length = 8 := rfl
        have hrl : V.l.length = 8 := rfl
        repeat' (first | refine wC ?_ | refine wK ?_ | fail)
        all_goals try (exfalso; omega)
        refine zc (yg (id := .loc 3) rfl (RowLE.arr (es := v.l.map wM) rfl (xj _)) rfl) ?_
        refine zc (yg (id := .loc 14) rfl (RowLE.arr (es := V.l.map wM) rfl (xj _)) rfl) ?_
        refine zc (za [3, 6, 14, 156] [.loc 3, .loc 6, .loc 14] rfl rfl) ?_
        obtain ⟨vl, hvl'⟩ : ∃ l, l = v.l := ⟨_, rfl⟩
        obtain ⟨rl, hrl'⟩ : ∃ l, l = V.l := ⟨_, rfl⟩
        rw [← hvl', ← hrl'] at hR2
        rw [← hvl'] at hvl
        rw [← hrl'] at hrl
        refine zh (fun p env st => ∃ (t : Nat) (l : List Int), t ≤ 8 ∧ p = 8 - t ∧ l.length = 8 ∧ R = y9 (vP vl) (8 - t) t l ∧
            env = EnvL.get [(3, .ref (.loc 3) 0 0 0), (6, .ref (.loc 6) 0 0 0), (14, .ref (.loc 14) 0 0 0), (156, .t (.int .i64 (t : Int)))] ∧
            st = StO.get [(.loc 3, some (.arr 67 1 (vl.map wM))), (.loc 6, some (.var 67 [.t (.int .u32 0), .t (.int .u32 0), .t (.int .u32 0), .t (.int .u32 0), .t (.int .u32 0), .t (.int .u32 0), .t (.int .u32 0), .t (.int .u32 0)])), (.loc 14, some (.arr 67 1 (l.map wM)))])
          ?_ (n := 8) ⟨0, rl, by omega, rfl, hrl, hR2, rfl, by rw [hvl', hrl']; rfl⟩
        clear hR2
        rintro p env st ⟨t, l, ht, rfl, hl, hi, rfl, rfl⟩
        by_cases hlt : t < 8
        · obtain ⟨c, hc⟩ : ∃ c, 8 - t = c + 1 := ⟨8 - t - 1, by omega⟩
          rw [hc] at hi
          simp only [y9, vP] at hi
          repeat' (first | refine wC ?_ | refine wK ?_ | ((with_reducible refine zi ?_); refine zr rfl rfl rfl rfl rfl rfl ?_ ?_ ?_) | ((with_reducible refine wy ?_); refine yZ rfl rfl rfl rfl rfl rfl rfl rfl ?_ ?_) | ((with_reducible refine xa ?_); refine yz rfl rfl rfl rfl rfl rfl rfl ?_ ?_) | refine zq rfl ?_ ?_ <;> intro hc | fail)
          all_goals try omega
          all_goals try (rw [Int.toNat_natCast]; omega)
          exact zC (n' := 8 - (t + 1)) (by omega) (za [3, 6, 14, 156] [.loc 3, .loc 6, .loc 14] rfl rfl) ⟨t + 1, _, by omega, rfl, by rw [List.length_set]; exact hl, by rw [hi, show 8 - (t + 1) = c by omega]; rfl, by rw [zl (by omega) (by omega)]; rfl, rfl⟩
        · obtain rfl : t = 8 := by omega
          simp only [Nat.sub_self, y9] at hi
          rw [← hi, hR]
          refine zc (yg (id := .loc 14) rfl (RowLE.unarr (cs := (ki v V).t.map AV.t) rfl (xj _)) rfl) ?_
          generalize ki v V = X
          obtain ⟨a1, a2, a3, a4, a5, a6, a7, a8⟩ := X
          simp only [H8.t, H8.l, List.map_cons, List.map_nil]
          repeat' (first | refine wC ?_ | refine wK ?_ | fail)
          exact wB
instance : Lies Try.prog 85 2 85 := ⟨by kernel_rfl⟩
instance : CellsOf Try.prog 5 1 := ⟨by kernel_rfl⟩
instance : NoEsc Try.prog 86 := .of Try.func86 (by kernel_rfl) (by kernel_rfl) (by kernel_rfl) (by kernel_rfl)
theorem yf (s : ByteArray) : (zQ s).length = s.size := by simp [zQ]
def ziX : StL := [(.par 0, .var 85 [.t .nilp, .t .nilsl])]
def zds (es : List T) : StL := [(.par 0, .var 85 [.ref (.par 0) 0 0 0, .row (.par 1)]), (.par 1, .slt 5 1 es)]
def ze0 (es : List T) : StL := [(.par 0, .var 85 [.ref (.par 0) 0 0 0, .row (.res 0)]), (.res 0, .slt 5 1 es)]
set_option maxHeartbeats 1000000 in
theorem zgy : Spec Try.prog 72 [.ref (.par 0) 0 0 0] ziX (.tup []) [(.par 0, .var 85 [.ref (.par 0) 0 0 0, .t .nilsl])] := by
  unfold ziX
  refine wI Try.func72 ?_
  repeat' (first | refine wC ?_ | refine wK ?_ | ((with_reducible refine zW ?_); refine kb rfl rfl rfl rfl rfl rfl rfl ?_) | ((with_reducible refine z7 ?_); first | refine zc7 rfl rfl rfl rfl rfl rfl rfl rfl ?_ | refine zax rfl rfl rfl rfl rfl rfl rfl ?_) | ((with_reducible refine zp ?_); refine zhk rfl rfl rfl rfl rfl rfl ?_) | fail)
  exact zi9 (kY rfl) (zN ⟨rfl, trivial⟩)
set_option maxHeartbeats 1000000 in
theorem zdP (l : List T) : Spec Try.prog 72 [.ref (.par 0) 0 0 0] (zds l) (.tup []) (zds l) := by
  unfold zds
  refine wI Try.func72 ?_
  repeat' (first | refine wC ?_ | refine wK ?_ | ((with_reducible refine zW ?_); first | refine kb rfl rfl rfl rfl rfl rfl rfl ?_ | refine zaI rfl rfl rfl rfl rfl rfl ?_) | fail)
  exact zi9 (kY rfl) (zN ⟨rfl, rfl, trivial⟩)
set_option maxHeartbeats 1000000 in
theorem zaK (s : ByteArray) (hs : s.size ≤ 100000000) : Spec Try.prog 52 [.ref (.par 0) 0 0 0, .t (.str s)] ziX (.tup [.t (.int .i64 s.size), .junk]) (ze0 (zQ s)) := by
  have hC := zgy
  unfold ziX at hC ⊢
  unfold ze0
  refine wIG Try.func52 ?_
  repeat' (first | refine wC ?_ | refine wK ?_ | ((with_reducible refine z6 ?_); refine qx rfl rfl rfl rfl rfl rfl rfl rfl ?_ ?_ ?_) | ((with_reducible refine zp ?_); refine wN (.tup []) [] hC ?_) | fail)
  · simp [yf]; omega
  · simp [yf]; omega
  · refine yc ((za [4, 5] [.par 0, .loc 14] rfl rfl).trans (zw (.loc 14) (.res 0) rfl rfl rfl rfl)) ?_
    exact y5 (zH (kD rfl (AVLE.refl _) (AVLE.junk _)) (zN ⟨rfl, rfl, trivial⟩))
set_option maxHeartbeats 1000000 in
theorem zbg (l : List T) (s : ByteArray) (hs : l.length + s.size ≤ 100000000) : Spec Try.prog 52 [.ref (.par 0) 0 0 0, .t (.str s)] (zds l) (.tup [.t (.int .i64 s.size), .junk]) (ze0 (l ++ zQ s)) := by
  have hC := zdP l
  unfold zds at hC ⊢
  unfold ze0
  refine wIG Try.func52 ?_
  repeat' (first | refine wC ?_ | refine wK ?_ | ((with_reducible refine z6 ?_); refine zaA rfl rfl rfl rfl rfl rfl rfl rfl rfl ?_ ?_ ?_) | ((with_reducible refine zp ?_); refine wN (.tup []) [] hC ?_) | fail)
  · simp [yf]; omega
  · simp [yf]; omega
  · refine yc ((za [4, 5] [.par 0, .loc 14] rfl rfl).trans (zw (.loc 14) (.res 0) rfl rfl rfl rfl)) ?_
    exact y5 (zH (kD rfl (AVLE.refl _) (AVLE.junk _)) (zN ⟨rfl, rfl, trivial⟩))
set_option maxHeartbeats 1000000 in
theorem zdI (l : List T) (c : Int) (hs : l.length ≤ 100000000) : Spec Try.prog 61 [.ref (.par 0) 0 0 0, .t (.int .u8 c)] (zds l) .junk (ze0 (l ++ [.int .u8 c])) := by
  have hC := zdP l
  unfold zds at hC ⊢
  unfold ze0
  refine wIG Try.func61 ?_
  repeat' (first | refine wC ?_ | refine wK ?_ | ((with_reducible refine z6 ?_); refine zx rfl rfl rfl rfl rfl rfl rfl rfl rfl rfl ?_ ?_ ?_) | ((with_reducible refine zp ?_); refine wN (.tup []) [] hC ?_) | fail)
  · simp; omega
  · simp; omega
  · refine yc ((za [4] [.par 0, .loc 14] rfl rfl).trans (zw (.loc 14) (.res 0) rfl rfl rfl rfl)) ?_
    exact y5 (zH (xB rfl (AVLE.junk _)) (zN ⟨rfl, rfl, trivial⟩))
set_option maxHeartbeats 1000000 in
theorem jD (l : List UInt8) (hs : l.length ≤ 100000000) (hne : l ≠ []) : Spec Try.prog 54 [.ref (.par 0) 0 0 0] (zds (l.map u8T)) (.t (.str (ofL l))) [] := by
  unfold zds
  refine wI Try.func54 ?_
  repeat' (first | refine wC ?_ | refine wK ?_ | ((with_reducible refine zcJ ?_); refine zbv rfl rfl rfl rfl rfl rfl ?_ ?_) | ((with_reducible refine jQ ?_); refine kX rfl rfl rfl rfl rfl rfl rfl rfl ?_ ?_ ?_ ?_) | fail)
  · simpa using hne
  · rfl
  · exact hne
  · omega
  · exact zH (zj rfl rfl rfl) (by simp)
end Go.AL
namespace Go.AL
open Go Go.Proofs Go.RowKit Go.Shelf
theorem j6 {P : Program} (t : TypeId) {d : TypeDesc} [tu : TyU P t d] (w : World) : (isAgg t).run P w = .ok (yD d) w := qk tu
theorem jV {P : Program} (t : TypeId) {s b : Nat} {z : Value} [ti : TyI P t s b z] (w : World) : (Go.sizeOf t).run P w = .ok s w := yv ti
theorem zag {P : Program} (t : TypeId) {s b : Nat} {z : Value} [ti : TyI P t s b z] (w : World) : (zeroValue t).run P w = .ok z w := yh ti
def zhP : Ren := ⟨fun | 99 => 74 | 105 => 57 | 165 => 75 | 166 => 52 | 169 => 54 | 170 => 76 | 206 => 89 | 212 => 73 | 240 => 72 | 241 => 90 | 263 => 87 | 264 => 88 | 276 => 86 | 277 => 92 | x => x, fun | 0 => 0 | 3 => 3 | 4 => 4 | 5 => 5 | 9 => 9 | 20 => 20 | 37 => 35 | 46 => 56 | 51 => 66 | 53 => 99 | 70 => 83 | 72 => 85 | 75 => 87 | 76 => 88 | 80 => 90 | 109 => 108 | 127 => 107 | 146 => 117 | 148 => 119 | 164 => 115 | x => x, fun x => x⟩
set_option maxRecDepth 100000 in
theorem zi6 : Lays.n105 Try.prog zhP where
  mixed := by kernel_rfl
  f99 := by kernel_rfl
  f105 := by kernel_rfl
  f165 := by kernel_rfl
  f166 := by kernel_rfl
  f169 := by kernel_rfl
  f170 := by kernel_rfl
  f206 := by kernel_rfl
  f212 := by kernel_rfl
  f240 := by kernel_rfl
  f241 := by kernel_rfl
  f263 := by kernel_rfl
  f264 := by kernel_rfl
  f276 := by kernel_rfl
  f277 := by kernel_rfl
  t0 := Try.underlying0
  a0 := fun w => j6 (P := Try.prog) (d := (TypeDesc.tuple #[])) 0 w
  z0 := fun w => jV 0 w
  v0 := fun w => zag 0 w
  t3 := Try.underlying3
  a3 := fun w => j6 (P := Try.prog) (d := (TypeDesc.int IntKind.i64)) 3 w
  z3 := fun w => jV 3 w
  v3 := fun w => zag 3 w
  t4 := Try.underlying4
  a4 := fun w => j6 (P := Try.prog) (d := TypeDesc.bool) 4 w
  z4 := fun w => jV 4 w
  v4 := fun w => zag 4 w
  t5 := Try.underlying5
  a5 := fun w => j6 (P := Try.prog) (d := (TypeDesc.int IntKind.u8)) 5 w
  z5 := fun w => jV 5 w
  v5 := fun w => zag 5 w
  t9 := Try.underlying9
  a9 := fun w => j6 (P := Try.prog) (d := TypeDesc.string) 9 w
  z9 := fun w => jV 9 w
  v9 := fun w => zag 9 w
  t20 := Try.underlying20
  a20 := fun w => j6 (P := Try.prog) (d := (TypeDesc.interface #[])) 20 w
  z20 := fun w => jV 20 w
  v20 := fun w => zag 20 w
  t37 := Try.underlying35
  a37 := fun w => j6 (P := Try.prog) (d := (TypeDesc.slice 5)) 35 w
  z37 := fun w => jV 35 w
  v37 := fun w => zag 35 w
  t46 := Try.underlying56
  a46 := fun w => j6 (P := Try.prog) (d := (TypeDesc.int IntKind.u64)) 56 w
  z46 := fun w => jV 56 w
  v46 := fun w => zag 56 w
  t51 := Try.underlying66
  a51 := fun w => j6 (P := Try.prog) (d := (TypeDesc.int IntKind.u32)) 66 w
  z51 := fun w => jV 66 w
  v51 := fun w => zag 66 w
  t53 := Try.underlying99
  a53 := fun w => j6 (P := Try.prog) (d := (TypeDesc.int IntKind.u64)) 99 w
  z53 := fun w => jV 99 w
  v53 := fun w => zag 99 w
  t70 := Try.underlying83
  a70 := fun w => j6 (P := Try.prog) (d := (TypeDesc.pointer 85)) 83 w
  z70 := fun w => jV 83 w
  v70 := fun w => zag 83 w
  t72 := Try.underlying85
  a72 := fun w => j6 (P := Try.prog) (d := (TypeDesc.struct #[{ name := "addr", type := 83, offset := 0, embedded := false, tag := "", pkgPath := "strings", byteOffset := 0 }, { name := "buf", type := 35, offset := 1, embedded := false, tag := "", pkgPath := "strings", byteOffset := 8 }])) 85 w
  z72 := fun w => jV 85 w
  v72 := fun w => zag 85 w
  t75 := Try.underlying87
  a75 := fun w => j6 (P := Try.prog) (d := (TypeDesc.interface #[("Error", 90)])) 87 w
  z75 := fun w => jV 87 w
  v75 := fun w => zag 87 w
  t76 := Try.underlying88
  a76 := fun w => j6 (P := Try.prog) (d := (TypeDesc.tuple #[3, 87])) 88 w
  z76 := fun w => jV 88 w
  v76 := fun w => zag 88 w
  t109 := Try.underlying108
  a109 := fun w => j6 (P := Try.prog) (d := (TypeDesc.tuple #[56, 56])) 108 w
  z109 := fun w => jV 108 w
  v109 := fun w => zag 108 w
  t127 := Try.underlying107
  a127 := fun w => j6 (P := Try.prog) (d := (TypeDesc.pointer 5)) 107 w
  z127 := fun w => jV 107 w
  v127 := fun w => zag 107 w
  t146 := Try.underlying117
  a146 := fun w => j6 (P := Try.prog) (d := (TypeDesc.tuple #[66, 66])) 117 w
  z146 := fun w => jV 117 w
  v146 := fun w => zag 117 w
  t148 := Try.underlying119
  a148 := fun w => j6 (P := Try.prog) (d := (TypeDesc.tuple #[99, 99])) 119 w
  z148 := fun w => jV 119 w
  v148 := fun w => zag 119 w
  t164 := Try.underlying115
  a164 := fun w => j6 (P := Try.prog) (d := TypeDesc.unsafePointer) 115 w
  z164 := fun w => jV 115 w
  v164 := fun w => zag 115 w
theorem zgv : Builder.Extra Try.prog zhP where
  sizeBuilder := by kernel_rfl
  liesBuilder := by kernel_rfl
  t5 := Try.underlying5
  a5 := fun w => j6 (P := Try.prog) (d := .int .u8) 5 w
  z5 := fun w => jV 5 w
  v5 := fun w => zag 5 w
  infoByte := by kernel_rfl
  cellsByte := by kernel_rfl
  sizeByte := by kernel_rfl
  neB5 := by decide
theorem Spec.of_below {P : Program} {f : FuncId} {args : List AV} {r : AV} (H : ∀ h m (vs : Array Value) w, vs.size = args.length → RepAs h m (fun j => vs[j]?) 0 args → Calls P f vs w fun e w' => ∃ v, e = .returned v ∧ (∀ h' m', RepA h' m' v r) ∧ Below w.heap.size w w') : Spec P f args [] r [] where
  run h m vs w hs hv hr := (H h m vs w hv hr).mono fun e w' ⟨v, he, hv', hb⟩ => by
    refine ⟨v, h, m, he, hv' h m, ⟨fun b o hb' => ?_, fun _ _ hx => by simp [StL.get] at hx, fun _ _ _ hx => by simp [StL.get] at hx, fun _ _ _ _ _ hx => by simp [StL.get] at hx⟩, ?_⟩
    · have h1 := hs.imm b o hb'
      have hlt : b < w.heap.size := by
        rcases Nat.lt_or_ge b w.heap.size with h2 | h2
        · exact h2
        · rw [Array.getElem?_eq_none h2] at h1; cases h1
      rw [hb.block b hlt]; exact h1
    · exact ⟨⟨hb.os, hb.tape, hb.output, hb.size, fun b hb' _ => ⟨hb.block b hb', rfl⟩, fun _ _ hu => hu, fun _ _ _ hx => by simp [StL.get] at hx⟩, fun _ => rfl⟩
theorem jA (s : ByteArray) (c : Nat) (hc : c ≤ 9223372036854775807) (hl : s.size * c ≤ 140737488355328) : Spec Try.prog 57 [.t (.str s), .t (.int .i64 (c : Int))] [] (.t (.str ⟨(Lib.repeatL s.data.toList c).toArray⟩)) [] :=
  Spec.of_below fun h m vs w hv hr => by
    simp only [RepAs, RepA, RepT, and_true] at hr
    obtain ⟨⟨u0, h0, rfl⟩, u1, h1, rfl⟩ := hr
    have hv2 : vs.size = 2 := hv
    have e : vs = #[.string s, .int .i64 c] := by
      apply Array.ext
      · simpa using hv2
      · intro i h1' h2'
        have : i = 0 ∨ i = 1 := by omega
        rcases this with rfl | rfl
        · rw [Array.getElem?_eq_getElem h1'] at h0; simpa using h0
        · rw [Array.getElem?_eq_getElem h1'] at h1; simpa using h1
    subst e
    exact (Any.strings_Repeat zi6 zgv s c w hc hl).mono fun e w' ⟨he, hb⟩ => ⟨_, he, fun h' m' => by simp [RepA, RepT], hb⟩
theorem zar (b : UInt8) : ∀ c : Nat, Lib.repeatL [b] c = List.replicate c b
  | 0 => rfl
  | c + 1 => by rw [Lib.repeatL, zar b c, List.replicate_succ]; rfl
end Go.AL
namespace Go.AL
open Go Go.Proofs Go.RowKit
theorem zjj (n c : Nat) : IntKind.u8.wrap ((n : Int) / 2 ^ (8 * c)) = ((UInt8.ofNat (n / 256 ^ c)).toNat : Int) := by
  have e : (2 : Int) ^ (8 * c) = ((256 ^ c : Nat) : Int) := by
    have : (256 : Nat) ^ c = 2 ^ (8 * c) := by rw [Nat.pow_mul]
    rw [this]; simp
  rw [e]
  simp only [IntKind.wrap, IntKind.bits, IntKind.signed, Bool.false_and, Bool.false_eq_true, if_false]
  rw [UInt8.toNat_ofNat']
  omega
theorem qo (l : List UInt8) : qq (l.map u8T) = ofL l := by
  unfold qq strOfNums ofL
  rw [List.map_map, List.map_map]
  have : (((fun n => UInt8.ofNat n.toNat) ∘ T.num) ∘ u8T) = id := by
    funext b
    show UInt8.ofNat ((b.toNat : Int).toNat) = b
    simp
  rw [this, List.map_id]
theorem kM (l : List UInt8) : IsU8 (l.map u8T) := by
  intro e he
  obtain ⟨b, _, rfl⟩ := List.mem_map.1 he
  rfl
theorem wc (s : ByteArray) : zQ s = s.data.toList.map u8T := rfl
set_option maxHeartbeats 4000000 in
theorem zfg (left : ByteArray) (n : Nat) (hl : left.size ≤ 50000000) (hn : n ≤ 100000000) : Spec Try.prog 41 [.t (.str left), .t (.int .i64 (n : Int))] [] (.t (.str (ofL (wg left.data.toList n)))) [] := by
  obtain ⟨z, hz⟩ : ∃ z : Nat, z = (119 - left.size % 64) % 64 := ⟨_, rfl⟩
  have hz63 : z ≤ 63 := by omega
  have hz1 : (left.size : Int).tmod 64 = ((left.size % 64 : Nat) : Int) := by rw [Int.tmod_eq_emod_of_nonneg (by omega)]; omega
  have hz2 : (IntKind.i64.wrap (119 - (left.size : Int).tmod 64)).tmod 64 = (z : Int) := by
    rw [hz1, zl (by omega) (by omega), Int.tmod_eq_emod_of_nonneg (by omega), hz]; omega
  have hR := jA ⟨#[0]⟩ z (by omega) (by show 1 * z ≤ _; omega)
  rw [show (⟨#[0]⟩ : ByteArray).data.toList = [0] from rfl, zar] at hR
  rw [← hz2] at hR
  obtain ⟨Z, hZ⟩ : ∃ Z : ByteArray, Z = ⟨(List.replicate z (0 : UInt8)).toArray⟩ := ⟨_, rfl⟩
  have hZs : Z.size = z := by rw [hZ]; simp [ByteArray.size]
  have hZl : Z.data.toList = List.replicate z 0 := by rw [hZ]
  rw [← hZ] at hR
  have h1 := zaK left (by omega)
  have h2 := zdI (zQ left) 128 (by rw [yf]; omega)
  have h3 := zbg (zQ left ++ [.int .u8 128]) Z (by rw [List.length_append, yf]; simp; omega)
  have h4 := fun es c h => zdI es c h
  have h5 := fun l h h' => jD l h h'
  unfold ziX ze0 at h1
  unfold zds ze0 at h2 h3 h4
  unfold zds at h5
  refine wI Try.func41 ?_
  repeat' (first | refine wC ?_ | refine wK ?_ | ((with_reducible refine zp ?_); first | refine wN (.tup [_, _]) [(.par 0, .loc 6), (.res 0, .loc 901)] h1 ?_ | refine wN .junk [(.par 0, .loc 6), (.par 1, .loc 901), (.res 0, .loc 902)] h2 ?_ | refine wL hR ?_ | refine wN (.tup [_, _]) [(.par 0, .loc 6), (.par 1, .loc 902), (.res 0, .loc 903)] h3 ?_) | fail)
  rw [yQ (n := (n : Int)) (by omega) (by omega), yQ (n := (n : Int) * 8) (by omega) (by omega), show (n : Int) * 8 = ((8 * n : Nat) : Int) by omega]
  refine zc (za [6, 7, 8] [.loc 6, .loc 903] rfl rfl) ?_
  refine zh (fun p env st => ∃ (c : Nat) (es : List T), c ≤ 8 ∧ p = c ∧ es.length ≤ 90000000 - c ∧ es ++ (xo c (8 * n)).map u8T = (wg left.data.toList n).map u8T ∧
      env = EnvL.get [(6, .ref (.loc 6) 0 0 0), (7, .t (.int .u64 ((8 * n : Nat) : Int))), (8, .t (.int .i64 ((c : Int) - 1)))] ∧
      st = StO.get [(.loc 6, some (.var 85 [.ref (.loc 6) 0 0 0, .row (.loc 903)])), (.loc 903, some (.slt 5 1 es))])
    ?_ (n := 8) ⟨8, zQ left ++ [.int .u8 128] ++ zQ Z, by omega, rfl, ?_, ?_, rfl, rfl⟩
  rotate_left
  · simp only [List.length_append, yf, List.length_cons, List.length_nil]; omega
  · rw [wc, wc, hZl]
    unfold wg
    rw [show (119 - left.data.toList.length % 64) % 64 = z by rw [hz]; rfl]
    simp only [List.map_append, List.map_cons, List.append_assoc]
    rfl
  clear h1 h2 h3 hR
  rintro p env st ⟨c, es, hc8, rfl, hlen, hi, rfl, rfl⟩
  have h4 := fun x => h4 es x (by omega)
  by_cases hp : p = 0
  · subst hp
    simp only [xo, List.map_nil, List.append_nil] at hi
    subst hi
    have h5 := h5 (wg left.data.toList n) (by rw [jx]; simp; omega) (by unfold wg; simp)
    repeat' (first | refine wC ?_ | refine wK ?_ | ((with_reducible refine zp ?_); refine wN (.t (.str _)) [(.par 0, .loc 6), (.par 1, .loc 903)] h5 ?_) | fail)
    exact zH (zj rfl rfl rfl) (by simp)
  · obtain ⟨c, rfl⟩ : ∃ c, p = c + 1 := ⟨p - 1, by omega⟩
    have e : (min (IntKind.i64.wrap (8 * (((c + 1 : Nat) : Int) - 1))).toNat IntKind.u64.bits) = 8 * c := by
      rw [zl (by omega) (by omega)]
      have : IntKind.u64.bits = 64 := rfl
      omega
    repeat' (first | refine wC ?_ | refine wK ?_ | ((with_reducible refine zW ?_); refine q7 rfl rfl rfl rfl rfl rfl ?_ ?_) | ((with_reducible refine zp ?_); refine wN .junk [(.par 0, .loc 6), (.par 1, .loc 903), (.res 0, .loc 904)] (h4 _) ?_) | refine zq rfl ?_ ?_ <;> intro hc | fail)
    · rw [zl (by omega) (by omega)]; omega
    · rw [e, zjj]
      refine zC (n' := c) (by omega) ((za [6, 7, 8] [.loc 6, .loc 904] rfl rfl).trans (zw (.loc 904) (.loc 903) rfl rfl rfl rfl)) ⟨c, es ++ [.int .u8 ((UInt8.ofNat (8 * n / 256 ^ c)).toNat : Int)], by omega, rfl, by rw [List.length_append]; simp; omega, ?_, ?_, rfl⟩
      · rw [← hi, List.append_assoc]; rfl
      · rw [zl (by omega) (by omega), show ((c + 1 : Nat) : Int) - 1 - 1 = (c : Int) - 1 by omega]; rfl
    · exfalso; omega
set_option maxHeartbeats 4000000 in
theorem zgf (s : ByteArray) (hl : s.size ≤ 50000000) : Spec Try.prog 50 [.t (.str s)] [] (.t (.str (ofL (zJ s.data.toList)))) [] := by
  unfold zJ
  obtain ⟨n, hn⟩ : ∃ n, n = s.size := ⟨_, rfl⟩
  have hn2 : s.data.toList.length = n := by rw [hn]; rfl
  obtain ⟨z, hz⟩ : ∃ z : Nat, z = (119 - n % 64) % 64 := ⟨_, rfl⟩
  refine wI Try.func50 ?_
  repeat' (first | refine wC ?_ | refine wK ?_ | ((with_reducible refine z7 ?_); refine zey rfl rfl rfl rfl rfl rfl ?_ ?_) | ((with_reducible refine z6 ?_); refine zx rfl rfl rfl rfl rfl rfl rfl rfl rfl rfl ?_ ?_ ?_) | fail)
  · omega
  · rw [yf]; simp; omega
  · rw [yf]; simp; omega
  refine zc (za [0, 3] [.loc 8] rfl rfl) ?_
  refine zh (fun p env st => ∃ (j : Nat) (es : List T), j ≤ z ∧ p = z - j ∧ es = zQ s ++ ([.int .u8 128] ++ (List.replicate j (0 : UInt8)).map u8T) ∧
      env = EnvL.get [(0, .t (.str s)), (3, .row (.loc 8))] ∧ st = StO.get [(.loc 8, some (.slt 5 1 es))])
    ?_ (n := z) ⟨0, _, by omega, rfl, rfl, rfl, by simp; rfl⟩
  rintro p env st ⟨j, es, hj, rfl, hes, rfl, rfl⟩
  have hel : es.length = n + 1 + j := by rw [hes]; simp [yf]; omega
  have hm : ((es.length : Int)).tmod 64 = ((n + 1 + j) % 64 : Nat) := by rw [hel, Int.tmod_eq_emod_of_nonneg (by omega)]; omega
  by_cases hjz : j = z
  · subst hjz
    have h56 : (n + 1 + j) % 64 = 56 := by omega
    repeat' (first | refine wC ?_ | refine wK ?_ | ((with_reducible refine z6 ?_); refine zx rfl rfl rfl rfl rfl rfl rfl rfl rfl rfl ?_ ?_ ?_) | refine y8 rfl ?_ ?_ <;> intro hc | fail)
    all_goals try (exfalso; omega)
    refine zc (za [0, 3, 4] [.loc 8] rfl rfl) ?_
    refine zh (fun p env st => ∃ (c : Nat) (es : List T), c ≤ 8 ∧ p = c ∧ es.length ≤ 90000000 - c ∧ es ++ (xo c (8 * n)).map u8T = (wg s.data.toList n).map u8T ∧
        env = EnvL.get [(0, .t (.str s)), (3, .row (.loc 8)), (4, .t (.int .i64 (8 * (c : Int) - 8)))] ∧ st = StO.get [(.loc 8, some (.slt 5 1 es))])
      ?_ (n := 8) ⟨8, es, by omega, rfl, by omega, ?_, rfl, rfl⟩
    rotate_left
    · rw [hes, wc]
      unfold wg
      rw [hn2, ← hz]
      simp only [List.map_append, List.map_cons, List.append_assoc]
      rfl
    clear hes hel hm
    rintro p env st ⟨c, es, hc8, rfl, hlen, hi, rfl, rfl⟩
    by_cases hp : p = 0
    · subst hp
      simp only [xo, List.map_nil, List.append_nil] at hi
      subst hi
      repeat' (first | refine wC ?_ | refine wK ?_ | ((with_reducible refine z7 ?_); refine zE rfl rfl rfl rfl rfl rfl ?_ ?_) | fail)
      · exact kM _
      · exact zH (zj rfl rfl (congrArg T.str (by rw [qo, hn2]))) (by simp)
    · obtain ⟨c, rfl⟩ : ∃ c, p = c + 1 := ⟨p - 1, by omega⟩
      have e0 : IntKind.u64.wrap (8 * ((c + 1 : Nat) : Int) - 8) = ((8 * c : Nat) : Int) := by rw [yQ (by omega) (by omega)]; omega
      have e1 : min ((8 * c : Nat) : Int).toNat IntKind.u64.bits = 8 * c := by
        have : IntKind.u64.bits = 64 := rfl
        omega
      have e2 : IntKind.u64.wrap (IntKind.u64.wrap (s.size : Int) * 8) = ((8 * n : Nat) : Int) := by rw [yQ (n := (s.size : Int)) (by omega) (by omega), yQ (by omega) (by omega)]; omega
      repeat' (first | refine wC ?_ | refine wK ?_ | ((with_reducible refine zW ?_); refine q7 rfl rfl rfl rfl rfl rfl ?_ ?_) | ((with_reducible refine z7 ?_); refine zE rfl rfl rfl rfl rfl rfl ?_ ?_) | ((with_reducible refine z6 ?_); refine zx rfl rfl rfl rfl rfl rfl rfl rfl rfl rfl ?_ ?_ ?_) | refine zq rfl ?_ ?_ <;> intro hc | fail)
      · rw [e0]; omega
      · simp; omega
      · simp; omega
      · rw [e0, e1, e2, zjj]
        refine zC (n' := c) (by omega) ((za [0, 3, 4] [.loc 30] rfl rfl).trans (zw (.loc 30) (.loc 8) rfl rfl rfl rfl)) ⟨c, es ++ [.int .u8 ((UInt8.ofNat (8 * n / 256 ^ c)).toNat : Int)], by omega, rfl, by rw [List.length_append]; simp; omega, ?_, ?_, rfl⟩
        · rw [← hi, List.append_assoc]; rfl
        · rw [zl (by omega) (by omega), show 8 * ((c + 1 : Nat) : Int) - 8 - 8 = 8 * (c : Int) - 8 by omega]; rfl
      all_goals (exfalso; omega)
  · repeat' (first | refine wC ?_ | refine wK ?_ | ((with_reducible refine z6 ?_); refine zx rfl rfl rfl rfl rfl rfl rfl rfl rfl rfl ?_ ?_ ?_) | refine y8 rfl ?_ ?_ <;> intro hc | fail)
    · exfalso; rw [hm] at hc; omega
    · simp; omega
    · simp; omega
    · refine zC (n' := z - (j + 1)) (by omega) ((za [0, 3] [.loc 15] rfl rfl).trans (zw (.loc 15) (.loc 8) rfl rfl rfl rfl)) ⟨j + 1, es ++ [.int .u8 0], by omega, rfl, ?_, rfl, rfl⟩
      rw [hes, List.replicate_succ', List.map_append, List.append_assoc, List.append_assoc]; rfl
set_option maxHeartbeats 1000000 in
theorem zeu : Spec Try.prog 39 [] [] (.t (.agg zdF.t)) [] := by
  refine wI Try.func39 ?_
  repeat' (first | refine wC ?_ | refine wK ?_ | ((with_reducible refine vJ ?_); refine xe (r := (.t (.agg _))) rfl rfl rfl rfl rfl rfl rfl ?_) | fail)
  exact wD
set_option maxHeartbeats 1000000 in
theorem zd9 : Spec Try.prog 48 [] [] (.t (.agg zdF.t)) [] := by
  refine wI Try.func48 ?_
  repeat' (first | refine wC ?_ | refine wK ?_ | ((with_reducible refine vJ ?_); refine xe (r := (.t (.agg _))) rfl rfl rfl rfl rfl rfl rfl ?_) | fail)
  exact wD
set_option maxHeartbeats 4000000 in
set_option maxRecDepth 10000 in
theorem zdc : Spec Try.prog 49 [] [] (.t (.agg (zbn.map wM))) [] := by
  refine wI Try.func49 ?_
  repeat' (first | refine wC ?_ | refine wK ?_ | ((with_reducible refine vJ ?_); refine xe (r := (.t (.agg _))) rfl rfl rfl rfl rfl rfl rfl ?_) | fail)
  exact wD
set_option maxHeartbeats 4000000 in
set_option maxRecDepth 10000 in
theorem zek : Spec Try.prog 40 [] [] (.ref (.res 0) 0 0 0) [(.res 0, .arr 80 1 (zbn.map wM))] := by
  refine wIG Try.func40 ?_
  repeat' (first | refine wC ?_ | refine wK ?_ | ((with_reducible refine vJ ?_); refine xe (r := (.t (.agg _))) rfl rfl rfl rfl rfl rfl rfl ?_) | fail)
  refine yc (yg (id := .loc 2) rfl (RowLE.arr (es := zbn.map wM) rfl (xj _)) rfl) ?_
  refine yc ((za [0] [.loc 2] rfl rfl).trans (zw (.loc 2) (.res 0) rfl rfl rfl rfl)) ?_
  exact y5 (zH (xB rfl (AVLE.refl _)) (zN ⟨rfl, trivial⟩))
def b0 (x : Int) : Int := IntKind.u8.wrap (x / 2 ^ 24)
def b1 (x : Int) : Int := IntKind.u8.wrap (x / 2 ^ 16)
def b2 (x : Int) : Int := IntKind.u8.wrap (x / 2 ^ 8)
def b3 (x : Int) : Int := IntKind.u8.wrap x
theorem xz {x : Int} (h0 : 0 ≤ x) (h1 : x < 4294967296) : [b0 x, b1 x, b2 x, b3 x].map (T.int .u8) = (w4 x).map u8T := by
  obtain ⟨n, rfl⟩ : ∃ n : Nat, x = n := ⟨x.toNat, by omega⟩
  have e0 := zjj n 3
  have e1 := zjj n 2
  have e2 := zjj n 1
  have e3 := zjj n 0
  simp only [Nat.mul_zero, Int.pow_zero, Int.ediv_one] at e3
  unfold w4 b0 b1 b2 b3
  rw [Int.toNat_natCast]
  simp only [xo, List.map_cons, List.map_nil, u8T]
  rw [← e0, ← e1, ← e2, ← e3]
def zjg (f0 f1 f2 f3 : Int → Int) (v : List Int) (i : Nat) (l : List Int) : List Int := (((l.set (4 * i) (f0 (v.getD i 0))).set (4 * i + 1) (f1 (v.getD i 0))).set (4 * i + 2) (f2 (v.getD i 0))).set (4 * i + 3) (f3 (v.getD i 0))
theorem zgQ (f0 f1 f2 f3 : Int → Int) (v : H8) : y9 (zjg f0 f1 f2 f3 v.l) 8 0 (List.replicate 32 0) = [f0 v.a, f1 v.a, f2 v.a, f3 v.a] ++ [f0 v.b, f1 v.b, f2 v.b, f3 v.b] ++ [f0 v.c, f1 v.c, f2 v.c, f3 v.c] ++ [f0 v.d, f1 v.d, f2 v.d, f3 v.d] ++ [f0 v.e, f1 v.e, f2 v.e, f3 v.e] ++ [f0 v.f, f1 v.f, f2 v.f, f3 v.f] ++ [f0 v.g, f1 v.g, f2 v.g, f3 v.g] ++ [f0 v.h, f1 v.h, f2 v.h, f3 v.h] := by kernel_rfl
theorem ziU (v : H8) (hv : v.In) : (y9 (zjg b0 b1 b2 b3 v.l) 8 0 (List.replicate 32 0)).map (T.int .u8) = v.out.map u8T := by
  rw [zgQ]
  obtain ⟨h1, h2, h3, h4, h5, h6, h7, h8⟩ := hv
  unfold H8.out
  simp only [List.map_append, xz h1.1 h1.2, xz h2.1 h2.2, xz h3.1 h3.2, xz h4.1 h4.2, xz h5.1 h5.2, xz h6.1 h6.2, xz h7.1 h7.2, xz h8.1 h8.2]
theorem wJ (b : ByteArray) (i j : Nat) : (b.extract i j).data.toList = (b.data.toList.drop i).take (j - i) := by
  simp [ByteArray.data_extract]
theorem zh0 (l : List Int) : ∀ x ∈ l.map (T.int .u8), x.isAgg = false := fun x hx => by
  obtain ⟨n, _, rfl⟩ := List.mem_map.1 hx; rfl
theorem zd2 (l : List UInt8) : ∀ x ∈ l.map u8T, x.isAgg = false := fun x hx => by
  obtain ⟨n, _, rfl⟩ := List.mem_map.1 hx; rfl
set_option maxHeartbeats 8000000 in
theorem vr (s : ByteArray) (hs : s.size ≤ 40000000) : Spec Try.prog 24 [.t (.str s)] [] (.t (.str (sha s))) [] := by
  obtain ⟨w, hw⟩ : ∃ w : Nat, w = s.size / 64 * 64 := ⟨_, rfl⟩
  have hsp := zes s.data.toList w hw
  rw [zZ] at hsp
  have e1 : IntKind.i64.wrap (IntKind.i64.wrap ((s.size : Int).tdiv 64) * 64) = (w : Int) := by
    rw [Int.tdiv_eq_ediv_of_nonneg (by omega), zl (n := (s.size : Int) / 64) (by omega) (by omega), zl (by omega) (by omega), hw]; omega
  have hR := zfg (s.extract (w : Int).toNat (s.size : Int).toNat) s.size (by rw [ByteArray.size_extract]; omega) (by omega)
  rw [← e1] at hR
  refine wI Try.func24 ?_
  repeat' (first | refine wC ?_ | refine wK ?_ | ((with_reducible refine yK ?_); first | refine zy rfl rfl rfl ⟨_, rfl⟩ rfl rfl rfl ?_ ?_ ?_ ?_ | refine zy rfl rfl ⟨_, rfl⟩ rfl rfl rfl rfl ?_ ?_ ?_ ?_) | ((with_reducible refine zp ?_); first | refine wL zeu ?_ | refine wN (.ref (.loc 907) 0 0 0) [(.res 0, .loc 907)] zek ?_ | refine wL hR ?_) | fail)
  all_goals try simp only [e1]
  all_goals try omega
  obtain ⟨A, hA⟩ : ∃ A, A = s.extract (Int.toNat 0) (w : Int).toNat := ⟨_, rfl⟩
  obtain ⟨B, hB⟩ : ∃ B, B = ofL (wg (s.extract (w : Int).toNat (s.size : Int).toNat).data.toList s.size) := ⟨_, rfl⟩
  have hAl : A.data.toList = s.data.toList.take w := by rw [hA, wJ]; simp
  have hBx : (s.extract (w : Int).toNat (s.size : Int).toNat).data.toList = s.data.toList.drop w := by
    rw [wJ, List.take_of_length_le (by rw [List.length_drop]; have := zZ s; omega)]; simp
  have hBl : B.data.toList = wg (s.data.toList.drop w) s.size := by rw [hB, xH, hBx]
  rw [← hA, ← hB]
  have hAs : A.size = w := by rw [← zZ, hAl, List.length_take]; have := zZ s; omega
  have hBs : B.size = (wg (s.data.toList.drop w) s.size).length := by rw [← zZ, hBl]
  have hBm : B.size % 64 = 0 ∧ B.size ≤ 200 := by
    rw [hBs, jx, List.length_drop, zZ]; omega
  refine zc (za [3, 4, 26, 27, 28] [.loc 3, .loc 26, .loc 907] rfl rfl) ?_
  refine zc (zI (id := .loc 26) rfl rfl rfl) ?_
  obtain ⟨Hs, hH0, hH1, hH2, hsha⟩ : ∃ Hs : Nat → H8, Hs 0 = zdF ∧ Hs 1 = xD (A.size / 64) (Hs 0) A.data.toList ∧ Hs 2 = xD (B.size / 64) (Hs 1) B.data.toList ∧ zhE s.data.toList = (Hs 2).out := by
    refine ⟨fun i => match i with | 0 => zdF | 1 => xD (A.size / 64) zdF A.data.toList | _ => xD (B.size / 64) (xD (A.size / 64) zdF A.data.toList) B.data.toList, rfl, rfl, rfl, ?_⟩
    rw [hsp, hBs, hAs, hAl, hBl]; rfl
  have hIn : (Hs 2).In := by rw [hH2, hH1, hH0]; exact kJ _ _ _ (kJ _ _ _ zfv)
  obtain ⟨L, hL⟩ : ∃ L, L = [A, B] := ⟨_, rfl⟩
  have hLs : ∀ j, j < 2 → (L.getD j default).size % 64 = 0 ∧ (L.getD j default).size ≤ 40000000 ∧ Hs (j + 1) = xD ((L.getD j default).size / 64) (Hs j) (L.getD j default).data.toList := by
    intro j hj
    have : j = 0 ∨ j = 1 := by omega
    rcases this with rfl | rfl
    · rw [hL]; exact ⟨by show A.size % 64 = 0; omega, by show A.size ≤ _; omega, hH1⟩
    · rw [hL]; exact ⟨hBm.1, by show B.size ≤ _; omega, hH2⟩
  refine zc (zgB 26 (y := .sl 1 (L.map .str)) rfl (by rw [hL]; exact .refl _) rfl) ?_
  have hLl : L.length = 2 := by rw [hL]; rfl
  refine zc (za [3, 4, 26, 27, 28] [.loc 3, .loc 907] rfl rfl) ?_
  refine zh (fun p env st => ∃ (j : Nat), j ≤ 2 ∧ p = 2 - j ∧
      env = EnvL.get [(3, .ref (.loc 3) 0 0 0), (4, .ref (.loc 907) 0 0 0), (26, .t (.sl 1 (L.map .str))), (27, .t (.int .i64 2)), (28, .t (.int .i64 (j : Int)))] ∧
      st = StO.get [(.loc 3, some (.var 68 ((Hs j).t.map AV.t))), (.loc 907, some (.arr 80 1 (zbn.map wM)))])
    ?_ (n := 2) ⟨0, by omega, rfl, rfl, by rw [hH0]; rfl⟩
  clear hH0 hH1 hH2 hR hsp hL
  rintro p env st ⟨j, hj, rfl, rfl, rfl⟩
  by_cases hlt : j < 2
  · obtain ⟨m1, m2, m3⟩ := hLs j hlt
    have hg : L.getD (j : Int).toNat default = L.getD j default := rfl
    repeat' (first | refine wC ?_ | refine wK ?_ | ((with_reducible refine zi ?_); refine zn rfl rfl rfl rfl rfl rfl ?_ ?_ ?_) | refine zq rfl ?_ ?_ <;> intro hc | fail)
    all_goals try (exfalso; omega)
    · omega
    · omega
    refine zc (za [3, 4, 7, 26, 27, 28] [.loc 3, .loc 907] rfl rfl) ?_
    rw [hg]
    generalize L.getD j default = X at m1 m2 m3 ⊢
    refine zh (fun p env st => ∃ (k : Nat) (x : ByteArray) (h : H8), p = k ∧ x.size = 64 * k ∧ x.size ≤ 40000000 ∧ Hs (j + 1) = xD k h x.data.toList ∧
        env = EnvL.get [(3, .ref (.loc 3) 0 0 0), (4, .ref (.loc 907) 0 0 0), (7, .t (.str x)), (26, .t (.sl 1 (L.map .str))), (27, .t (.int .i64 2)), (28, .t (.int .i64 (j : Int)))] ∧
        st = StO.get [(.loc 3, some (.var 68 (h.t.map AV.t))), (.loc 907, some (.arr 80 1 (zbn.map wM)))])
      ?_ (n := X.size / 64) ⟨X.size / 64, X, Hs j, rfl, by omega, m2, m3, rfl, rfl⟩
    rintro k env st ⟨k', x, h, rfl, hx, hx2, hh, rfl, rfl⟩
    by_cases hk : k = 0
    · subst hk
      have hxe : x = ⟨#[]⟩ := by
        have : x.data.toList = [] := List.eq_nil_of_length_eq_zero (by rw [zZ]; omega)
        have h2 := wX x
        rw [this] at h2
        exact h2.symm
      repeat' (first | refine wC ?_ | refine wK ?_ | ((with_reducible refine zp ?_); exact absurd hxe ‹_›) | refine y8 rfl ?_ ?_ <;> intro hc | fail)
      exact zC (n' := 2 - (j + 1)) (by omega) (za [3, 4, 26, 27, 28] [.loc 3, .loc 907] rfl rfl) ⟨j + 1, by omega, rfl, by rw [zl (by omega) (by omega)]; rfl, by rw [hh]; rfl⟩
    · obtain ⟨k, rfl⟩ : ∃ c, k = c + 1 := ⟨k - 1, by omega⟩
      have hxe : ¬ x = ⟨#[]⟩ := fun e => by rw [e] at hx; simp [ByteArray.size] at hx
      have hAdd := zgw h x (by omega) (by omega)
      repeat' (first | refine wC ?_ | refine wK ?_ | ((with_reducible refine yK ?_); refine zy rfl rfl ⟨_, rfl⟩ rfl rfl rfl rfl ?_ ?_ ?_ ?_) | ((with_reducible refine zp ?_); refine wN (.tup []) [(.par 0, .loc 3), (.par 1, .loc 907)] hAdd ?_) | refine y8 rfl ?_ ?_ <;> intro hc | fail)
      · exact absurd hc hxe
      · omega
      · omega
      · omega
      · refine zC (n' := k) (by omega) (za [3, 4, 7, 26, 27, 28] [.loc 3, .loc 907] rfl rfl) ⟨k, x.extract (Int.toNat 64) (x.size : Int).toNat, zdG h x.data.toList, rfl, by rw [ByteArray.size_extract]; omega, by rw [ByteArray.size_extract]; omega, ?_, rfl, rfl⟩
        rw [hh, wJ, List.take_of_length_le (by rw [List.length_drop]; have := zZ x; omega)]
        rfl
  · obtain rfl : j = 2 := by omega
    repeat' (first | refine wC ?_ | refine wK ?_ | fail)
    all_goals try (exfalso; omega)
    rw [show sha s = ofL (Hs 2).out by unfold sha; rw [hsha]]
    generalize Hs 2 = V at hIn ⊢
    obtain ⟨R, hR⟩ : ∃ R, R = y9 (zjg b0 b1 b2 b3 V.l) 8 0 (List.replicate 32 0) := ⟨_, rfl⟩
    have hE : R.map (T.int .u8) = V.out.map u8T := by rw [hR]; exact ziU V hIn
    refine zc (yg (id := .loc 8) rfl (RowLE.arr (es := (List.replicate 32 (0 : Int)).map (T.int .u8)) rfl (zh0 _)) rfl) ?_
    refine zc (za [8, 40, 41] [.loc 8] rfl rfl) ?_
    have hvl : V.l.length = 8 := rfl
    obtain ⟨vl, hvl'⟩ : ∃ l, l = V.l := ⟨_, rfl⟩
    rw [← hvl'] at hR hvl
    refine zh (fun p env st => ∃ (t : Nat) (l : List Int), t ≤ 8 ∧ p = 8 - t ∧ l.length = 32 ∧ R = y9 (zjg b0 b1 b2 b3 vl) (8 - t) t l ∧
        env = EnvL.get [(8, .ref (.loc 8) 0 0 0), (40, .t (.agg (vl.map wM))), (41, .t (.int .i64 (t : Int)))] ∧
        st = StO.get [(.loc 8, some (.arr 74 1 (l.map (T.int .u8))))])
      ?_ (n := 8) ⟨0, _, by omega, rfl, by simp, hR, by rw [hvl']; rfl, rfl⟩
    clear hR
    rintro p env st ⟨t, l, ht, rfl, hl, hi, rfl, rfl⟩
    by_cases hlt : t < 8
    · obtain ⟨c, hc⟩ : ∃ c, 8 - t = c + 1 := ⟨8 - t - 1, by omega⟩
      rw [hc] at hi
      simp only [y9] at hi
      have w0 : IntKind.i64.wrap (4 * (t : Int)) = ((4 * t : Nat) : Int) := by rw [zl (by omega) (by omega)]; omega
      have w1 : IntKind.i64.wrap (((4 * t : Nat) : Int) + 1) = ((4 * t + 1 : Nat) : Int) := by rw [zl (by omega) (by omega)]; omega
      have w2 : IntKind.i64.wrap (((4 * t : Nat) : Int) + 2) = ((4 * t + 2 : Nat) : Int) := by rw [zl (by omega) (by omega)]; omega
      have w3 : IntKind.i64.wrap (((4 * t : Nat) : Int) + 3) = ((4 * t + 3 : Nat) : Int) := by rw [zl (by omega) (by omega)]; omega
      repeat' (first | refine wC ?_ | refine wK ?_ | ((with_reducible refine zi ?_); refine zr rfl rfl rfl rfl rfl rfl ?_ ?_ ?_) | ((with_reducible refine xa ?_); refine yz rfl rfl rfl rfl rfl rfl rfl ?_ ?_) | ((with_reducible refine yB ?_); refine wU rfl rfl rfl rfl rfl rfl rfl ?_ ?_ ?_ ?_) | refine zq rfl ?_ ?_ <;> intro hc | fail)
      all_goals try simp only [w0, w1, w2, w3, List.length_set, Int.toNat_natCast]
      all_goals try omega
      exact zC (n' := 8 - (t + 1)) (by omega) (za [8, 40, 41] [.loc 8] rfl rfl) ⟨t + 1, zjg b0 b1 b2 b3 vl t l, by omega, rfl, by unfold zjg; simp only [List.length_set]; exact hl, by rw [hi, show 8 - (t + 1) = c by omega], by rw [zl (by omega) (by omega)]; rfl, rfl⟩
    · obtain rfl : t = 8 := by omega
      simp only [Nat.sub_self, y9] at hi
      rw [← hi, hE]
      have hol : (V.out.map u8T).length = 32 := by rw [List.length_map, zfU]
      refine zc (yg (id := .loc 8) rfl (RowLE.unarr (cs := (V.out.map u8T).map AV.t) rfl (zd2 _)) rfl) ?_
      refine zc (zfb 8 (.loc 8) (V.out.map u8T) rfl rfl rfl rfl rfl) ?_
      repeat' (first | refine wC ?_ | refine wK ?_ | ((with_reducible refine z7 ?_); refine za8 rfl rfl rfl rfl rfl ?_ ?_) | ((with_reducible refine yK ?_); refine zbE rfl rfl rfl rfl rfl rfl ?_ ?_ ?_) | fail)
      all_goals try (exfalso; omega)
      · exact hol
      · exact zd2 _
      · exact kM _
      · exact zH (zj rfl rfl (congrArg T.str (qo _))) (by simp)
def zic (f0 f1 f2 f3 : Int → Int) (v : List Int) (i : Nat) (l : List Int) : List Int := l ++ [f0 (v.getD i 0), f1 (v.getD i 0), f2 (v.getD i 0), f3 (v.getD i 0)]
theorem zgJ (f0 f1 f2 f3 : Int → Int) (v : H8) : y9 (zic f0 f1 f2 f3 v.l) 8 0 [] = [f0 v.a, f1 v.a, f2 v.a, f3 v.a] ++ [f0 v.b, f1 v.b, f2 v.b, f3 v.b] ++ [f0 v.c, f1 v.c, f2 v.c, f3 v.c] ++ [f0 v.d, f1 v.d, f2 v.d, f3 v.d] ++ [f0 v.e, f1 v.e, f2 v.e, f3 v.e] ++ [f0 v.f, f1 v.f, f2 v.f, f3 v.f] ++ [f0 v.g, f1 v.g, f2 v.g, f3 v.g] ++ [f0 v.h, f1 v.h, f2 v.h, f3 v.h] := by kernel_rfl
theorem zit (v : H8) (hv : v.In) : (y9 (zic b0 b1 b2 b3 v.l) 8 0 []).map (T.int .u8) = v.out.map u8T := by
  rw [zgJ]
  obtain ⟨h1, h2, h3, h4, h5, h6, h7, h8⟩ := hv
  unfold H8.out
  simp only [List.map_append, xz h1.1 h1.2, xz h2.1 h2.2, xz h3.1 h3.2, xz h4.1 h4.2, xz h5.1 h5.2, xz h6.1 h6.2, xz h7.1 h7.2, xz h8.1 h8.2]
set_option maxHeartbeats 8000000 in
theorem k8 (s : ByteArray) (hs : s.size ≤ 40000000) : Spec Try.prog 32 [.t (.str s)] [] (.t (.str (sha s))) [] := by
  have hP := zgf s (by omega)
  have hpl := zgN s.data.toList
  obtain ⟨p, hp⟩ : ∃ p, p = ofL (zJ s.data.toList) := ⟨_, rfl⟩
  have hpp : p.data.toList = zJ s.data.toList := by rw [hp, xH]
  have hps : p.size = (zJ s.data.toList).length := by rw [← zZ, hpp]
  rw [zZ] at hpl
  have hsl : zhE s.data.toList = (xD (p.size / 64) zdF p.data.toList).out := by unfold zhE; rw [hps, hpp]
  rw [← hp] at hP
  refine wI Try.func32 ?_
  repeat' (first | refine wC ?_ | refine wK ?_ | ((with_reducible refine zp ?_); first | refine wL zd9 ?_ | refine wL zdc ?_ | refine wL hP ?_) | fail)
  refine zc (yg (id := .loc 4) rfl (RowLE.arr (es := zbn.map wM) rfl (xj _)) rfl) ?_
  refine zc (za [3, 4, 5, 6] [.loc 3, .loc 4] rfl rfl) ?_
  obtain ⟨N, hN⟩ : ∃ N, N = p.size / 64 := ⟨_, rfl⟩
  rw [← hN] at hsl
  have hp64 : p.size = 64 * N := by rw [hN, hps]; have := hpl.1; omega
  have hpm : p.size ≤ 50000000 := by rw [hps]; omega
  obtain ⟨F, hF⟩ : ∃ F, F = xD N zdF p.data.toList := ⟨_, rfl⟩
  have hFi : F.In := by rw [hF]; exact kJ _ _ _ zfv
  rw [← hF] at hsl
  rw [show sha s = ofL F.out by unfold sha; rw [hsl]]
  clear hsl hP hp hpp hps hpl hN
  refine zh (fun m env st => ∃ (k : Nat) (h : H8), k ≤ N ∧ m = N - k ∧ F = xD (N - k) h (p.data.toList.drop (64 * k)) ∧
      env = EnvL.get [(3, .ref (.loc 3) 0 0 0), (4, .ref (.loc 4) 0 0 0), (5, .t (.str p)), (6, .t (.int .i64 ((64 * k : Nat) : Int)))] ∧
      st = StO.get [(.loc 3, some (.var 67 (h.t.map AV.t))), (.loc 4, some (.arr 80 1 (zbn.map wM)))])
    ?_ (n := N) ⟨0, zdF, by omega, rfl, by rw [hF]; rfl, rfl, rfl⟩
  clear hF
  rintro m env st ⟨k, h, hk, rfl, hf, rfl, rfl⟩
  by_cases hlt : k < N
  · have hw1 : IntKind.i64.wrap (((64 * k : Nat) : Int) + 64) = ((64 * k + 64 : Nat) : Int) := by rw [zl (by omega) (by omega)]; omega
    have hB := zeS h (p.extract (((64 * k : Nat) : Int)).toNat (IntKind.i64.wrap (((64 * k : Nat) : Int) + 64)).toNat) (by rw [ByteArray.size_extract, hw1]; omega) (by rw [ByteArray.size_extract, hw1]; omega)
    have hX : (p.extract (((64 * k : Nat) : Int)).toNat (IntKind.i64.wrap (((64 * k : Nat) : Int) + 64)).toNat).data.toList = (p.data.toList.drop (64 * k)).take 64 := by
      rw [wJ, hw1, Int.toNat_natCast, Int.toNat_natCast, show 64 * k + 64 - 64 * k = 64 by omega]
    rw [hX, zfZ _ _ _ (by rw [List.length_drop, zZ]; omega) (by omega)] at hB
    obtain ⟨c, hc⟩ : ∃ c, N - k = c + 1 := ⟨N - k - 1, by omega⟩
    rw [hc] at hf
    simp only [xD, List.drop_drop] at hf
    generalize zdG h (p.data.toList.drop (64 * k)) = h' at hf hB
    obtain ⟨a1, a2, a3, a4, a5, a6, a7, a8⟩ := h
    obtain ⟨c1, c2, c3, c4, c5, c6, c7, c8⟩ := h'
    simp only [H8.t, List.map_cons, List.map_nil] at hB ⊢
    repeat' (first | refine wC ?_ | refine wK ?_ | ((with_reducible refine yK ?_); refine zy rfl rfl ⟨_, rfl⟩ ⟨_, rfl⟩ rfl rfl rfl ?_ ?_ ?_ ?_) | ((with_reducible refine zp ?_); refine wL hB ?_) | ((with_reducible refine wy ?_); refine kf rfl rfl rfl rfl rfl rfl rfl rfl rfl ?_) | refine zq rfl ?_ ?_ <;> intro hc | fail)
    all_goals try (rw [hw1]; omega)
    all_goals try (exfalso; omega)
    · omega
    exact zC (n' := N - (k + 1)) (by omega) (za [3, 4, 5, 6] [.loc 3, .loc 4] rfl rfl) ⟨k + 1, ⟨c1, c2, c3, c4, c5, c6, c7, c8⟩, by omega, rfl, by rw [hf, show N - (k + 1) = c by omega, show 64 * (k + 1) = 64 * k + 64 by omega], by rw [hw1, show 64 * (k + 1) = 64 * k + 64 by omega]; rfl, rfl⟩
  · have hkN : k = N := by omega
    subst hkN
    simp only [Nat.sub_self, xD] at hf
    subst hf
    repeat' (first | refine wC ?_ | refine wK ?_ | ((with_reducible refine yK ?_); refine zy rfl rfl ⟨_, rfl⟩ ⟨_, rfl⟩ rfl rfl rfl ?_ ?_ ?_ ?_) | ((with_reducible refine wy ?_); refine kf rfl rfl rfl rfl rfl rfl rfl rfl rfl ?_) | refine zq rfl ?_ ?_ <;> intro hc | fail)
    all_goals try (exfalso; omega)
    obtain ⟨R, hR⟩ : ∃ R, R = y9 (zic b0 b1 b2 b3 F.l) 8 0 [] := ⟨_, rfl⟩
    have hE : R.map (T.int .u8) = F.out.map u8T := by rw [hR]; exact zit F hFi
    refine zc (xG 7 (.loc 900) 5 1 rfl rfl rfl) ?_
    refine zc (za [7, 28, 29] [.loc 900] rfl rfl) ?_
    have hvl : F.l.length = 8 := rfl
    obtain ⟨vl, hvl'⟩ : ∃ l, l = F.l := ⟨_, rfl⟩
    rw [← hvl'] at hR hvl
    refine zh (fun p env st => ∃ (t : Nat) (l : List Int), t ≤ 8 ∧ p = 8 - t ∧ l.length = 4 * t ∧ R = y9 (zic b0 b1 b2 b3 vl) (8 - t) t l ∧
        env = EnvL.get [(7, .row (.loc 900)), (28, .t (.agg (vl.map wM))), (29, .t (.int .i64 (t : Int)))] ∧
        st = StO.get [(.loc 900, some (.slt 5 1 (l.map (T.int .u8))))])
      ?_ (n := 8) ⟨0, [], by omega, rfl, by simp, hR, by rw [hvl']; rfl, rfl⟩
    clear hR
    rintro p env st ⟨t, l, ht, rfl, hl, hi, rfl, rfl⟩
    by_cases hlt : t < 8
    · obtain ⟨c, hc⟩ : ∃ c, 8 - t = c + 1 := ⟨8 - t - 1, by omega⟩
      rw [hc] at hi
      simp only [y9] at hi
      repeat' (first | refine wC ?_ | refine wK ?_ | ((with_reducible refine z7 ?_); refine zE rfl rfl rfl rfl rfl rfl ?_ ?_) | ((with_reducible refine z6 ?_); refine zx rfl rfl rfl rfl rfl rfl rfl rfl rfl rfl ?_ ?_ ?_) | ((with_reducible refine yB ?_); refine wU rfl rfl rfl rfl rfl rfl rfl ?_ ?_ ?_ ?_) | refine zq rfl ?_ ?_ <;> intro hc | fail)
      all_goals try omega
      all_goals try (exfalso; omega)
      all_goals try (simp only [List.length_map, List.length_cons, List.length_nil]; omega)
      refine zC (n' := 8 - (t + 1)) (by omega) ((za [7, 28, 29] [.loc 45] rfl rfl).trans (zw (.loc 45) (.loc 900) rfl rfl rfl rfl)) ⟨t + 1, zic b0 b1 b2 b3 vl t l, by omega, rfl, by unfold zic; rw [List.length_append]; simp; omega, by rw [hi, show 8 - (t + 1) = c by omega], by rw [zl (by omega) (by omega)]; rfl, ?_⟩
      unfold zic
      rw [List.map_append]; rfl
    · obtain rfl : t = 8 := by omega
      simp only [Nat.sub_self, y9] at hi
      rw [← hi, hE]
      repeat' (first | refine wC ?_ | refine wK ?_ | ((with_reducible refine z7 ?_); refine zE rfl rfl rfl rfl rfl rfl ?_ ?_) | fail)
      all_goals try (exfalso; omega)
      · exact kM _
      · exact zH (zj rfl rfl (congrArg T.str (qo _))) (by simp)
def yS (n : Int) : ByteArray := qq [.int .u8 (IntKind.u8.wrap (n / 2 ^ 24)), .int .u8 (IntKind.u8.wrap (n / 2 ^ 16)), .int .u8 (IntKind.u8.wrap (n / 2 ^ 8)), .int .u8 (IntKind.u8.wrap n)]
theorem vi (es : List T) : (qq es).size = es.length := by
  unfold qq strOfNums
  rw [ByteArray.size, List.size_toArray, List.length_map, List.length_map]
theorem yU (n : Int) : (yS n).size = 4 := vi _
theorem zbL (a b c d : Int) : IsU8 [T.int .u8 a, .int .u8 b, .int .u8 c, .int .u8 d] := by
  intro e he
  simp only [List.mem_cons, List.not_mem_nil, or_false] at he
  rcases he with rfl | rfl | rfl | rfl <;> rfl
set_option maxHeartbeats 1000000 in
theorem zcj (n : Int) : Spec Try.prog 53 [.t (.int .i64 n)] [] (.t (.str (yS n))) [] := by
  refine wI Try.func53 ?_
  repeat' (first | refine wC ?_ | refine wK ?_ | ((with_reducible refine z7 ?_); refine zE rfl rfl rfl rfl rfl rfl ?_ ?_) | fail)
  all_goals try exact zbL _ _ _ _
  exact zH (zj rfl rfl rfl) (by simp)
def zL (s : ByteArray) : ByteArray := (sha s).extract 0 16
theorem yH (s : ByteArray) : (zL s).size = 16 := by unfold zL; rw [ByteArray.size_extract, xA]; omega
set_option maxHeartbeats 1000000 in
theorem ww (s : ByteArray) (hs : s.size ≤ 40000000) : Spec Try.prog 79 [.t (.str s)] [] (.t (.str (zL s))) [] := by
  have hS := vr s hs
  have hz := xA s
  unfold zL
  generalize sha s = Y at hS hz ⊢
  refine wI Try.func79 ?_
  repeat' (first | refine wC ?_ | refine wK ?_ | ((with_reducible refine yK ?_); refine zy rfl rfl rfl ⟨_, rfl⟩ rfl rfl rfl ?_ ?_ ?_ ?_) | ((with_reducible refine zp ?_); refine wL hS ?_) | fail)
  all_goals try omega
  exact zH (zj rfl rfl rfl) (by simp)
set_option maxHeartbeats 1000000 in
theorem wO (s : ByteArray) (hs : s.size ≤ 40000000) : Spec Try.prog 30 [.t (.str s)] [] (.t (.str (zL s))) [] := by
  have hS := k8 s hs
  have hz := xA s
  unfold zL
  generalize sha s = Y at hS hz ⊢
  refine wI Try.func30 ?_
  repeat' (first | refine wC ?_ | refine wK ?_ | ((with_reducible refine yK ?_); refine zy rfl rfl rfl ⟨_, rfl⟩ rfl rfl rfl ?_ ?_ ?_ ?_) | ((with_reducible refine zp ?_); refine wL hS ?_) | fail)
  all_goals try omega
  exact zH (zj rfl rfl rfl) (by simp)
def yr (l : List ByteArray) (j : Nat) : ByteArray := (l.take j).foldl (fun s x => s ++ (yS x.size ++ x)) (⟨#[2]⟩ ++ yS l.length)
def zaH (l : List ByteArray) : ByteArray := yr l l.length
theorem vn (l : List ByteArray) (j : Nat) (h : j < l.length) : yr l (j + 1) = yr l j ++ (yS (l.getD j default).size ++ l.getD j default) := by
  unfold yr
  rw [List.take_add_one, List.getElem?_eq_getElem h, Option.toList_some, List.foldl_append]
  simp [List.getD_eq_getElem?_getD, h]
theorem qV {B : Nat} (l : List ByteArray) (hB : ∀ x ∈ l, x.size ≤ B) : ∀ j, j ≤ l.length → (yr l j).size ≤ 5 + j * (B + 4)
  | 0, _ => by
    unfold yr
    rw [List.take_zero, List.foldl_nil, ByteArray.size_append, yU]
    show 1 + 4 ≤ _; omega
  | j + 1, h => by
    have ih := qV l hB j (by omega)
    have hm : l.getD j default ∈ l := by rw [List.getD_eq_getElem?_getD, List.getElem?_eq_getElem (by omega)]; exact List.getElem_mem _
    have := hB _ hm
    rw [vn l j (by omega), ByteArray.size_append, ByteArray.size_append, yU, Nat.add_mul]
    omega
theorem kO (l : List ByteArray) : ∀ j, 1 ≤ (yr l j).size
  | 0 => by
    unfold yr
    rw [List.take_zero, List.foldl_nil, ByteArray.size_append]
    show 1 ≤ 1 + _; omega
  | j + 1 => by
    have ih := kO l j
    rcases Nat.lt_or_ge j l.length with h | h
    · rw [vn l j h, ByteArray.size_append]; omega
    · have e : yr l (j + 1) = yr l j := by
        unfold yr; rw [List.take_of_length_le (by omega), List.take_of_length_le h]
      rw [e]; exact ih
theorem qf (a b : ByteArray) : zQ (a ++ b) = zQ a ++ zQ b := by
  unfold zQ
  rw [ByteArray.data_append, Array.toList_append, List.map_append]
set_option maxHeartbeats 4000000 in
theorem zfF (l : List ByteArray) (B : Nat) (hB : ∀ x ∈ l, x.size ≤ B) (hl : l.length ≤ 100000) (hm : l.length * (B + 4) ≤ 20000000) : Spec Try.prog 33 [.t (.sl 1 (l.map .str))] [] (.t (.str (sha (zaH l)))) [] := by
  have hsz := qV l hB
  have hmul : ∀ j, j ≤ l.length → j * (B + 4) ≤ l.length * (B + 4) := fun j hj => Nat.mul_le_mul_right _ hj
  have hSum := vr (zaH l) (by have := hsz l.length (Nat.le_refl _); unfold zaH; omega)
  have h1 := zcj (l.length : Int)
  have z1 := yU (l.length : Int)
  have hp0 : yr l 0 = ⟨#[2]⟩ ++ yS (l.length : Int) := rfl
  generalize sha (zaH l) = Y at hSum ⊢
  have o2 : (⟨#[2]⟩ : ByteArray).size = 1 := rfl
  have hw := zaK (⟨#[2]⟩ ++ yS (l.length : Int)) (by rw [ByteArray.size_append, o2]; omega)
  rw [← hp0] at hw
  unfold ziX ze0 at hw
  refine wI Try.func33 ?_
  repeat' (first | refine wC ?_ | refine wK ?_ | ((with_reducible refine zW ?_); refine zX rfl rfl rfl rfl rfl rfl ?_ ?_) | ((with_reducible refine zp ?_); first | refine wL h1 ?_ | refine wN (.tup [_, _]) [(.par 0, .loc 3), (.res 0, .loc 901)] hw ?_) | fail)
  · rw [o2]; omega
  refine zc (za [3, 11, 12, 13] [.loc 3, .loc 901] rfl rfl) ?_
  refine zh (fun p env st => ∃ (j : Nat), j ≤ l.length ∧ p = l.length - j ∧
      env = EnvL.get [(3, .ref (.loc 3) 0 0 0), (11, .t (.sl 1 (l.map .str))), (12, .t (.int .i64 (l.length : Int))), (13, .t (.int .i64 (j : Int)))] ∧
      st = StO.get [(.loc 3, some (.var 85 [.ref (.loc 3) 0 0 0, .row (.loc 901)])), (.loc 901, some (.slt 5 1 (zQ (yr l j))))])
    ?_ (n := l.length) ⟨0, by omega, rfl, rfl, rfl⟩
  clear hw h1
  rintro p env st ⟨j, hj, rfl, rfl, rfl⟩
  have hsj := hsz j hj
  have hmj := hmul j hj
  by_cases hlt : j < l.length
  · have hm2 : l.getD (j : Int).toNat default ∈ l := by rw [List.getD_eq_getElem?_getD, List.getElem?_eq_getElem (by omega)]; exact List.getElem_mem _
    have hx := hB _ hm2
    have hsucc := vn l j hlt
    have hg : l.getD (j : Int).toNat default = l.getD j default := rfl
    have hmj1 := hmul (j + 1) (by omega)
    rw [Nat.add_mul] at hmj1
    rw [← hg] at hsucc
    have h2 := zcj ((l.getD (j : Int).toNat default).size : Int)
    have z2 := yU ((l.getD (j : Int).toNat default).size : Int)
    have hw := zbg (zQ (yr l j)) (yS ((l.getD (j : Int).toNat default).size : Int) ++ l.getD (j : Int).toNat default) (by rw [yf, ByteArray.size_append, z2]; omega)
    unfold zds ze0 at hw
    repeat' (first | refine wC ?_ | refine wK ?_ | ((with_reducible refine zW ?_); refine zX rfl rfl rfl rfl rfl rfl ?_ ?_) | ((with_reducible refine zi ?_); refine zn rfl rfl rfl rfl rfl rfl ?_ ?_ ?_) | ((with_reducible refine zp ?_); first | refine wL h2 ?_ | refine wN (.tup [_, _]) [(.par 0, .loc 3), (.par 1, .loc 901), (.res 0, .loc 902)] hw ?_) | refine zq rfl ?_ ?_ <;> intro hc | fail)
    all_goals try (exfalso; omega)
    all_goals try omega
    refine zC (n' := l.length - (j + 1)) (by omega) ((za [3, 11, 12, 13] [.loc 3, .loc 902] rfl rfl).trans (zw (.loc 902) (.loc 901) rfl rfl rfl rfl)) ⟨j + 1, by omega, rfl, by rw [zl (by omega) (by omega)]; rfl, ?_⟩
    rw [hsucc, qf (yr l j)]; rfl
  · obtain rfl : j = l.length := by omega
    have hne : (yr l l.length).data.toList ≠ [] := by
      intro h
      have h3 := zZ (yr l l.length)
      rw [h] at h3
      have := kO l l.length
      simp at h3; omega
    have hS := jD (yr l l.length).data.toList (by rw [zZ]; omega) hne
    rw [wX, ← wc] at hS
    unfold zds at hS
    rw [show zaH l = yr l l.length from rfl] at hSum
    generalize yr l l.length = X at hS hSum ⊢
    repeat' (first | refine wC ?_ | refine wK ?_ | ((with_reducible refine zi ?_); refine zn rfl rfl rfl rfl rfl rfl ?_ ?_ ?_) | ((with_reducible refine zp ?_); first | refine wN (.t (.str _)) [(.par 0, .loc 3), (.par 1, .loc 901)] hS ?_ | refine wL hSum ?_) | refine zq rfl ?_ ?_ <;> intro hc | fail)
    all_goals try (exfalso; omega)
    exact zH (zj rfl rfl rfl) (by simp)
def zK (c p : Int) : ByteArray := qq [.int .u8 (IntKind.u8.wrap c), .int .u8 (IntKind.u8.wrap p)]
theorem qA (c p : Int) : (zK c p).size = 2 := vi _
theorem zdW (a b : Int) : IsU8 [T.int .u8 a, .int .u8 b] := by
  intro e he
  simp only [List.mem_cons, List.not_mem_nil, or_false] at he
  rcases he with rfl | rfl <;> rfl
theorem zaO (a : Int) : IsU8 [T.int .u8 a] := by
  intro e he
  simp only [List.mem_cons, List.not_mem_nil, or_false] at he
  rcases he with rfl; rfl
def vQ (v : ByteArray) (c p : Int) : ByteArray := zL (v ++ zK c p)
theorem vu (v : ByteArray) (c p : Int) : (vQ v c p).size = 16 := yH _
def zeY (v : ByteArray) (c : Int) : ByteArray := zL (v ++ zK 128 c)
theorem k7 (v : ByteArray) (c : Int) : (zeY v c).size = 16 := yH _
theorem zhx (c : Int) : (⟨#[128]⟩ : ByteArray) ++ qq [.int .u8 (IntKind.u8.wrap c)] = zK 128 c := rfl
def yq (v : ByteArray) (c : Int) (p : Nat) : Nat → ByteArray
  | 0 => v
  | n + 1 => vQ (yq v c p n) c ((p + n : Nat) : Int)
theorem kT {v : ByteArray} (hv : v.size = 16) (c : Int) (p : Nat) : ∀ n, (yq v c p n).size = 16
  | 0 => hv
  | n + 1 => vu _ _ _
theorem zcl (v : ByteArray) (c : Int) (p : Nat) : ∀ n, (yq v c p n).size ≤ v.size + 16
  | 0 => by rw [yq]; omega
  | n + 1 => by rw [yq, vu]; omega
theorem zal (v : ByteArray) (c : Int) (m : Nat) : ∀ n, yq (yq v c 0 m) c m n = yq v c 0 (m + n)
  | 0 => rfl
  | n + 1 => by
    rw [yq, zal v c m n, ← Nat.add_assoc, yq, Nat.zero_add]
def zgr (v : ByteArray) (d : Nat → Nat) (c : Nat) : ByteArray := yq (zeY v (c : Int)) (c : Int) 0 (d c)
theorem qw (v : ByteArray) (d : Nat → Nat) (c : Nat) : (zgr v d c).size = 16 := kT (k7 _ _) _ _ _
def j0 (v : ByteArray) (d : Nat → Nat) (n : Nat) : ByteArray := kg (zgr v d) n
theorem jl (v : ByteArray) (d : Nat → Nat) (n : Nat) : (j0 v d n).size = 16 * n := vZ (qw v d) n
def kc (v : ByteArray) : ByteArray := zL (j0 v (fun _ => 3) 36)
def zeZ (v m : ByteArray) : ByteArray := j0 v (vA (sha m)) 36
theorem qh (v m : ByteArray) : (zeZ v m).size = 576 := by unfold zeZ; rw [jl]
def zjk (d : Nat → Nat) (w : ByteArray) (c : Nat) : ByteArray := yq (w.extract (16 * c) (16 * (c + 1))) (c : Int) (d c) (3 - d c)
theorem zbP {d : Nat → Nat} {w : ByteArray} {c : Nat} (h : 16 * (c + 1) ≤ w.size) : (zjk d w c).size = 16 := kT (by rw [ByteArray.size_extract]; omega) _ _ _
def zgo (d : Nat → Nat) (w : ByteArray) (n : Nat) : ByteArray := kg (zjk d w) n
theorem jj {d : Nat → Nat} {w : ByteArray} : ∀ n, 16 * n ≤ w.size → (zgo d w n).size = 16 * n
  | 0, _ => rfl
  | n + 1, h => by
    have := jj (d := d) (w := w) n (by omega)
    unfold zgo at this ⊢
    rw [kg, ByteArray.size_append, zbP h, this]; omega
def zkl (m w : ByteArray) : ByteArray := zL (zgo (vA (sha m)) w 36)
theorem ziy (v m : ByteArray) : zkl m (zeZ v m) = kc v := by
  unfold zkl kc zgo j0
  refine congrArg zL (j8 36 (fun c hc => ?_))
  unfold zjk zeZ j0
  rw [zbI (qw v _) 36 c hc]
  unfold zgr
  rw [zal]
  have := jd (sha m) c
  rw [show vA (sha m) c + (3 - vA (sha m) c) = 3 by omega]
end Go.AL
namespace Go.AL
open Go Go.RowKit
def byS (u : Int) : ByteArray := qq [.int .u8 (IntKind.u8.wrap u)]
theorem ky (u : Int) : (byS u).size = 1 := vi _
def va (s : ByteArray) (u : Int) : ByteArray := sha (s ++ byS u)
theorem kU (s : ByteArray) (u : Int) : (va s u).size = 32 := xA _
def zg4 (p : ByteArray) : ByteArray := zL (⟨#[0]⟩ ++ p)
def jf (a b : ByteArray) : ByteArray := zL (⟨#[1]⟩ ++ a ++ b)
def zeW (t : ByteArray) : ByteArray := sha (⟨#[2]⟩ ++ t)
def ktL (s : ByteArray) : Nat → Nat → ByteArray
  | 0, i => zg4 (kc (va s (i : Int)))
  | k + 1, i => jf (ktL s k (2 * i)) (ktL s k (2 * i + 1))
theorem zO (s : ByteArray) : ∀ k i, (ktL s k i).size = 16
  | 0, i => yH _
  | k + 1, i => yH _
def zU (s : ByteArray) (k n : Nat) : List ByteArray := (List.range n).map (ktL s k)
theorem yi (s : ByteArray) (k n : Nat) : (zU s k n).length = n := by simp [zU]
theorem vx (s : ByteArray) (k n : Nat) : zU s k (n + 1) = zU s k n ++ [ktL s k n] := by simp [zU, List.range_succ]
theorem zgA (s : ByteArray) (k n : Nat) {i : Nat} (h : i < n) : (zU s k n).getD i default = ktL s k i := by
  unfold zU
  rw [List.getD_eq_getElem?_getD, List.getElem?_map, List.getElem?_range h]; rfl
def ktP (s : ByteArray) : ByteArray := zeW (ktL s 3 0)
theorem qe (s : ByteArray) : (ktP s).size = 32 := xA _
def ktB (s : ByteArray) (u k : Nat) : ByteArray := ktL s k (u / 2 ^ k ^^^ 1)
def ktS (s : ByteArray) (u : Nat) (m : ByteArray) : ByteArray := byS (u : Int) ++ zeZ (va s (u : Int)) m ++ ktB s u 0 ++ ktB s u 1 ++ ktB s u 2
theorem zhq (s : ByteArray) (u : Nat) (m : ByteArray) : (ktS s u m).size = 625 := by
  unfold ktS ktB
  simp only [ByteArray.size_append, ky, qh, zO]
theorem zil (s : ByteArray) (u k : Nat) (hu : u < 8) (hk : k < 3) : ktL s (k + 1) (u / 2 ^ (k + 1)) = if u / 2 ^ k % 2 = 0 then jf (ktL s k (u / 2 ^ k)) (ktB s u k) else jf (ktB s u k) (ktL s k (u / 2 ^ k)) := by
  unfold ktB
  rw [ktL]
  have e : u / 2 ^ (k + 1) = u / 2 ^ k / 2 := by rw [Nat.pow_succ, Nat.div_div_eq_div_mul]
  rw [e]
  have hv : u / 2 ^ k < 8 := Nat.lt_of_le_of_lt (Nat.div_le_self _ _) hu
  generalize u / 2 ^ k = v at *
  have : v = 0 ∨ v = 1 ∨ v = 2 ∨ v = 3 ∨ v = 4 ∨ v = 5 ∨ v = 6 ∨ v = 7 := by omega
  rcases this with rfl | rfl | rfl | rfl | rfl | rfl | rfl | rfl <;> rfl
end Go.AL
namespace Go.AL
open Go Go.Proofs Go.RowKit
end Go.AL
