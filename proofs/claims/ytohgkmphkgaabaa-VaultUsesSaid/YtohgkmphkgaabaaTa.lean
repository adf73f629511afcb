/- What functions of the program and of the document answer, and the plain laws behind it; each under the conditions that its own theorem names. -/
import Derived.Test.YtohgkmphkgaabaaAl3
import Derived.Test.YtohgkmphkgaabaaProg
import Derived.Shelf.Strings.Repeat
set_option linter.unusedVariables false
namespace Go.AL
open Go Go.RowKit
inductive Nd where
  | mk (kind : Int) (b : Bool) (num : Int) (text : ByteArray) (names : List ByteArray) (items : List Nd)
  deriving Inhabited
mutual
def Nd.toT : Nd → T
  | .mk k b n t ns is => .agg [.int .i64 k, .bool b, .int .i64 n, .str t, .sl 1 (ns.map .str), .sl 6 (Nd.toTs is)]
def Nd.toTs : List Nd → List T
  | [] => []
  | x :: xs => x.toT :: Nd.toTs xs
end
def Nd.items : Nd → List Nd
  | .mk _ _ _ _ _ is => is
def Nd.names : Nd → List ByteArray
  | .mk _ _ _ _ ns _ => ns
inductive Nd.Ok : Nd → Prop
  | mk {k : Int} {b : Bool} {n : Int} {t : ByteArray} {ns : List ByteArray} {is : List Nd} : ns.length ≤ 8796093021952 → is.length ≤ 1599289640354 → (∀ x ∈ is, x.Ok) → Nd.Ok (.mk k b n t ns is)
section
variable {P : Program} {nt : Nat} {ops : Array Oper} {o : Oper} {rest : List Oper} {env : EnvL} {st : StO} {acc : List SD} {K : EnvL → StO → List SD → Prop} {d : Nat}
end
def Nd.fieldsOK : Nd → Bool
  | .mk k b n t ns is => (decide (k = 1) || !b) && (decide (k = 2) || decide (n = 0)) && (decide (k = 3) || decide (t = ⟨#[]⟩)) && (decide (k = 4) || decide (k = 5) || decide ((is.length : Int) = 0)) && (decide (k = 5) || decide ((ns.length : Int) = 0))
def zgz (V : ByteArray → Bool) (s : ByteArray) : Bool := decide ((s.size : Int) ≤ 65536) && V s
def inB (s : ByteArray) (l : List ByteArray) : Bool := l.any fun x => decide (s = x)
def zdD (tx : ByteArray → Bool) : List ByteArray → List ByteArray → Bool
  | _, [] => true
  | seen, s :: l => if inB s seen || !tx s then false else zdD tx (s :: seen) l
mutual
def Nd.validB (V : ByteArray → Bool) : Nd → Int → Bool
  | .mk k b n t ns is, d => !(decide (d < 1) || decide (k < 0) || decide (5 < k) || !(Nd.mk k b n t ns is).fieldsOK || !zgz V t || decide (256 < (is.length : Int))) && (!decide (k = 5) || (zdD (zgz V) [] ns && decide ((ns.length : Int) = is.length))) && !Nd.anyBad V is (d - 1)
def Nd.anyBad (V : ByteArray → Bool) : List Nd → Int → Bool
  | [], _ => false
  | x :: xs, d => !x.validB V d || Nd.anyBad V xs d
end
def Nd.kind : Nd → Int
  | .mk k _ _ _ _ _ => k
def Nd.bool : Nd → Bool
  | .mk _ b _ _ _ _ => b
def Nd.num : Nd → Int
  | .mk _ _ n _ _ _ => n
def Nd.text : Nd → ByteArray
  | .mk _ _ _ t _ _ => t
def Nd.zero : Nd := .mk 0 false 0 ⟨#[]⟩ [] []
def zgp (s : ByteArray) : List ByteArray → Int → Int
  | [], _ => -1
  | x :: xs, j => if s = x then j else zgp s xs (j + 1)
def Nd.place (n : Nd) (s : ByteArray) : Int := if n.kind = 5 then zgp s (n.names.take (min n.names.length n.items.length)) 0 else -1
def Nd.get (n : Nd) (s : ByteArray) : Nd × Bool := if n.place s < 0 then (Nd.zero, false) else (n.items.getD (n.place s).toNat default, true)
def Nd.set (n : Nd) (s : ByteArray) (v : Nd) : Nd :=
  if 0 ≤ n.place s then .mk n.kind n.bool n.num n.text n.names (n.items.set (n.place s).toNat v)
  else .mk n.kind n.bool n.num n.text (n.names ++ [s]) (n.items ++ [v])
def Nd.put (V : ByteArray → Bool) (n : Nd) (s : ByteArray) (v : Nd) : Nd × Int :=
  if n.kind = 5 ∧ n.validB V 8 = true ∧ (n.set s v).validB V 8 = true then (n.set s v, 0) else (Nd.zero, 1)
theorem zd6 (s : ByteArray) : ∀ (l : List ByteArray) (j : Int) (i : Nat), l.Nodup → l[i]? = some s → zgp s l j = j + i
  | [], j, i, _, h => by simp at h
  | x :: xs, j, 0, _, h => by
    simp only [List.getElem?_cons_zero, Option.some.injEq] at h
    simp [zgp, h]
  | x :: xs, j, i + 1, hn, h => by
    simp only [List.getElem?_cons_succ] at h
    have hm : s ∈ xs := List.mem_of_getElem? h
    have hx : s ≠ x := fun e => (List.nodup_cons.1 hn).1 (e ▸ hm)
    rw [zgp, if_neg hx, zd6 s xs (j + 1) i (List.nodup_cons.1 hn).2 h]
    omega
structure Dc where
  l : List Int
  k : Nat
def zhi (n m : Int) : Int := if m < 1 then 0 else n % m
def Dc.next (d : Dc) (n : Int) : Int × Dc := if (d.l.length : Int) ≤ d.k then (0, d) else (zhi (d.l.getD d.k 0) n, ⟨d.l, d.k + 1⟩)
def Dc.word (d : Dc) (l : List ByteArray) : ByteArray × Dc := (l.getD (d.next l.length).1.toNat default, (d.next l.length).2)
def eS : ByteArray := ⟨#[]⟩
def xS : ByteArray := ⟨#[120]⟩
structure VOk (V : ByteArray → Bool) : Prop where
  asc : ∀ s : ByteArray, (∀ b ∈ s.data.toList, b.toNat < 128) → V s = true
  app : ∀ s : ByteArray, V s = true → V (s ++ xS) = true
  odd : V ⟨#[195, 164, 226, 130, 172, 240, 159, 152, 128]⟩ = true
end Go.AL
set_option linter.unusedSimpArgs false
namespace Go.AL
open Go Go.RowKit
end Go.AL
set_option linter.unusedSimpArgs false
namespace Go.AL
open Go Go.RowKit
mutual
def Nd.same : Nd → Nd → Bool
  | .mk k b n t ns is, .mk k' b' n' t' ns' is' => decide (k = k') && decide (b = b') && decide (n = n') && decide (t = t') && decide (ns = ns') && Nd.sames is is'
def Nd.sames : List Nd → List Nd → Bool
  | [], [] => true
  | x :: xs, y :: ys => x.same y && Nd.sames xs ys
  | [], _ :: _ => false
  | _ :: _, [] => false
end
structure Nd.IsMap (m : Nd) : Prop where
  kind : m.kind = 5
  len : m.names.length = m.items.length
  nodup : m.names.Nodup
theorem Nd.IsMap.place_eq {m : Nd} (h : m.IsMap) (s : ByteArray) : m.place s = zgp s m.names 0 := by
  unfold Nd.place
  rw [if_pos h.kind, ← h.len, Nat.min_self, List.take_length]
theorem Nd.IsMap.place_at {m : Nd} (h : m.IsMap) {i : Nat} {s : ByteArray} (hi : m.names[i]? = some s) : m.place s = i := by
  rw [h.place_eq, zd6 s _ 0 i h.nodup hi]; omega
theorem Nd.IsMap.set {m : Nd} (h : m.IsMap) (s : ByteArray) (v : Nd) : (m.set s v).IsMap := by
  unfold Nd.set
  split
  · exact ⟨h.kind, by simpa [Nd.names, Nd.items] using h.len, h.nodup⟩
  · rename_i hp
    refine ⟨h.kind, by simp only [Nd.names, Nd.items, List.length_append, List.length_singleton]; have := h.len; simp only [Nd.names, Nd.items] at this; cases m; simpa using this, ?_⟩
    show (m.names ++ [s]).Nodup
    rw [List.nodup_append]
    refine ⟨h.nodup, by simp, fun a ha b hb => ?_⟩
    simp only [List.mem_singleton] at hb
    subst hb
    rintro rfl
    obtain ⟨i, hi⟩ := List.getElem?_of_mem ha
    have := h.place_at hi
    omega
def ofL (l : List UInt8) : ByteArray := ⟨l.toArray⟩
theorem vo (l : List UInt8) : (ofL l).data.toList = l := by simp [ofL]
theorem xl (l : List UInt8) : (ofL l).size = l.length := by simp [ofL, ByteArray.size]
theorem we (s : ByteArray) : ofL s.data.toList = s := by cases s; simp [ofL]
theorem yz (l : List UInt8) (a b : Nat) : (ofL l).extract a b = ofL ((l.drop a).take (b - a)) := by
  have h : ((ofL l).extract a b).data.toList = (ofL ((l.drop a).take (b - a))).data.toList := by
    rw [vo]; simp [ofL, ByteArray.data_extract]
  have := congrArg ofL h
  rwa [we, we] at this
def zbP : Nat → Nat → List UInt8
  | 0, _ => []
  | k + 1, n => UInt8.ofNat (n / 256 ^ k) :: zbP k n
theorem k7 : ∀ k n, (zbP k n).length = k
  | 0, n => rfl
  | k + 1, n => by simp [zbP, k7 k n]
def hdL (m n : Nat) : List UInt8 :=
  if n < 24 then [UInt8.ofNat (32 * m + n)] else if n < 256 then UInt8.ofNat (32 * m + 24) :: zbP 1 n
  else if n < 65536 then UInt8.ofNat (32 * m + 25) :: zbP 2 n else if n < 4294967296 then UInt8.ofNat (32 * m + 26) :: zbP 4 n
  else UInt8.ofNat (32 * m + 27) :: zbP 8 n
mutual
def Nd.cb : Nd → List UInt8
  | .mk k b n t ns is =>
    if k = 0 then hdL 7 22 else if k = 1 then hdL 7 (if b then 21 else 20) else if k = 2 then (if n < 0 then hdL 1 (-1 - n).toNat else hdL 0 n.toNat)
    else if k = 3 then hdL 3 t.size ++ t.data.toList else if k = 4 then hdL 4 is.length ++ Nd.cbs is else hdL 5 is.length ++ Nd.cbm ns is
def Nd.cbs : List Nd → List UInt8
  | [] => []
  | x :: xs => x.cb ++ Nd.cbs xs
def Nd.cbm : List ByteArray → List Nd → List UInt8
  | s :: ns, x :: xs => hdL 3 s.size ++ s.data.toList ++ x.cb ++ Nd.cbm ns xs
  | _, _ => []
end
structure Rs where
  s : ByteArray
  bad : Bool
def Rs.take (r : Rs) (n : Int) : ByteArray × Rs :=
  if r.bad = true ∨ n < 0 ∨ (r.s.size : Int) < n then (eS, ⟨r.s, true⟩) else (r.s.extract 0 n.toNat, ⟨r.s.extract n.toNat r.s.size, false⟩)
def Rs.byte (r : Rs) : Int × Rs := (if (r.take 1).1 = eS then 0 else bAt (r.take 1).1 0, (r.take 1).2)
def zfF (n : Int) (b : UInt8) : Int := n * 256 % 18446744073709551616 + b.toNat
def Rs.uint (r : Rs) (k : Int) : Int × Rs := ((r.take k).1.data.toList.foldl zfF 0, (r.take k).2)
def Rs.fits (r : Rs) (n : Int) : Int × Rs := if (r.s.size : Int) < n then (0, ⟨r.s, true⟩) else (n, r)
def jI (r : Rs) : (Int × Int) × Rs :=
  if r.byte.1 % 32 < 24 then ((r.byte.1 / 32, r.byte.1 % 32), r.byte.2)
  else if 27 < r.byte.1 % 32 then ((r.byte.1 / 32, 0), ⟨r.byte.2.s, true⟩)
  else ((r.byte.1 / 32, (r.byte.2.uint (2 ^ (r.byte.1 % 32 - 24).toNat)).1), (r.byte.2.uint (2 ^ (r.byte.1 % 32 - 24).toNat)).2)
def zf8 (r : Rs) (n : Int) : ByteArray × Rs := (r.fits n).2.take (r.fits n).1
def zfW (r : Rs) : ByteArray × Rs := zf8 (if (jI r).1.1 = 3 then (jI r).2 else ⟨(jI r).2.s, true⟩) (jI r).1.2
def zcg (f : Rs → Nd × Rs) (k : Int) : Nat → List ByteArray → List Nd → Rs → Nd × Rs
  | 0, ns, is, r => (.mk k false 0 eS ns is, r)
  | c + 1, ns, is, r => if r.bad = true then (.mk k false 0 eS ns is, r)
    else if k = 5 then zcg f k c (ns ++ [(zfW r).1]) (is ++ [(f (zfW r).2).1]) (f (zfW r).2).2
    else zcg f k c ns (is ++ [(f r).1]) (f r).2
def i64 (n : Int) : Int := IntKind.i64.wrap n
def zfH : Nat → Rs → Nd × Rs
  | 0, r => (Nd.zero, ⟨(jI r).2.s, true⟩)
  | d + 1, r =>
    let m := (jI r).1.1
    let n := (jI r).1.2
    let q := (jI r).2
    if m = 0 then (.mk 2 false (i64 n) eS [] [], q)
    else if m = 1 then (.mk 2 false (-1 - i64 n) eS [] [], q)
    else if m = 3 then (.mk 3 false 0 (zf8 q n).1 [] [], (zf8 q n).2)
    else if m = 4 then zcg (zfH d) 4 (q.fits n).1.toNat [] [] (q.fits n).2
    else if m = 5 then zcg (zfH d) 5 (q.fits n).1.toNat [] [] (q.fits n).2
    else if m = 7 ∧ (n = 21 ∨ n = 20) then (.mk 1 (decide (n = 21)) 0 eS [] [], q)
    else (Nd.zero, q)
inductive Nd.In : Nd → Prop
  | mk {k : Int} {b : Bool} {n : Int} {t : ByteArray} {ns : List ByteArray} {is : List Nd} : -9223372036854775808 ≤ n → n ≤ 9223372036854775807 → (∀ x ∈ is, x.In) → Nd.In (.mk k b n t ns is)
theorem zK (s : ByteArray) : s.data.toList.length = s.size := by rw [Array.length_toList]; rfl
theorem jT (s : ByteArray) (i : Int) : 0 ≤ bAt s i ∧ bAt s i < 256 := by
  unfold bAt
  have := (s.data.toList.getD i.toNat 0).toNat_lt
  omega
def zhg (V : ByteArray → Bool) (x : Nd) : ByteArray × Int := if x.validB V 8 = true then (if 65536 < x.cb.length then (eS, 3) else (ofL x.cb, 0)) else (eS, 1)
def zeZ (s : ByteArray) : Nd × Rs := zfH 8 ⟨s, false⟩
def zgR (V : ByteArray → Bool) (s : ByteArray) : Prop := (zeZ s).2.bad = false ∧ (zeZ s).2.s = eS ∧ (zeZ s).1.validB V 8 = true ∧ zhg V (zeZ s).1 = (s, 0)
instance (V : ByteArray → Bool) (s : ByteArray) : Decidable (zgR V s) := by unfold zgR; exact inferInstance
theorem zgd : Nd.zero.Ok := .mk (by simp) (by simp) (by simp)
def VGood (s : ByteArray) (p : Nat) (r : Nd × Int) : Prop := r.1.Ok ∧ -1 ≤ r.2 ∧ (r.2 ≠ -1 → (p : Int) < r.2 ∧ r.2 ≤ s.size ∧ (r.1.cb.length : Int) + p ≤ r.2 ∧ r.1.In)
theorem VGood.fail (s : ByteArray) (p : Nat) : VGood s p (Nd.zero, -1) := ⟨zgd, by decide, fun h => absurd rfl h⟩
def wx (a b : Int) : Int := IntKind.u32.wrap ((BitVec.ofInt 32 a ^^^ BitVec.ofInt 32 b).toNat : Int)
def wa (a b : Int) : Int := IntKind.u32.wrap ((BitVec.ofInt 32 a &&& BitVec.ofInt 32 b).toNat : Int)
def wo (a b : Int) : Int := IntKind.u32.wrap ((BitVec.ofInt 32 a ||| BitVec.ofInt 32 b).toNat : Int)
def wn (a : Int) : Int := IntKind.u32.wrap ((BitVec.ofInt 32 4294967295 ^^^ BitVec.ofInt 32 a).toNat : Int)
def wp (a b : Int) : Int := IntKind.u32.wrap (a + b)
def wr (a : Int) (n : Nat) : Int := a / 2 ^ n
def wl (a : Int) (n : Nat) : Int := IntKind.u32.wrap (a * 2 ^ n)
def rr (x : Int) (n : Nat) : Int := wo (wr x n) (wl x (32 - n))
def bL (p : List UInt8) (i : Nat) : Int := ((p.getD i 0).toNat : Int)
def vB (p : List UInt8) (t : Nat) : Int := wo (wo (wo (wl (bL p (4 * t)) 24) (wl (bL p (4 * t + 1)) 16)) (wl (bL p (4 * t + 2)) 8)) (bL p (4 * t + 3))
def zhh (x y u v : Int) : Int := wp (wp (wp (wx (wx (rr y 17) (rr y 19)) (wr y 10)) u) (wx (wx (rr x 7) (rr x 18)) (wr x 3))) v
structure H8 where
  a : Int
  b : Int
  c : Int
  d : Int
  e : Int
  f : Int
  g : Int
  h : Int
  deriving DecidableEq
def H8.l (v : H8) : List Int := [v.a, v.b, v.c, v.d, v.e, v.f, v.g, v.h]
def H8.t (v : H8) : List T := [.int .u32 v.a, .int .u32 v.b, .int .u32 v.c, .int .u32 v.d, .int .u32 v.e, .int .u32 v.f, .int .u32 v.g, .int .u32 v.h]
def rnd (k w : Int) (v : H8) : H8 :=
  let t1 := wp (wp (wp (wp v.h (wx (wx (rr v.e 6) (rr v.e 11)) (rr v.e 25))) (wx (wa v.e v.f) (wa (wn v.e) v.g))) k) w
  let t2 := wp (wx (wx (rr v.a 2) (rr v.a 13)) (rr v.a 22)) (wx (wx (wa v.a v.b) (wa v.a v.c)) (wa v.b v.c))
  ⟨wp t1 t2, v.a, v.b, v.c, wp v.d t1, v.e, v.f, v.g⟩
def y8 {α : Type} (f : Nat → α → α) : Nat → Nat → α → α
  | 0, _, a => a
  | c + 1, t, a => y8 f c (t + 1) (f t a)
def zbN : List Int := [
  0x428a2f98, 0x71374491, 0xb5c0fbcf, 0xe9b5dba5, 0x3956c25b, 0x59f111f1, 0x923f82a4, 0xab1c5ed5,
  0xd807aa98, 0x12835b01, 0x243185be, 0x550c7dc3, 0x72be5d74, 0x80deb1fe, 0x9bdc06a7, 0xc19bf174,
  0xe49b69c1, 0xefbe4786, 0x0fc19dc6, 0x240ca1cc, 0x2de92c6f, 0x4a7484aa, 0x5cb0a9dc, 0x76f988da,
  0x983e5152, 0xa831c66d, 0xb00327c8, 0xbf597fc7, 0xc6e00bf3, 0xd5a79147, 0x06ca6351, 0x14292967,
  0x27b70a85, 0x2e1b2138, 0x4d2c6dfc, 0x53380d13, 0x650a7354, 0x766a0abb, 0x81c2c92e, 0x92722c85,
  0xa2bfe8a1, 0xa81a664b, 0xc24b8b70, 0xc76c51a3, 0xd192e819, 0xd6990624, 0xf40e3585, 0x106aa070,
  0x19a4c116, 0x1e376c08, 0x2748774c, 0x34b0bcb5, 0x391c0cb3, 0x4ed8aa4a, 0x5b9cca4f, 0x682e6ff3,
  0x748f82ee, 0x78a5636f, 0x84c87814, 0x8cc70208, 0x90befffa, 0xa4506ceb, 0xbef9a3f7, 0xc67178f2]
def zcV : H8 := ⟨0x6a09e667, 0xbb67ae85, 0x3c6ef372, 0xa54ff53a, 0x510e527f, 0x9b05688c, 0x1f83d9ab, 0x5be0cd19⟩
def w0L : List Int := List.replicate 64 0
def vU (p : List UInt8) : List Int := y8 (fun t w => w.set t (vB p t)) 16 0 w0L
def xE (t : Nat) (w : List Int) : List Int := w.set t (zhh (w.getD (t - 15) 0) (w.getD (t - 2) 0) (w.getD (t - 7) 0) (w.getD (t - 16) 0))
def zad (w : List Int) : List Int := y8 xE 48 16 w
def jK (w : List Int) (v : H8) : H8 := y8 (fun t v => rnd (zbN.getD t 0) (w.getD t 0) v) 64 0 v
def qO (u v : H8) : H8 := ⟨wp u.a v.a, wp u.b v.b, wp u.c v.c, wp u.d v.d, wp u.e v.e, wp u.f v.f, wp u.g v.g, wp u.h v.h⟩
def zdh (h : H8) (p : List UInt8) : H8 := qO h (jK (zad (vU p)) h)
def xi : Nat → H8 → List UInt8 → H8
  | 0, h, _ => h
  | n + 1, h, p => xi n (zdh h p) (p.drop 64)
def w4 (x : Int) : List UInt8 := zbP 4 x.toNat
def H8.out (v : H8) : List UInt8 := w4 v.a ++ w4 v.b ++ w4 v.c ++ w4 v.d ++ w4 v.e ++ w4 v.f ++ w4 v.g ++ w4 v.h
def xV (left : List UInt8) (n : Nat) : List UInt8 := left ++ 128 :: (List.replicate ((119 - left.length % 64) % 64) 0 ++ zbP 8 (8 * n))
def zch (s : List UInt8) : List UInt8 := xV s s.length
def zgm (s : List UInt8) : List UInt8 := (xi ((zch s).length / 64) zcV (zch s)).out
def sha (s : ByteArray) : ByteArray := ofL (zgm s.data.toList)
theorem ky {α : Type} {f g : Nat → α → α} : ∀ (c t : Nat) (a : α), (∀ i, t ≤ i → i < t + c → ∀ x, f i x = g i x) → y8 f c t a = y8 g c t a
  | 0, _, _, _ => rfl
  | c + 1, t, a, h => by
    simp only [y8]
    rw [h t (Nat.le_refl _) (by omega)]
    exact ky c (t + 1) _ fun i h1 h2 => h i (by omega) (by omega)
theorem zbX {α : Type} {f : Nat → α → α} {Q : α → Prop} (hf : ∀ i x, Q x → Q (f i x)) : ∀ (c t : Nat) (a : α), Q a → Q (y8 f c t a)
  | 0, _, _, h => h
  | c + 1, t, a, h => zbX hf c (t + 1) _ (hf t a h)
theorem va {x y : List UInt8} {i : Nat} (h : i < x.length) : bL (x ++ y) i = bL x i := by
  unfold bL
  rw [List.getD_eq_getElem?_getD, List.getD_eq_getElem?_getD, List.getElem?_append_left h]
theorem zao {x y : List UInt8} {t : Nat} (hx : 64 ≤ x.length) (ht : t < 16) : vB (x ++ y) t = vB x t := by
  unfold vB
  rw [va (by omega), va (by omega), va (by omega), va (by omega)]
theorem zaF {x y : List UInt8} (hx : 64 ≤ x.length) : vU (x ++ y) = vU x :=
  ky 16 0 _ fun i _ h w => by rw [zao hx (by omega)]
theorem qC {h : H8} {x y : List UInt8} (hx : 64 ≤ x.length) : zdh h (x ++ y) = zdh h x := by
  unfold zdh; rw [zaF hx]
theorem zet (h : H8) (x : List UInt8) (n : Nat) (hx : 64 ≤ x.length) (hn : 64 ≤ n) : zdh h (x.take n) = zdh h x := by
  have h1 : 64 ≤ (x.take n).length := by rw [List.length_take]; omega
  rw [← qC (y := x.drop n) h1, List.take_append_drop]
theorem vL : ∀ (a b : Nat) (h : H8) (x y : List UInt8), x.length = 64 * a → xi (a + b) h (x ++ y) = xi b (xi a h x) y
  | 0, b, h, x, y, hx => by
    obtain rfl := List.eq_nil_of_length_eq_zero (by omega : x.length = 0)
    simp [xi]
  | a + 1, b, h, x, y, hx => by
    rw [show a + 1 + b = (a + b) + 1 by omega]
    simp only [xi]
    rw [qC (by omega), List.drop_append_of_le_length (by omega)]
    exact vL a b _ _ y (by rw [List.length_drop]; omega)
def H8.In (v : H8) : Prop := (0 ≤ v.a ∧ v.a < 4294967296) ∧ (0 ≤ v.b ∧ v.b < 4294967296) ∧ (0 ≤ v.c ∧ v.c < 4294967296) ∧ (0 ≤ v.d ∧ v.d < 4294967296) ∧ (0 ≤ v.e ∧ v.e < 4294967296) ∧ (0 ≤ v.f ∧ v.f < 4294967296) ∧ (0 ≤ v.g ∧ v.g < 4294967296) ∧ (0 ≤ v.h ∧ v.h < 4294967296)
theorem xo (a b : Int) : 0 ≤ wp a b ∧ wp a b < 4294967296 := by
  unfold wp
  simp only [IntKind.wrap, IntKind.bits, IntKind.signed, Bool.false_and, Bool.false_eq_true, if_false]
  omega
theorem zft (a b : Int) : wp a b = wp b a := by unfold wp; rw [Int.add_comm]
theorem ze6 (u v : H8) : (qO u v).In := ⟨xo _ _, xo _ _, xo _ _, xo _ _, xo _ _, xo _ _, xo _ _, xo _ _⟩
theorem zdd (u v : H8) : qO u v = qO v u := by unfold qO; simp only [zft]
theorem zdW : zcV.In := by unfold zcV H8.In; simp
theorem qb : ∀ (n : Nat) (h : H8) (p : List UInt8), h.In → (xi n h p).In
  | 0, _, _, hh => hh
  | n + 1, h, p, _ => qb n _ _ (ze6 _ _)
theorem zgS (x : Int) : (w4 x).length = 4 := k7 4 _
theorem zer (v : H8) : v.out.length = 32 := by simp [H8.out, zgS]
theorem ze4 (s : List UInt8) : (zgm s).length = 32 := zer _
theorem xm (s : ByteArray) : (sha s).size = 32 := by unfold sha; rw [xl, ze4]
theorem q9 (left : List UInt8) (n : Nat) : (xV left n).length = left.length + 9 + (119 - left.length % 64) % 64 := by
  simp only [xV, List.length_append, List.length_cons, List.length_replicate, k7]; omega
theorem zeT (s : List UInt8) : (zch s).length % 64 = 0 ∧ s.length + 9 ≤ (zch s).length ∧ (zch s).length ≤ s.length + 72 := by
  unfold zch; rw [q9]; omega
theorem qu {a b : Nat} (h : a = b) : List.replicate a (0 : UInt8) = List.replicate b 0 := by rw [h]
theorem zco (s : List UInt8) (w : Nat) (hw : w = s.length / 64 * 64) : zch s = s.take w ++ xV (s.drop w) s.length := by
  unfold zch xV
  rw [← List.append_assoc, List.take_append_drop]
  congr 2
  rw [List.length_drop, hw]
  congr 1
  exact qu (by omega)
theorem zcu (s : List UInt8) (w : Nat) (hw : w = s.length / 64 * 64) : zgm s = (xi ((xV (s.drop w) s.length).length / 64) (xi (w / 64) zcV (s.take w)) (xV (s.drop w) s.length)).out := by
  have hl : (s.take w).length = 64 * (w / 64) := by rw [List.length_take]; omega
  have h := zco s w hw
  unfold zgm
  have h2 : (zch s).length / 64 = w / 64 + (xV (s.drop w) s.length).length / 64 := by
    rw [h, List.length_append, hl]; omega
  rw [h2]
  conv => lhs; rw [h]
  rw [vL _ _ _ _ _ hl]
def zdf (f : Nat → ByteArray) : Nat → ByteArray
  | 0 => ⟨#[]⟩
  | j + 1 => zdf f j ++ f j
theorem kc {f : Nat → ByteArray} (hf : ∀ i, (f i).size = 16) : ∀ j, (zdf f j).size = 16 * j
  | 0 => rfl
  | j + 1 => by rw [zdf, ByteArray.size_append, kc hf j, hf j]; omega
theorem kT {f g : Nat → ByteArray} : ∀ j, (∀ i, i < j → f i = g i) → zdf f j = zdf g j
  | 0, _ => rfl
  | j + 1, h => by rw [zdf, zdf, kT j (fun i hi => h i (by omega)), h j (by omega)]
theorem jU {f : Nat → ByteArray} (hf : ∀ i, (f i).size = 16) : ∀ j c, c < j → (zdf f j).extract (16 * c) (16 * (c + 1)) = f c
  | 0, c, h => by omega
  | j + 1, c, h => by
    have hz := kc hf j
    have hj := hf j
    have hc := hf c
    rw [zdf]
    rcases Nat.lt_or_ge c j with h' | h'
    · have ih := jU hf j c h'
      rw [ByteArray.extract_append, ih, hz]
      have : (f j).extract (16 * c - 16 * j) (16 * (c + 1) - 16 * j) = ByteArray.empty := by
        apply ByteArray.size_eq_zero_iff.1
        rw [ByteArray.size_extract]; omega
      rw [this, ByteArray.append_empty]
    · obtain rfl : c = j := by omega
      rw [ByteArray.extract_append, hz]
      have e1 : (zdf f c).extract (16 * c) (16 * (c + 1)) = ByteArray.empty := by
        apply ByteArray.size_eq_zero_iff.1
        rw [ByteArray.size_extract]; omega
      rw [e1, ByteArray.empty_append, show 16 * c - 16 * c = 0 by omega, show 16 * (c + 1) - 16 * c = (f c).size by omega, ByteArray.extract_zero_size]
def zg2 (Y : ByteArray) (j : Nat) : Nat := (bAt Y ((j / 4 : Nat) : Int)).toNat / 2 ^ (6 - 2 * (j % 4)) % 4
theorem zeg (Y : ByteArray) (j : Nat) : zg2 Y j < 4 := Nat.mod_lt _ (by decide)
def y4 (Y : ByteArray) : Nat → Nat
  | 0 => 0
  | j + 1 => y4 Y j + 3 - zg2 Y j
theorem qj (Y : ByteArray) : ∀ j, y4 Y j ≤ 3 * j
  | 0 => Nat.le_refl _
  | j + 1 => by have := qj Y j; have := zeg Y j; rw [y4]; omega
def wz (Y : ByteArray) (j : Nat) : Nat := if j < 32 then zg2 Y j else y4 Y 32 / 2 ^ (2 * (35 - j)) % 4
theorem qN (Y : ByteArray) (j : Nat) : wz Y j < 4 := by
  unfold wz
  split
  · exact zeg _ _
  · exact Nat.mod_lt _ (by decide)
def zbs (Y : ByteArray) (j : Nat) : List T := (List.range j).map (fun i => T.int .i64 (wz Y i : Int))
theorem wX (Y : ByteArray) (j : Nat) : (zbs Y j).length = j := by simp [zbs]
theorem xg (Y : ByteArray) (j : Nat) : zbs Y (j + 1) = zbs Y j ++ [.int .i64 (wz Y j : Int)] := by simp [zbs, List.range_succ]
end Go.AL
namespace Go.AL
open Go Go.Proofs
instance : TyU Try.prog 0 (TypeDesc.tuple #[]) := ⟨Try.underlying0⟩
instance : TyI Try.prog 0 1 0 (Value.tuple [].toArray) := ⟨by kernel_rfl⟩
instance : TyU Try.prog 1 (TypeDesc.func #[] #[] false) := ⟨Try.underlying1⟩
instance : TyI Try.prog 1 1 8 (Value.nilFunc) := ⟨by kernel_rfl⟩
instance : TyU Try.prog 2 (TypeDesc.int IntKind.i64) := ⟨Try.underlying2⟩
instance : TyI Try.prog 2 1 8 (Value.int IntKind.i64 (0)) := ⟨by kernel_rfl⟩
instance : TyU Try.prog 3 (TypeDesc.int IntKind.i64) := ⟨Try.underlying3⟩
instance : TyI Try.prog 3 1 8 (Value.int IntKind.i64 (0)) := ⟨by kernel_rfl⟩
instance : TyU Try.prog 4 TypeDesc.bool := ⟨Try.underlying4⟩
instance : TyI Try.prog 4 1 1 (Value.bool false) := ⟨by kernel_rfl⟩
instance : TyU Try.prog 5 (TypeDesc.int IntKind.u8) := ⟨Try.underlying5⟩
instance : TyI Try.prog 5 1 1 (Value.int IntKind.u8 (0)) := ⟨by kernel_rfl⟩
instance : TyU Try.prog 6 (TypeDesc.int IntKind.u8) := ⟨Try.underlying6⟩
instance : TyI Try.prog 6 1 1 (Value.int IntKind.u8 (0)) := ⟨by kernel_rfl⟩
instance : TyU Try.prog 7 (TypeDesc.struct #[{ name := "x", type := 2, offset := 0, embedded := false, tag := "", pkgPath := "runtime", byteOffset := 0 }, { name := "y", type := 3, offset := 1, embedded := false, tag := "", pkgPath := "runtime", byteOffset := 8 }, { name := "signed", type := 4, offset := 2, embedded := false, tag := "", pkgPath := "runtime", byteOffset := 16 }, { name := "code", type := 6, offset := 3, embedded := false, tag := "", pkgPath := "runtime", byteOffset := 17 }]) := ⟨Try.underlying7⟩
instance : TyI Try.prog 7 4 24 (Value.agg [Value.int IntKind.i64 (0), Value.int IntKind.i64 (0), Value.bool false, Value.int IntKind.u8 (0)].toArray) := ⟨by kernel_rfl⟩
instance : TyU Try.prog 8 (TypeDesc.struct #[{ name := "x", type := 2, offset := 0, embedded := false, tag := "", pkgPath := "runtime", byteOffset := 0 }, { name := "y", type := 3, offset := 1, embedded := false, tag := "", pkgPath := "runtime", byteOffset := 8 }, { name := "signed", type := 4, offset := 2, embedded := false, tag := "", pkgPath := "runtime", byteOffset := 16 }, { name := "code", type := 6, offset := 3, embedded := false, tag := "", pkgPath := "runtime", byteOffset := 17 }]) := ⟨Try.underlying8⟩
instance : TyI Try.prog 8 4 24 (Value.agg [Value.int IntKind.i64 (0), Value.int IntKind.i64 (0), Value.bool false, Value.int IntKind.u8 (0)].toArray) := ⟨by kernel_rfl⟩
instance : TyU Try.prog 9 TypeDesc.string := ⟨Try.underlying9⟩
instance : TyI Try.prog 9 1 16 (Value.string ⟨#[]⟩) := ⟨by kernel_rfl⟩
instance : TyU Try.prog 10 TypeDesc.string := ⟨Try.underlying10⟩
instance : TyI Try.prog 10 1 16 (Value.string ⟨#[]⟩) := ⟨by kernel_rfl⟩
instance : TyU Try.prog 11 TypeDesc.string := ⟨Try.underlying11⟩
instance : TyI Try.prog 11 1 16 (Value.string ⟨#[]⟩) := ⟨by kernel_rfl⟩
instance : TyU Try.prog 12 (TypeDesc.int IntKind.u64) := ⟨Try.underlying12⟩
instance : TyI Try.prog 12 1 8 (Value.int IntKind.u64 (0)) := ⟨by kernel_rfl⟩
instance : TyU Try.prog 13 (TypeDesc.struct #[{ name := "msg", type := 9, offset := 0, embedded := false, tag := "", pkgPath := "runtime", byteOffset := 0 }, { name := "addr", type := 12, offset := 1, embedded := false, tag := "", pkgPath := "runtime", byteOffset := 16 }]) := ⟨Try.underlying13⟩
instance : TyI Try.prog 13 2 24 (Value.agg [Value.string ⟨#[]⟩, Value.int IntKind.u64 (0)].toArray) := ⟨by kernel_rfl⟩
instance : TyU Try.prog 14 (TypeDesc.struct #[{ name := "msg", type := 9, offset := 0, embedded := false, tag := "", pkgPath := "runtime", byteOffset := 0 }, { name := "addr", type := 12, offset := 1, embedded := false, tag := "", pkgPath := "runtime", byteOffset := 16 }]) := ⟨Try.underlying14⟩
instance : TyI Try.prog 14 2 24 (Value.agg [Value.string ⟨#[]⟩, Value.int IntKind.u64 (0)].toArray) := ⟨by kernel_rfl⟩
instance : TyU Try.prog 15 (TypeDesc.pointer 152) := ⟨Try.underlying15⟩
instance : TyI Try.prog 15 1 8 (Value.pointer none) := ⟨by kernel_rfl⟩
instance : TyU Try.prog 16 (TypeDesc.pointer 155) := ⟨Try.underlying16⟩
instance : TyI Try.prog 16 1 8 (Value.pointer none) := ⟨by kernel_rfl⟩
instance : TyU Try.prog 17 (TypeDesc.pointer 162) := ⟨Try.underlying17⟩
instance : TyI Try.prog 17 1 8 (Value.pointer none) := ⟨by kernel_rfl⟩
instance : TyU Try.prog 18 (TypeDesc.struct #[{ name := "typ", type := 17, offset := 0, embedded := false, tag := "", pkgPath := "internal/runtime/maps", byteOffset := 0 }]) := ⟨Try.underlying18⟩
instance : TyI Try.prog 18 1 8 (Value.agg [Value.pointer none].toArray) := ⟨by kernel_rfl⟩
instance : TyU Try.prog 19 (TypeDesc.struct #[{ name := "typ", type := 17, offset := 0, embedded := false, tag := "", pkgPath := "internal/runtime/maps", byteOffset := 0 }]) := ⟨Try.underlying19⟩
instance : TyI Try.prog 19 1 8 (Value.agg [Value.pointer none].toArray) := ⟨by kernel_rfl⟩
instance : TyU Try.prog 20 (TypeDesc.interface #[]) := ⟨Try.underlying20⟩
instance : TyI Try.prog 20 1 16 (Value.nilIface) := ⟨by kernel_rfl⟩
instance : TyU Try.prog 21 (TypeDesc.int IntKind.i32) := ⟨Try.underlying21⟩
instance : TyI Try.prog 21 1 4 (Value.int IntKind.i32 (0)) := ⟨by kernel_rfl⟩
instance : TyU Try.prog 22 (TypeDesc.func #[3, 3] #[3] false) := ⟨Try.underlying22⟩
instance : TyI Try.prog 22 1 8 (Value.nilFunc) := ⟨by kernel_rfl⟩
instance : TyU Try.prog 23 (TypeDesc.tuple #[9, 4]) := ⟨Try.underlying23⟩
instance : TyI Try.prog 23 1 0 (Value.tuple [Value.string ⟨#[]⟩, Value.bool false].toArray) := ⟨by kernel_rfl⟩
instance : TyU Try.prog 24 (TypeDesc.func #[3] #[9, 4] false) := ⟨Try.underlying24⟩
instance : TyI Try.prog 24 1 8 (Value.nilFunc) := ⟨by kernel_rfl⟩
instance : TyU Try.prog 25 (TypeDesc.func #[3] #[3] false) := ⟨Try.underlying25⟩
instance : TyI Try.prog 25 1 8 (Value.nilFunc) := ⟨by kernel_rfl⟩
instance : TyU Try.prog 26 (TypeDesc.func #[3, 9] #[9] false) := ⟨Try.underlying26⟩
instance : TyI Try.prog 26 1 8 (Value.nilFunc) := ⟨by kernel_rfl⟩
instance : TyU Try.prog 27 (TypeDesc.slice 5) := ⟨Try.underlying27⟩
instance : TyI Try.prog 27 1 24 (Value.slice none 0 0) := ⟨by kernel_rfl⟩
instance : TyU Try.prog 28 (TypeDesc.func #[] #[4] false) := ⟨Try.underlying28⟩
instance : TyI Try.prog 28 1 8 (Value.nilFunc) := ⟨by kernel_rfl⟩
instance : TyU Try.prog 29 (TypeDesc.func #[3, 3] #[4] false) := ⟨Try.underlying29⟩
instance : TyI Try.prog 29 1 8 (Value.nilFunc) := ⟨by kernel_rfl⟩
instance : TyU Try.prog 30 (TypeDesc.int IntKind.u16) := ⟨Try.underlying30⟩
instance : TyI Try.prog 30 1 2 (Value.int IntKind.u16 (0)) := ⟨by kernel_rfl⟩
instance : TyU Try.prog 31 (TypeDesc.slice 9) := ⟨Try.underlying31⟩
instance : TyI Try.prog 31 1 24 (Value.slice none 0 0) := ⟨by kernel_rfl⟩
instance : TyU Try.prog 32 (TypeDesc.int IntKind.i64) := ⟨Try.underlying32⟩
instance : TyI Try.prog 32 1 8 (Value.int IntKind.i64 (0)) := ⟨by kernel_rfl⟩
instance : TyU Try.prog 33 (TypeDesc.tuple #[9, 32]) := ⟨Try.underlying33⟩
instance : TyI Try.prog 33 1 0 (Value.tuple [Value.string ⟨#[]⟩, Value.int IntKind.i64 (0)].toArray) := ⟨by kernel_rfl⟩
instance : TyU Try.prog 34 (TypeDesc.func #[9] #[9, 32] false) := ⟨Try.underlying34⟩
instance : TyI Try.prog 34 1 8 (Value.nilFunc) := ⟨by kernel_rfl⟩
instance : TyU Try.prog 35 (TypeDesc.func #[9] #[9] false) := ⟨Try.underlying35⟩
instance : TyI Try.prog 35 1 8 (Value.nilFunc) := ⟨by kernel_rfl⟩
instance : TyU Try.prog 36 (TypeDesc.func #[9, 30] #[4] false) := ⟨Try.underlying36⟩
instance : TyI Try.prog 36 1 8 (Value.nilFunc) := ⟨by kernel_rfl⟩
instance : TyU Try.prog 37 (TypeDesc.int IntKind.u64) := ⟨Try.underlying37⟩
instance : TyI Try.prog 37 1 8 (Value.int IntKind.u64 (0)) := ⟨by kernel_rfl⟩
instance : TyU Try.prog 38 (TypeDesc.func #[30, 5] #[4] false) := ⟨Try.underlying38⟩
instance : TyI Try.prog 38 1 8 (Value.nilFunc) := ⟨by kernel_rfl⟩
instance : TyU Try.prog 39 (TypeDesc.func #[9, 9] #[9] false) := ⟨Try.underlying39⟩
instance : TyI Try.prog 39 1 8 (Value.nilFunc) := ⟨by kernel_rfl⟩
instance : TyU Try.prog 40 (TypeDesc.func #[31] #[9] false) := ⟨Try.underlying40⟩
instance : TyI Try.prog 40 1 8 (Value.nilFunc) := ⟨by kernel_rfl⟩
instance : TyU Try.prog 41 (TypeDesc.func #[9, 9, 31] #[4] false) := ⟨Try.underlying41⟩
instance : TyI Try.prog 41 1 8 (Value.nilFunc) := ⟨by kernel_rfl⟩
instance : TyU Try.prog 42 (TypeDesc.slice 3) := ⟨Try.underlying42⟩
instance : TyI Try.prog 42 1 24 (Value.slice none 0 0) := ⟨by kernel_rfl⟩
instance : TyU Try.prog 43 (TypeDesc.func #[9] #[42] false) := ⟨Try.underlying43⟩
instance : TyI Try.prog 43 1 8 (Value.nilFunc) := ⟨by kernel_rfl⟩
instance : TyU Try.prog 44 (TypeDesc.func #[9, 3, 3] #[9] false) := ⟨Try.underlying44⟩
instance : TyI Try.prog 44 1 8 (Value.nilFunc) := ⟨by kernel_rfl⟩
instance : TyU Try.prog 45 (TypeDesc.func #[9, 3] #[9] false) := ⟨Try.underlying45⟩
instance : TyI Try.prog 45 1 8 (Value.nilFunc) := ⟨by kernel_rfl⟩
instance : TyU Try.prog 46 (TypeDesc.func #[9, 9] #[9, 32] false) := ⟨Try.underlying46⟩
instance : TyI Try.prog 46 1 8 (Value.nilFunc) := ⟨by kernel_rfl⟩
instance : TyU Try.prog 47 (TypeDesc.func #[9, 9, 9, 3, 3, 3, 3] #[4] false) := ⟨Try.underlying47⟩
instance : TyI Try.prog 47 1 8 (Value.nilFunc) := ⟨by kernel_rfl⟩
instance : TyU Try.prog 48 (TypeDesc.func #[9, 9] #[4] false) := ⟨Try.underlying48⟩
instance : TyI Try.prog 48 1 8 (Value.nilFunc) := ⟨by kernel_rfl⟩
instance : TyU Try.prog 49 (TypeDesc.func #[42] #[4] false) := ⟨Try.underlying49⟩
instance : TyI Try.prog 49 1 8 (Value.nilFunc) := ⟨by kernel_rfl⟩
instance : TyU Try.prog 50 (TypeDesc.struct #[{ name := "Bytes", type := 9, offset := 0, embedded := false, tag := "", pkgPath := "", byteOffset := 0 }]) := ⟨Try.underlying50⟩
instance : TyI Try.prog 50 1 16 (Value.agg [Value.string ⟨#[]⟩].toArray) := ⟨by kernel_rfl⟩
instance : TyU Try.prog 51 (TypeDesc.struct #[{ name := "Bytes", type := 9, offset := 0, embedded := false, tag := "", pkgPath := "", byteOffset := 0 }]) := ⟨Try.underlying51⟩
instance : TyI Try.prog 51 1 16 (Value.agg [Value.string ⟨#[]⟩].toArray) := ⟨by kernel_rfl⟩
instance : TyU Try.prog 52 (TypeDesc.tuple #[51, 31]) := ⟨Try.underlying52⟩
instance : TyI Try.prog 52 1 0 (Value.tuple { toList := [Value.agg [Value.string ⟨#[]⟩].toArray, Value.slice none 0 0] }) := ⟨by kernel_rfl⟩
instance : TyU Try.prog 53 (TypeDesc.func #[54] #[51, 31] false) := ⟨Try.underlying53⟩
instance : TyI Try.prog 53 1 8 (Value.nilFunc) := ⟨by kernel_rfl⟩
instance : TyU Try.prog 54 (TypeDesc.pointer 113) := ⟨Try.underlying54⟩
instance : TyI Try.prog 54 1 8 (Value.pointer none) := ⟨by kernel_rfl⟩
instance : TyU Try.prog 55 (TypeDesc.func #[42] #[54] false) := ⟨Try.underlying55⟩
instance : TyI Try.prog 55 1 8 (Value.nilFunc) := ⟨by kernel_rfl⟩
instance : TyU Try.prog 56 (TypeDesc.func #[51, 3, 9] #[51] false) := ⟨Try.underlying56⟩
instance : TyI Try.prog 56 1 8 (Value.nilFunc) := ⟨by kernel_rfl⟩
instance : TyU Try.prog 57 (TypeDesc.tuple #[31, 3]) := ⟨Try.underlying57⟩
instance : TyI Try.prog 57 1 0 (Value.tuple [Value.slice none 0 0, Value.int IntKind.i64 (0)].toArray) := ⟨by kernel_rfl⟩
instance : TyU Try.prog 58 (TypeDesc.func #[51] #[31, 3] false) := ⟨Try.underlying58⟩
instance : TyI Try.prog 58 1 8 (Value.nilFunc) := ⟨by kernel_rfl⟩
instance : TyU Try.prog 59 (TypeDesc.func #[31, 31] #[4] false) := ⟨Try.underlying59⟩
instance : TyI Try.prog 59 1 8 (Value.nilFunc) := ⟨by kernel_rfl⟩
instance : TyU Try.prog 60 (TypeDesc.tuple #[51, 32]) := ⟨Try.underlying60⟩
instance : TyI Try.prog 60 1 0 (Value.tuple { toList := [Value.agg [Value.string ⟨#[]⟩].toArray, Value.int IntKind.i64 (0)] }) := ⟨by kernel_rfl⟩
instance : TyU Try.prog 61 (TypeDesc.func #[51, 9] #[51, 32] false) := ⟨Try.underlying61⟩
instance : TyI Try.prog 61 1 8 (Value.nilFunc) := ⟨by kernel_rfl⟩
instance : TyU Try.prog 62 (TypeDesc.func #[51] #[51] false) := ⟨Try.underlying62⟩
instance : TyI Try.prog 62 1 8 (Value.nilFunc) := ⟨by kernel_rfl⟩
instance : TyU Try.prog 63 (TypeDesc.func #[42, 5, 9] #[4] false) := ⟨Try.underlying63⟩
instance : TyI Try.prog 63 1 8 (Value.nilFunc) := ⟨by kernel_rfl⟩
instance : TyU Try.prog 64 (TypeDesc.func #[42, 9, 30] #[4] false) := ⟨Try.underlying64⟩
instance : TyI Try.prog 64 1 8 (Value.nilFunc) := ⟨by kernel_rfl⟩
instance : TyU Try.prog 65 (TypeDesc.struct #[{ name := "Seed", type := 9, offset := 0, embedded := false, tag := "", pkgPath := "", byteOffset := 0 }, { name := "Present", type := 3, offset := 1, embedded := false, tag := "", pkgPath := "", byteOffset := 16 }, { name := "Count", type := 3, offset := 2, embedded := false, tag := "", pkgPath := "", byteOffset := 24 }, { name := "NextCount", type := 3, offset := 3, embedded := false, tag := "", pkgPath := "", byteOffset := 32 }, { name := "Used", type := 42, offset := 4, embedded := false, tag := "", pkgPath := "", byteOffset := 40 }]) := ⟨Try.underlying65⟩
instance : TyI Try.prog 65 5 64 (Value.agg [Value.string ⟨#[]⟩, Value.int IntKind.i64 (0), Value.int IntKind.i64 (0), Value.int IntKind.i64 (0), Value.slice none 0 0].toArray) := ⟨by kernel_rfl⟩
instance : TyU Try.prog 66 (TypeDesc.struct #[{ name := "Seed", type := 9, offset := 0, embedded := false, tag := "", pkgPath := "", byteOffset := 0 }, { name := "Present", type := 3, offset := 1, embedded := false, tag := "", pkgPath := "", byteOffset := 16 }, { name := "Count", type := 3, offset := 2, embedded := false, tag := "", pkgPath := "", byteOffset := 24 }, { name := "NextCount", type := 3, offset := 3, embedded := false, tag := "", pkgPath := "", byteOffset := 32 }, { name := "Used", type := 42, offset := 4, embedded := false, tag := "", pkgPath := "", byteOffset := 40 }]) := ⟨Try.underlying66⟩
instance : TyI Try.prog 66 5 64 (Value.agg [Value.string ⟨#[]⟩, Value.int IntKind.i64 (0), Value.int IntKind.i64 (0), Value.int IntKind.i64 (0), Value.slice none 0 0].toArray) := ⟨by kernel_rfl⟩
instance : TyU Try.prog 67 (TypeDesc.tuple #[66, 32]) := ⟨Try.underlying67⟩
instance : TyI Try.prog 67 1 0 (Value.tuple { toList := [Value.agg [Value.string ⟨#[]⟩, Value.int IntKind.i64 (0), Value.int IntKind.i64 (0), Value.int IntKind.i64 (0), Value.slice none 0 0].toArray, Value.int IntKind.i64 (0)] }) := ⟨by kernel_rfl⟩
instance : TyU Try.prog 68 (TypeDesc.func #[9, 3, 3] #[66, 32] false) := ⟨Try.underlying68⟩
instance : TyI Try.prog 68 1 8 (Value.nilFunc) := ⟨by kernel_rfl⟩
instance : TyU Try.prog 69 (TypeDesc.func #[5] #[9] false) := ⟨Try.underlying69⟩
instance : TyI Try.prog 69 1 8 (Value.nilFunc) := ⟨by kernel_rfl⟩
instance : TyU Try.prog 70 (TypeDesc.array 8 4) := ⟨Try.underlying70⟩
instance : TyI Try.prog 70 8 8 (Value.agg [Value.bool false, Value.bool false, Value.bool false, Value.bool false, Value.bool false, Value.bool false, Value.bool false, Value.bool false].toArray) := ⟨by kernel_rfl⟩
instance : TyU Try.prog 71 (TypeDesc.slice 75) := ⟨Try.underlying71⟩
instance : TyI Try.prog 71 1 24 (Value.slice none 0 0) := ⟨by kernel_rfl⟩
instance : TyU Try.prog 72 (TypeDesc.tuple #[71, 66, 32]) := ⟨Try.underlying72⟩
instance : TyI Try.prog 72 1 0 (Value.tuple { toList := [Value.slice none 0 0, Value.agg [Value.string ⟨#[]⟩, Value.int IntKind.i64 (0), Value.int IntKind.i64 (0), Value.int IntKind.i64 (0), Value.slice none 0 0].toArray, Value.int IntKind.i64 (0)] }) := ⟨by kernel_rfl⟩
instance : TyU Try.prog 73 (TypeDesc.func #[66, 9] #[71, 66, 32] false) := ⟨Try.underlying73⟩
instance : TyI Try.prog 73 1 8 (Value.nilFunc) := ⟨by kernel_rfl⟩
instance : TyU Try.prog 74 (TypeDesc.struct #[{ name := "Index", type := 3, offset := 0, embedded := false, tag := "", pkgPath := "", byteOffset := 0 }, { name := "Raw", type := 9, offset := 1, embedded := false, tag := "", pkgPath := "", byteOffset := 8 }]) := ⟨Try.underlying74⟩
instance : TyI Try.prog 74 2 24 (Value.agg [Value.int IntKind.i64 (0), Value.string ⟨#[]⟩].toArray) := ⟨by kernel_rfl⟩
instance : TyU Try.prog 75 (TypeDesc.struct #[{ name := "Index", type := 3, offset := 0, embedded := false, tag := "", pkgPath := "", byteOffset := 0 }, { name := "Raw", type := 9, offset := 1, embedded := false, tag := "", pkgPath := "", byteOffset := 8 }]) := ⟨Try.underlying75⟩
instance : TyI Try.prog 75 2 24 (Value.agg [Value.int IntKind.i64 (0), Value.string ⟨#[]⟩].toArray) := ⟨by kernel_rfl⟩
instance : TyU Try.prog 76 (TypeDesc.func #[66, 3] #[66, 32] false) := ⟨Try.underlying76⟩
instance : TyI Try.prog 76 1 8 (Value.nilFunc) := ⟨by kernel_rfl⟩
instance : TyU Try.prog 77 (TypeDesc.func #[5, 9] #[4] false) := ⟨Try.underlying77⟩
instance : TyI Try.prog 77 1 8 (Value.nilFunc) := ⟨by kernel_rfl⟩
instance : TyU Try.prog 78 (TypeDesc.struct #[{ name := "code", type := 9, offset := 0, embedded := false, tag := "", pkgPath := "keyevent/primitive", byteOffset := 0 }, { name := "raw", type := 3, offset := 1, embedded := false, tag := "", pkgPath := "keyevent/primitive", byteOffset := 16 }]) := ⟨Try.underlying78⟩
instance : TyI Try.prog 78 2 24 (Value.agg [Value.string ⟨#[]⟩, Value.int IntKind.i64 (0)].toArray) := ⟨by kernel_rfl⟩
instance : TyU Try.prog 79 (TypeDesc.struct #[{ name := "code", type := 9, offset := 0, embedded := false, tag := "", pkgPath := "keyevent/primitive", byteOffset := 0 }, { name := "raw", type := 3, offset := 1, embedded := false, tag := "", pkgPath := "keyevent/primitive", byteOffset := 16 }]) := ⟨Try.underlying79⟩
instance : TyI Try.prog 79 2 24 (Value.agg [Value.string ⟨#[]⟩, Value.int IntKind.i64 (0)].toArray) := ⟨by kernel_rfl⟩
instance : TyU Try.prog 80 (TypeDesc.tuple #[79, 4]) := ⟨Try.underlying80⟩
instance : TyI Try.prog 80 1 0 (Value.tuple { toList := [Value.agg [Value.string ⟨#[]⟩, Value.int IntKind.i64 (0)].toArray, Value.bool false] }) := ⟨by kernel_rfl⟩
instance : TyU Try.prog 81 (TypeDesc.map 3 79) := ⟨Try.underlying81⟩
instance : TyI Try.prog 81 1 8 (Value.map none) := ⟨by kernel_rfl⟩
instance : TyU Try.prog 82 (TypeDesc.func #[] #[81] false) := ⟨Try.underlying82⟩
instance : TyI Try.prog 82 1 8 (Value.nilFunc) := ⟨by kernel_rfl⟩
instance : TyU Try.prog 83 (TypeDesc.func #[] #[3] false) := ⟨Try.underlying83⟩
instance : TyI Try.prog 83 1 8 (Value.nilFunc) := ⟨by kernel_rfl⟩
instance : TyU Try.prog 84 (TypeDesc.func #[86] #[9, 32] false) := ⟨Try.underlying84⟩
instance : TyI Try.prog 84 1 8 (Value.nilFunc) := ⟨by kernel_rfl⟩
instance : TyU Try.prog 85 (TypeDesc.struct #[{ name := "Code", type := 3, offset := 0, embedded := false, tag := "", pkgPath := "", byteOffset := 0 }, { name := "Raw", type := 9, offset := 1, embedded := false, tag := "", pkgPath := "", byteOffset := 8 }]) := ⟨Try.underlying85⟩
instance : TyI Try.prog 85 2 24 (Value.agg [Value.int IntKind.i64 (0), Value.string ⟨#[]⟩].toArray) := ⟨by kernel_rfl⟩
instance : TyU Try.prog 86 (TypeDesc.struct #[{ name := "Code", type := 3, offset := 0, embedded := false, tag := "", pkgPath := "", byteOffset := 0 }, { name := "Raw", type := 9, offset := 1, embedded := false, tag := "", pkgPath := "", byteOffset := 8 }]) := ⟨Try.underlying86⟩
instance : TyI Try.prog 86 2 24 (Value.agg [Value.int IntKind.i64 (0), Value.string ⟨#[]⟩].toArray) := ⟨by kernel_rfl⟩
instance : TyU Try.prog 87 (TypeDesc.int IntKind.u32) := ⟨Try.underlying87⟩
instance : TyI Try.prog 87 1 4 (Value.int IntKind.u32 (0)) := ⟨by kernel_rfl⟩
instance : TyU Try.prog 88 (TypeDesc.array 8 87) := ⟨Try.underlying88⟩
instance : TyI Try.prog 88 8 32 (Value.agg [Value.int IntKind.u32 (0), Value.int IntKind.u32 (0), Value.int IntKind.u32 (0), Value.int IntKind.u32 (0), Value.int IntKind.u32 (0), Value.int IntKind.u32 (0), Value.int IntKind.u32 (0), Value.int IntKind.u32 (0)].toArray) := ⟨by kernel_rfl⟩
instance : TyU Try.prog 89 (TypeDesc.array 8 87) := ⟨Try.underlying89⟩
instance : TyI Try.prog 89 8 32 (Value.agg [Value.int IntKind.u32 (0), Value.int IntKind.u32 (0), Value.int IntKind.u32 (0), Value.int IntKind.u32 (0), Value.int IntKind.u32 (0), Value.int IntKind.u32 (0), Value.int IntKind.u32 (0), Value.int IntKind.u32 (0)].toArray) := ⟨by kernel_rfl⟩
instance : TyU Try.prog 90 (TypeDesc.func #[] #[89] false) := ⟨Try.underlying90⟩
instance : TyI Try.prog 90 1 8 (Value.nilFunc) := ⟨by kernel_rfl⟩
instance : TyU Try.prog 91 (TypeDesc.pointer 96) := ⟨Try.underlying91⟩
instance : TyI Try.prog 91 1 8 (Value.pointer none) := ⟨by kernel_rfl⟩
instance : TyU Try.prog 92 (TypeDesc.func #[] #[91] false) := ⟨Try.underlying92⟩
instance : TyI Try.prog 92 1 8 (Value.nilFunc) := ⟨by kernel_rfl⟩
instance : TyU Try.prog 93 (TypeDesc.func #[9, 91] #[] false) := ⟨Try.underlying93⟩
instance : TyI Try.prog 93 1 8 (Value.nilFunc) := ⟨by kernel_rfl⟩
instance : TyU Try.prog 94 (TypeDesc.array 32 5) := ⟨Try.underlying94⟩
instance : TyI Try.prog 94 32 32 (Value.agg [Value.int IntKind.u8 (0), Value.int IntKind.u8 (0), Value.int IntKind.u8 (0), Value.int IntKind.u8 (0), Value.int IntKind.u8 (0), Value.int IntKind.u8 (0), Value.int IntKind.u8 (0), Value.int IntKind.u8 (0), Value.int IntKind.u8 (0), Value.int IntKind.u8 (0), Value.int IntKind.u8 (0), Value.int IntKind.u8 (0), Value.int IntKind.u8 (0), Value.int IntKind.u8 (0), Value.int IntKind.u8 (0), Value.int IntKind.u8 (0), Value.int IntKind.u8 (0), Value.int IntKind.u8 (0), Value.int IntKind.u8 (0), Value.int IntKind.u8 (0), Value.int IntKind.u8 (0), Value.int IntKind.u8 (0), Value.int IntKind.u8 (0), Value.int IntKind.u8 (0), Value.int IntKind.u8 (0), Value.int IntKind.u8 (0), Value.int IntKind.u8 (0), Value.int IntKind.u8 (0), Value.int IntKind.u8 (0), Value.int IntKind.u8 (0), Value.int IntKind.u8 (0), Value.int IntKind.u8 (0)].toArray) := ⟨by kernel_rfl⟩
instance : TyU Try.prog 95 (TypeDesc.func #[] #[88] false) := ⟨Try.underlying95⟩
instance : TyI Try.prog 95 1 8 (Value.nilFunc) := ⟨by kernel_rfl⟩
instance : TyU Try.prog 96 (TypeDesc.array 64 87) := ⟨Try.underlying96⟩
instance : TyI Try.prog 96 64 256 (Value.agg [Value.int IntKind.u32 (0), Value.int IntKind.u32 (0), Value.int IntKind.u32 (0), Value.int IntKind.u32 (0), Value.int IntKind.u32 (0), Value.int IntKind.u32 (0), Value.int IntKind.u32 (0), Value.int IntKind.u32 (0), Value.int IntKind.u32 (0), Value.int IntKind.u32 (0), Value.int IntKind.u32 (0), Value.int IntKind.u32 (0), Value.int IntKind.u32 (0), Value.int IntKind.u32 (0), Value.int IntKind.u32 (0), Value.int IntKind.u32 (0), Value.int IntKind.u32 (0), Value.int IntKind.u32 (0), Value.int IntKind.u32 (0), Value.int IntKind.u32 (0), Value.int IntKind.u32 (0), Value.int IntKind.u32 (0), Value.int IntKind.u32 (0), Value.int IntKind.u32 (0), Value.int IntKind.u32 (0), Value.int IntKind.u32 (0), Value.int IntKind.u32 (0), Value.int IntKind.u32 (0), Value.int IntKind.u32 (0), Value.int IntKind.u32 (0), Value.int IntKind.u32 (0), Value.int IntKind.u32 (0), Value.int IntKind.u32 (0), Value.int IntKind.u32 (0), Value.int IntKind.u32 (0), Value.int IntKind.u32 (0), Value.int IntKind.u32 (0), Value.int IntKind.u32 (0), Value.int IntKind.u32 (0), Value.int IntKind.u32 (0), Value.int IntKind.u32 (0), Value.int IntKind.u32 (0), Value.int IntKind.u32 (0), Value.int IntKind.u32 (0), Value.int IntKind.u32 (0), Value.int IntKind.u32 (0), Value.int IntKind.u32 (0), Value.int IntKind.u32 (0), Value.int IntKind.u32 (0), Value.int IntKind.u32 (0), Value.int IntKind.u32 (0), Value.int IntKind.u32 (0), Value.int IntKind.u32 (0), Value.int IntKind.u32 (0), Value.int IntKind.u32 (0), Value.int IntKind.u32 (0), Value.int IntKind.u32 (0), Value.int IntKind.u32 (0), Value.int IntKind.u32 (0), Value.int IntKind.u32 (0), Value.int IntKind.u32 (0), Value.int IntKind.u32 (0), Value.int IntKind.u32 (0), Value.int IntKind.u32 (0)].toArray) := ⟨by kernel_rfl⟩
instance : TyU Try.prog 97 (TypeDesc.func #[] #[96] false) := ⟨Try.underlying97⟩
instance : TyI Try.prog 97 1 8 (Value.nilFunc) := ⟨by kernel_rfl⟩
instance : TyU Try.prog 98 (TypeDesc.func #[88, 96, 9] #[88] false) := ⟨Try.underlying98⟩
instance : TyI Try.prog 98 1 8 (Value.nilFunc) := ⟨by kernel_rfl⟩
instance : TyU Try.prog 99 (TypeDesc.func #[3] #[9] false) := ⟨Try.underlying99⟩
instance : TyI Try.prog 99 1 8 (Value.nilFunc) := ⟨by kernel_rfl⟩
instance : TyU Try.prog 100 (TypeDesc.pointer 102) := ⟨Try.underlying100⟩
instance : TyI Try.prog 100 1 8 (Value.pointer none) := ⟨by kernel_rfl⟩
instance : TyU Try.prog 101 (TypeDesc.struct #[{ name := "addr", type := 100, offset := 0, embedded := false, tag := "", pkgPath := "strings", byteOffset := 0 }, { name := "buf", type := 27, offset := 1, embedded := false, tag := "", pkgPath := "strings", byteOffset := 8 }]) := ⟨Try.underlying101⟩
instance : TyI Try.prog 101 2 32 (Value.agg [Value.pointer none, Value.slice none 0 0].toArray) := ⟨by kernel_rfl⟩
instance : TyU Try.prog 102 (TypeDesc.struct #[{ name := "addr", type := 100, offset := 0, embedded := false, tag := "", pkgPath := "strings", byteOffset := 0 }, { name := "buf", type := 27, offset := 1, embedded := false, tag := "", pkgPath := "strings", byteOffset := 8 }]) := ⟨Try.underlying102⟩
instance : TyI Try.prog 102 2 32 (Value.agg [Value.pointer none, Value.slice none 0 0].toArray) := ⟨by kernel_rfl⟩
instance : TyU Try.prog 103 (TypeDesc.interface #[("Error", 107)]) := ⟨Try.underlying103⟩
instance : TyI Try.prog 103 1 16 (Value.nilIface) := ⟨by kernel_rfl⟩
instance : TyU Try.prog 104 (TypeDesc.interface #[("Error", 107)]) := ⟨Try.underlying104⟩
instance : TyI Try.prog 104 1 16 (Value.nilIface) := ⟨by kernel_rfl⟩
instance : TyU Try.prog 105 (TypeDesc.tuple #[3, 104]) := ⟨Try.underlying105⟩
instance : TyI Try.prog 105 1 0 (Value.tuple [Value.int IntKind.i64 (0), Value.nilIface].toArray) := ⟨by kernel_rfl⟩
instance : TyU Try.prog 106 (TypeDesc.func #[9] #[3, 104] false) := ⟨Try.underlying106⟩
instance : TyI Try.prog 106 1 8 (Value.nilFunc) := ⟨by kernel_rfl⟩
instance : TyU Try.prog 107 (TypeDesc.func #[] #[9] false) := ⟨Try.underlying107⟩
instance : TyI Try.prog 107 1 8 (Value.nilFunc) := ⟨by kernel_rfl⟩
instance : TyU Try.prog 108 (TypeDesc.func #[3, 3] #[9] false) := ⟨Try.underlying108⟩
instance : TyI Try.prog 108 1 8 (Value.nilFunc) := ⟨by kernel_rfl⟩
instance : TyU Try.prog 109 (TypeDesc.func #[9, 42] #[9] false) := ⟨Try.underlying109⟩
instance : TyI Try.prog 109 1 8 (Value.nilFunc) := ⟨by kernel_rfl⟩
instance : TyU Try.prog 110 (TypeDesc.func #[9, 3, 3, 3] #[9] false) := ⟨Try.underlying110⟩
instance : TyI Try.prog 110 1 8 (Value.nilFunc) := ⟨by kernel_rfl⟩
instance : TyU Try.prog 111 (TypeDesc.func #[31] #[9] true) := ⟨Try.underlying111⟩
instance : TyI Try.prog 111 1 8 (Value.nilFunc) := ⟨by kernel_rfl⟩
instance : TyU Try.prog 112 (TypeDesc.struct #[{ name := "l", type := 42, offset := 0, embedded := false, tag := "", pkgPath := "keyevent/keyeventkit", byteOffset := 0 }, { name := "at", type := 3, offset := 1, embedded := false, tag := "", pkgPath := "keyevent/keyeventkit", byteOffset := 24 }]) := ⟨Try.underlying112⟩
instance : TyI Try.prog 112 2 32 (Value.agg [Value.slice none 0 0, Value.int IntKind.i64 (0)].toArray) := ⟨by kernel_rfl⟩
instance : TyU Try.prog 113 (TypeDesc.struct #[{ name := "l", type := 42, offset := 0, embedded := false, tag := "", pkgPath := "keyevent/keyeventkit", byteOffset := 0 }, { name := "at", type := 3, offset := 1, embedded := false, tag := "", pkgPath := "keyevent/keyeventkit", byteOffset := 24 }]) := ⟨Try.underlying113⟩
instance : TyI Try.prog 113 2 32 (Value.agg [Value.slice none 0 0, Value.int IntKind.i64 (0)].toArray) := ⟨by kernel_rfl⟩
instance : TyU Try.prog 114 (TypeDesc.func #[128] #[] false) := ⟨Try.underlying114⟩
instance : TyI Try.prog 114 1 8 (Value.nilFunc) := ⟨by kernel_rfl⟩
instance : TyU Try.prog 115 (TypeDesc.func #[9] #[114] false) := ⟨Try.underlying115⟩
instance : TyI Try.prog 115 1 8 (Value.nilFunc) := ⟨by kernel_rfl⟩
instance : TyU Try.prog 116 (TypeDesc.func #[66] #[31] false) := ⟨Try.underlying116⟩
instance : TyI Try.prog 116 1 8 (Value.nilFunc) := ⟨by kernel_rfl⟩
instance : TyU Try.prog 117 (TypeDesc.func #[9, 9, 9] #[4] false) := ⟨Try.underlying117⟩
instance : TyI Try.prog 117 1 8 (Value.nilFunc) := ⟨by kernel_rfl⟩
instance : TyU Try.prog 118 (TypeDesc.func #[66] #[66] false) := ⟨Try.underlying118⟩
instance : TyI Try.prog 118 1 8 (Value.nilFunc) := ⟨by kernel_rfl⟩
instance : TyU Try.prog 119 (TypeDesc.func #[66] #[4] false) := ⟨Try.underlying119⟩
instance : TyI Try.prog 119 1 8 (Value.nilFunc) := ⟨by kernel_rfl⟩
instance : TyU Try.prog 120 (TypeDesc.func #[42] #[3] false) := ⟨Try.underlying120⟩
instance : TyI Try.prog 120 1 8 (Value.nilFunc) := ⟨by kernel_rfl⟩
instance : TyU Try.prog 121 (TypeDesc.func #[9, 3, 9] #[9, 32] false) := ⟨Try.underlying121⟩
instance : TyI Try.prog 121 1 8 (Value.nilFunc) := ⟨by kernel_rfl⟩
instance : TyU Try.prog 122 (TypeDesc.func #[5] #[104] false) := ⟨Try.underlying122⟩
instance : TyI Try.prog 122 1 8 (Value.nilFunc) := ⟨by kernel_rfl⟩
instance : TyU Try.prog 123 (TypeDesc.int IntKind.u64) := ⟨Try.underlying123⟩
instance : TyI Try.prog 123 1 8 (Value.int IntKind.u64 (0)) := ⟨by kernel_rfl⟩
instance : TyU Try.prog 124 (TypeDesc.pointer 89) := ⟨Try.underlying124⟩
instance : TyI Try.prog 124 1 8 (Value.pointer none) := ⟨by kernel_rfl⟩
instance : TyU Try.prog 125 (TypeDesc.func #[87, 3] #[87] false) := ⟨Try.underlying125⟩
instance : TyI Try.prog 125 1 8 (Value.nilFunc) := ⟨by kernel_rfl⟩
instance : TyU Try.prog 126 (TypeDesc.func #[9] #[87] false) := ⟨Try.underlying126⟩
instance : TyI Try.prog 126 1 8 (Value.nilFunc) := ⟨by kernel_rfl⟩
instance : TyU Try.prog 127 (TypeDesc.pointer 5) := ⟨Try.underlying127⟩
instance : TyI Try.prog 127 1 8 (Value.pointer none) := ⟨by kernel_rfl⟩
instance : TyU Try.prog 128 (TypeDesc.func #[9, 3] #[4] false) := ⟨Try.underlying128⟩
instance : TyI Try.prog 128 1 8 (Value.nilFunc) := ⟨by kernel_rfl⟩
instance : TyU Try.prog 129 (TypeDesc.func #[66, 3, 3] #[31] false) := ⟨Try.underlying129⟩
instance : TyI Try.prog 129 1 8 (Value.nilFunc) := ⟨by kernel_rfl⟩
instance : TyU Try.prog 130 (TypeDesc.func #[3, 9] #[9, 32] false) := ⟨Try.underlying130⟩
instance : TyI Try.prog 130 1 8 (Value.nilFunc) := ⟨by kernel_rfl⟩
instance : TyU Try.prog 131 (TypeDesc.func #[42] #[42] false) := ⟨Try.underlying131⟩
instance : TyI Try.prog 131 1 8 (Value.nilFunc) := ⟨by kernel_rfl⟩
instance : TyU Try.prog 132 (TypeDesc.func #[3] #[4] false) := ⟨Try.underlying132⟩
instance : TyI Try.prog 132 1 8 (Value.nilFunc) := ⟨by kernel_rfl⟩
instance : TyU Try.prog 133 (TypeDesc.func #[42, 132] #[4] false) := ⟨Try.underlying133⟩
instance : TyI Try.prog 133 1 8 (Value.nilFunc) := ⟨by kernel_rfl⟩
instance : TyU Try.prog 134 (TypeDesc.array 4 31) := ⟨Try.underlying134⟩
instance : TyI Try.prog 134 4 96 (Value.agg [Value.slice none 0 0, Value.slice none 0 0, Value.slice none 0 0, Value.slice none 0 0].toArray) := ⟨by kernel_rfl⟩
instance : TyU Try.prog 135 (TypeDesc.func #[9] #[134] false) := ⟨Try.underlying135⟩
instance : TyI Try.prog 135 1 8 (Value.nilFunc) := ⟨by kernel_rfl⟩
instance : TyU Try.prog 136 (TypeDesc.tuple #[37, 37]) := ⟨Try.underlying136⟩
instance : TyI Try.prog 136 1 0 (Value.tuple [Value.int IntKind.u64 (0), Value.int IntKind.u64 (0)].toArray) := ⟨by kernel_rfl⟩
instance : TyU Try.prog 137 (TypeDesc.func #[37, 37] #[37, 37] false) := ⟨Try.underlying137⟩
instance : TyI Try.prog 137 1 8 (Value.nilFunc) := ⟨by kernel_rfl⟩
instance : TyU Try.prog 138 (TypeDesc.func #[3] #[] false) := ⟨Try.underlying138⟩
instance : TyI Try.prog 138 1 8 (Value.nilFunc) := ⟨by kernel_rfl⟩
instance : TyU Try.prog 139 TypeDesc.unsafePointer := ⟨Try.underlying139⟩
instance : TyI Try.prog 139 1 8 (Value.pointer none) := ⟨by kernel_rfl⟩
instance : TyU Try.prog 140 (TypeDesc.func #[139] #[139] false) := ⟨Try.underlying140⟩
instance : TyI Try.prog 140 1 8 (Value.nilFunc) := ⟨by kernel_rfl⟩
instance : TyU Try.prog 141 (TypeDesc.tuple #[86, 3, 32]) := ⟨Try.underlying141⟩
instance : TyI Try.prog 141 1 0 (Value.tuple { toList := [Value.agg [Value.int IntKind.i64 (0), Value.string ⟨#[]⟩].toArray, Value.int IntKind.i64 (0), Value.int IntKind.i64 (0)] }) := ⟨by kernel_rfl⟩
instance : TyU Try.prog 142 (TypeDesc.func #[9] #[86, 3, 32] false) := ⟨Try.underlying142⟩
instance : TyI Try.prog 142 1 8 (Value.nilFunc) := ⟨by kernel_rfl⟩
instance : TyU Try.prog 143 (TypeDesc.func #[42, 132] #[3] false) := ⟨Try.underlying143⟩
instance : TyI Try.prog 143 1 8 (Value.nilFunc) := ⟨by kernel_rfl⟩
instance : TyU Try.prog 144 (TypeDesc.tuple #[87, 87]) := ⟨Try.underlying144⟩
instance : TyI Try.prog 144 1 0 (Value.tuple [Value.int IntKind.u32 (0), Value.int IntKind.u32 (0)].toArray) := ⟨by kernel_rfl⟩
instance : TyU Try.prog 145 (TypeDesc.func #[87, 87] #[87, 87] false) := ⟨Try.underlying145⟩
instance : TyI Try.prog 145 1 8 (Value.nilFunc) := ⟨by kernel_rfl⟩
instance : TyU Try.prog 146 (TypeDesc.tuple #[123, 123]) := ⟨Try.underlying146⟩
instance : TyI Try.prog 146 1 0 (Value.tuple [Value.int IntKind.u64 (0), Value.int IntKind.u64 (0)].toArray) := ⟨by kernel_rfl⟩
instance : TyU Try.prog 147 (TypeDesc.func #[123, 123] #[123, 123] false) := ⟨Try.underlying147⟩
instance : TyI Try.prog 147 1 8 (Value.nilFunc) := ⟨by kernel_rfl⟩
instance : TyU Try.prog 148 (TypeDesc.func #[3] #[27] false) := ⟨Try.underlying148⟩
instance : TyI Try.prog 148 1 8 (Value.nilFunc) := ⟨by kernel_rfl⟩
instance : TyU Try.prog 149 (TypeDesc.tuple #[3, 4]) := ⟨Try.underlying149⟩
instance : TyI Try.prog 149 1 0 (Value.tuple [Value.int IntKind.i64 (0), Value.bool false].toArray) := ⟨by kernel_rfl⟩
instance : TyU Try.prog 150 (TypeDesc.func #[5] #[3, 4] false) := ⟨Try.underlying150⟩
instance : TyI Try.prog 150 1 8 (Value.nilFunc) := ⟨by kernel_rfl⟩
instance : TyU Try.prog 151 (TypeDesc.struct #[{ name := "_interface", type := 17, offset := 0, embedded := false, tag := "", pkgPath := "runtime", byteOffset := 0 }, { name := "concrete", type := 17, offset := 1, embedded := false, tag := "", pkgPath := "runtime", byteOffset := 8 }, { name := "asserted", type := 17, offset := 2, embedded := false, tag := "", pkgPath := "runtime", byteOffset := 16 }, { name := "missingMethod", type := 9, offset := 3, embedded := false, tag := "", pkgPath := "runtime", byteOffset := 24 }]) := ⟨Try.underlying151⟩
instance : TyI Try.prog 151 4 40 (Value.agg [Value.pointer none, Value.pointer none, Value.pointer none, Value.string ⟨#[]⟩].toArray) := ⟨by kernel_rfl⟩
instance : TyU Try.prog 152 (TypeDesc.struct #[{ name := "_interface", type := 17, offset := 0, embedded := false, tag := "", pkgPath := "runtime", byteOffset := 0 }, { name := "concrete", type := 17, offset := 1, embedded := false, tag := "", pkgPath := "runtime", byteOffset := 8 }, { name := "asserted", type := 17, offset := 2, embedded := false, tag := "", pkgPath := "runtime", byteOffset := 16 }, { name := "missingMethod", type := 9, offset := 3, embedded := false, tag := "", pkgPath := "runtime", byteOffset := 24 }]) := ⟨Try.underlying152⟩
instance : TyI Try.prog 152 4 40 (Value.agg [Value.pointer none, Value.pointer none, Value.pointer none, Value.string ⟨#[]⟩].toArray) := ⟨by kernel_rfl⟩
instance : TyU Try.prog 153 (TypeDesc.array 0 16) := ⟨Try.underlying153⟩
instance : TyI Try.prog 153 0 0 (Value.agg [].toArray) := ⟨by kernel_rfl⟩
instance : TyU Try.prog 154 (TypeDesc.struct #[{ name := "_", type := 153, offset := 0, embedded := false, tag := "", pkgPath := "runtime", byteOffset := 0 }]) := ⟨Try.underlying154⟩
instance : TyI Try.prog 154 0 0 (Value.agg [].toArray) := ⟨by kernel_rfl⟩
instance : TyU Try.prog 155 (TypeDesc.struct #[{ name := "_", type := 153, offset := 0, embedded := false, tag := "", pkgPath := "runtime", byteOffset := 0 }]) := ⟨Try.underlying155⟩
instance : TyI Try.prog 155 0 0 (Value.agg [].toArray) := ⟨by kernel_rfl⟩
instance : TyU Try.prog 156 (TypeDesc.int IntKind.u8) := ⟨Try.underlying156⟩
instance : TyI Try.prog 156 1 1 (Value.int IntKind.u8 (0)) := ⟨by kernel_rfl⟩
instance : TyU Try.prog 157 (TypeDesc.int IntKind.u8) := ⟨Try.underlying157⟩
instance : TyI Try.prog 157 1 1 (Value.int IntKind.u8 (0)) := ⟨by kernel_rfl⟩
instance : TyU Try.prog 158 (TypeDesc.func #[139, 139] #[4] false) := ⟨Try.underlying158⟩
instance : TyI Try.prog 158 1 8 (Value.nilFunc) := ⟨by kernel_rfl⟩
instance : TyU Try.prog 159 (TypeDesc.int IntKind.i32) := ⟨Try.underlying159⟩
instance : TyI Try.prog 159 1 4 (Value.int IntKind.i32 (0)) := ⟨by kernel_rfl⟩
instance : TyU Try.prog 160 (TypeDesc.int IntKind.i32) := ⟨Try.underlying160⟩
instance : TyI Try.prog 160 1 4 (Value.int IntKind.i32 (0)) := ⟨by kernel_rfl⟩
instance : TyU Try.prog 161 (TypeDesc.struct #[{ name := "Size_", type := 12, offset := 0, embedded := false, tag := "", pkgPath := "", byteOffset := 0 }, { name := "PtrBytes", type := 12, offset := 1, embedded := false, tag := "", pkgPath := "", byteOffset := 8 }, { name := "Hash", type := 87, offset := 2, embedded := false, tag := "", pkgPath := "", byteOffset := 16 }, { name := "TFlag", type := 156, offset := 3, embedded := false, tag := "", pkgPath := "", byteOffset := 20 }, { name := "Align_", type := 5, offset := 4, embedded := false, tag := "", pkgPath := "", byteOffset := 21 }, { name := "FieldAlign_", type := 5, offset := 5, embedded := false, tag := "", pkgPath := "", byteOffset := 22 }, { name := "Kind_", type := 157, offset := 6, embedded := false, tag := "", pkgPath := "", byteOffset := 23 }, { name := "Equal", type := 158, offset := 7, embedded := false, tag := "", pkgPath := "", byteOffset := 24 }, { name := "GCData", type := 127, offset := 8, embedded := false, tag := "", pkgPath := "", byteOffset := 32 }, { name := "Str", type := 159, offset := 9, embedded := false, tag := "", pkgPath := "", byteOffset := 40 }, { name := "PtrToThis", type := 160, offset := 10, embedded := false, tag := "", pkgPath := "", byteOffset := 44 }]) := ⟨Try.underlying161⟩
instance : TyI Try.prog 161 11 48 (Value.agg [Value.int IntKind.u64 (0), Value.int IntKind.u64 (0), Value.int IntKind.u32 (0), Value.int IntKind.u8 (0), Value.int IntKind.u8 (0), Value.int IntKind.u8 (0), Value.int IntKind.u8 (0), Value.nilFunc, Value.pointer none, Value.int IntKind.i32 (0), Value.int IntKind.i32 (0)].toArray) := ⟨by kernel_rfl⟩
instance : TyU Try.prog 162 (TypeDesc.struct #[{ name := "Size_", type := 12, offset := 0, embedded := false, tag := "", pkgPath := "", byteOffset := 0 }, { name := "PtrBytes", type := 12, offset := 1, embedded := false, tag := "", pkgPath := "", byteOffset := 8 }, { name := "Hash", type := 87, offset := 2, embedded := false, tag := "", pkgPath := "", byteOffset := 16 }, { name := "TFlag", type := 156, offset := 3, embedded := false, tag := "", pkgPath := "", byteOffset := 20 }, { name := "Align_", type := 5, offset := 4, embedded := false, tag := "", pkgPath := "", byteOffset := 21 }, { name := "FieldAlign_", type := 5, offset := 5, embedded := false, tag := "", pkgPath := "", byteOffset := 22 }, { name := "Kind_", type := 157, offset := 6, embedded := false, tag := "", pkgPath := "", byteOffset := 23 }, { name := "Equal", type := 158, offset := 7, embedded := false, tag := "", pkgPath := "", byteOffset := 24 }, { name := "GCData", type := 127, offset := 8, embedded := false, tag := "", pkgPath := "", byteOffset := 32 }, { name := "Str", type := 159, offset := 9, embedded := false, tag := "", pkgPath := "", byteOffset := 40 }, { name := "PtrToThis", type := 160, offset := 10, embedded := false, tag := "", pkgPath := "", byteOffset := 44 }]) := ⟨Try.underlying162⟩
instance : TyI Try.prog 162 11 48 (Value.agg [Value.int IntKind.u64 (0), Value.int IntKind.u64 (0), Value.int IntKind.u32 (0), Value.int IntKind.u8 (0), Value.int IntKind.u8 (0), Value.int IntKind.u8 (0), Value.int IntKind.u8 (0), Value.nilFunc, Value.pointer none, Value.int IntKind.i32 (0), Value.int IntKind.i32 (0)].toArray) := ⟨by kernel_rfl⟩
instance : FnB Try.prog 3 := ⟨⟨Try.f3, Try.func3, by kernel_rfl, by kernel_rfl⟩⟩
instance : FnB Try.prog 4 := ⟨⟨Try.f4, Try.func4, by kernel_rfl, by kernel_rfl⟩⟩
instance : FnB Try.prog 5 := ⟨⟨Try.f5, Try.func5, by kernel_rfl, by kernel_rfl⟩⟩
instance : FnB Try.prog 6 := ⟨⟨Try.f6, Try.func6, by kernel_rfl, by kernel_rfl⟩⟩
instance : FnB Try.prog 7 := ⟨⟨Try.f7, Try.func7, by kernel_rfl, by kernel_rfl⟩⟩
instance : FnB Try.prog 8 := ⟨⟨Try.f8, Try.func8, by kernel_rfl, by kernel_rfl⟩⟩
instance : FnB Try.prog 9 := ⟨⟨Try.f9, Try.func9, by kernel_rfl, by kernel_rfl⟩⟩
instance : FnB Try.prog 10 := ⟨⟨Try.f10, Try.func10, by kernel_rfl, by kernel_rfl⟩⟩
instance : FnB Try.prog 11 := ⟨⟨Try.f11, Try.func11, by kernel_rfl, by kernel_rfl⟩⟩
instance : FnB Try.prog 12 := ⟨⟨Try.f12, Try.func12, by kernel_rfl, by kernel_rfl⟩⟩
instance : FnB Try.prog 13 := ⟨⟨Try.f13, Try.func13, by kernel_rfl, by kernel_rfl⟩⟩
instance : FnB Try.prog 14 := ⟨⟨Try.f14, Try.func14, by kernel_rfl, by kernel_rfl⟩⟩
instance : FnB Try.prog 15 := ⟨⟨Try.f15, Try.func15, by kernel_rfl, by kernel_rfl⟩⟩
instance : FnB Try.prog 16 := ⟨⟨Try.f16, Try.func16, by kernel_rfl, by kernel_rfl⟩⟩
instance : FnB Try.prog 17 := ⟨⟨Try.f17, Try.func17, by kernel_rfl, by kernel_rfl⟩⟩
instance : FnB Try.prog 18 := ⟨⟨Try.f18, Try.func18, by kernel_rfl, by kernel_rfl⟩⟩
instance : FnB Try.prog 19 := ⟨⟨Try.f19, Try.func19, by kernel_rfl, by kernel_rfl⟩⟩
instance : FnB Try.prog 20 := ⟨⟨Try.f20, Try.func20, by kernel_rfl, by kernel_rfl⟩⟩
instance : FnB Try.prog 21 := ⟨⟨Try.f21, Try.func21, by kernel_rfl, by kernel_rfl⟩⟩
instance : FnB Try.prog 22 := ⟨⟨Try.f22, Try.func22, by kernel_rfl, by kernel_rfl⟩⟩
instance : FnB Try.prog 23 := ⟨⟨Try.f23, Try.func23, by kernel_rfl, by kernel_rfl⟩⟩
instance : FnB Try.prog 24 := ⟨⟨Try.f24, Try.func24, by kernel_rfl, by kernel_rfl⟩⟩
instance : FnB Try.prog 25 := ⟨⟨Try.f25, Try.func25, by kernel_rfl, by kernel_rfl⟩⟩
instance : FnB Try.prog 26 := ⟨⟨Try.f26, Try.func26, by kernel_rfl, by kernel_rfl⟩⟩
instance : FnB Try.prog 27 := ⟨⟨Try.f27, Try.func27, by kernel_rfl, by kernel_rfl⟩⟩
instance : FnB Try.prog 28 := ⟨⟨Try.f28, Try.func28, by kernel_rfl, by kernel_rfl⟩⟩
instance : FnB Try.prog 29 := ⟨⟨Try.f29, Try.func29, by kernel_rfl, by kernel_rfl⟩⟩
instance : FnB Try.prog 30 := ⟨⟨Try.f30, Try.func30, by kernel_rfl, by kernel_rfl⟩⟩
instance : FnB Try.prog 31 := ⟨⟨Try.f31, Try.func31, by kernel_rfl, by kernel_rfl⟩⟩
instance : FnB Try.prog 32 := ⟨⟨Try.f32, Try.func32, by kernel_rfl, by kernel_rfl⟩⟩
instance : FnB Try.prog 33 := ⟨⟨Try.f33, Try.func33, by kernel_rfl, by kernel_rfl⟩⟩
instance : FnB Try.prog 34 := ⟨⟨Try.f34, Try.func34, by kernel_rfl, by kernel_rfl⟩⟩
instance : FnB Try.prog 35 := ⟨⟨Try.f35, Try.func35, by kernel_rfl, by kernel_rfl⟩⟩
instance : FnB Try.prog 36 := ⟨⟨Try.f36, Try.func36, by kernel_rfl, by kernel_rfl⟩⟩
instance : FnB Try.prog 37 := ⟨⟨Try.f37, Try.func37, by kernel_rfl, by kernel_rfl⟩⟩
instance : FnB Try.prog 38 := ⟨⟨Try.f38, Try.func38, by kernel_rfl, by kernel_rfl⟩⟩
instance : FnB Try.prog 39 := ⟨⟨Try.f39, Try.func39, by kernel_rfl, by kernel_rfl⟩⟩
instance : FnB Try.prog 40 := ⟨⟨Try.f40, Try.func40, by kernel_rfl, by kernel_rfl⟩⟩
instance : FnB Try.prog 41 := ⟨⟨Try.f41, Try.func41, by kernel_rfl, by kernel_rfl⟩⟩
instance : FnB Try.prog 42 := ⟨⟨Try.f42, Try.func42, by kernel_rfl, by kernel_rfl⟩⟩
instance : FnB Try.prog 43 := ⟨⟨Try.f43, Try.func43, by kernel_rfl, by kernel_rfl⟩⟩
instance : FnB Try.prog 44 := ⟨⟨Try.f44, Try.func44, by kernel_rfl, by kernel_rfl⟩⟩
instance : FnB Try.prog 45 := ⟨⟨Try.f45, Try.func45, by kernel_rfl, by kernel_rfl⟩⟩
instance : FnB Try.prog 46 := ⟨⟨Try.f46, Try.func46, by kernel_rfl, by kernel_rfl⟩⟩
instance : FnB Try.prog 47 := ⟨⟨Try.f47, Try.func47, by kernel_rfl, by kernel_rfl⟩⟩
instance : FnB Try.prog 48 := ⟨⟨Try.f48, Try.func48, by kernel_rfl, by kernel_rfl⟩⟩
instance : FnB Try.prog 49 := ⟨⟨Try.f49, Try.func49, by kernel_rfl, by kernel_rfl⟩⟩
instance : FnB Try.prog 50 := ⟨⟨Try.f50, Try.func50, by kernel_rfl, by kernel_rfl⟩⟩
instance : FnB Try.prog 51 := ⟨⟨Try.f51, Try.func51, by kernel_rfl, by kernel_rfl⟩⟩
instance : FnB Try.prog 52 := ⟨⟨Try.f52, Try.func52, by kernel_rfl, by kernel_rfl⟩⟩
instance : FnB Try.prog 53 := ⟨⟨Try.f53, Try.func53, by kernel_rfl, by kernel_rfl⟩⟩
instance : FnB Try.prog 54 := ⟨⟨Try.f54, Try.func54, by kernel_rfl, by kernel_rfl⟩⟩
instance : FnB Try.prog 55 := ⟨⟨Try.f55, Try.func55, by kernel_rfl, by kernel_rfl⟩⟩
instance : FnB Try.prog 56 := ⟨⟨Try.f56, Try.func56, by kernel_rfl, by kernel_rfl⟩⟩
instance : FnB Try.prog 57 := ⟨⟨Try.f57, Try.func57, by kernel_rfl, by kernel_rfl⟩⟩
instance : FnB Try.prog 58 := ⟨⟨Try.f58, Try.func58, by kernel_rfl, by kernel_rfl⟩⟩
instance : FnB Try.prog 59 := ⟨⟨Try.f59, Try.func59, by kernel_rfl, by kernel_rfl⟩⟩
instance : FnB Try.prog 60 := ⟨⟨Try.f60, Try.func60, by kernel_rfl, by kernel_rfl⟩⟩
instance : FnB Try.prog 61 := ⟨⟨Try.f61, Try.func61, by kernel_rfl, by kernel_rfl⟩⟩
instance : FnB Try.prog 62 := ⟨⟨Try.f62, Try.func62, by kernel_rfl, by kernel_rfl⟩⟩
instance : FnB Try.prog 63 := ⟨⟨Try.f63, Try.func63, by kernel_rfl, by kernel_rfl⟩⟩
instance : FnB Try.prog 64 := ⟨⟨Try.f64, Try.func64, by kernel_rfl, by kernel_rfl⟩⟩
instance : FnB Try.prog 65 := ⟨⟨Try.f65, Try.func65, by kernel_rfl, by kernel_rfl⟩⟩
instance : FnB Try.prog 66 := ⟨⟨Try.f66, Try.func66, by kernel_rfl, by kernel_rfl⟩⟩
instance : FnB Try.prog 67 := ⟨⟨Try.f67, Try.func67, by kernel_rfl, by kernel_rfl⟩⟩
instance : FnB Try.prog 68 := ⟨⟨Try.f68, Try.func68, by kernel_rfl, by kernel_rfl⟩⟩
instance : FnB Try.prog 69 := ⟨⟨Try.f69, Try.func69, by kernel_rfl, by kernel_rfl⟩⟩
instance : FnB Try.prog 70 := ⟨⟨Try.f70, Try.func70, by kernel_rfl, by kernel_rfl⟩⟩
instance : FnB Try.prog 71 := ⟨⟨Try.f71, Try.func71, by kernel_rfl, by kernel_rfl⟩⟩
instance : FnB Try.prog 72 := ⟨⟨Try.f72, Try.func72, by kernel_rfl, by kernel_rfl⟩⟩
instance : FnB Try.prog 73 := ⟨⟨Try.f73, Try.func73, by kernel_rfl, by kernel_rfl⟩⟩
instance : FnB Try.prog 74 := ⟨⟨Try.f74, Try.func74, by kernel_rfl, by kernel_rfl⟩⟩
instance : FnB Try.prog 75 := ⟨⟨Try.f75, Try.func75, by kernel_rfl, by kernel_rfl⟩⟩
instance : FnB Try.prog 76 := ⟨⟨Try.f76, Try.func76, by kernel_rfl, by kernel_rfl⟩⟩
instance : FnB Try.prog 77 := ⟨⟨Try.f77, Try.func77, by kernel_rfl, by kernel_rfl⟩⟩
instance : FnB Try.prog 78 := ⟨⟨Try.f78, Try.func78, by kernel_rfl, by kernel_rfl⟩⟩
instance : FnB Try.prog 79 := ⟨⟨Try.f79, Try.func79, by kernel_rfl, by kernel_rfl⟩⟩
instance : FnB Try.prog 80 := ⟨⟨Try.f80, Try.func80, by kernel_rfl, by kernel_rfl⟩⟩
instance : FnB Try.prog 81 := ⟨⟨Try.f81, Try.func81, by kernel_rfl, by kernel_rfl⟩⟩
instance : FnB Try.prog 82 := ⟨⟨Try.f82, Try.func82, by kernel_rfl, by kernel_rfl⟩⟩
instance : FnB Try.prog 83 := ⟨⟨Try.f83, Try.func83, by kernel_rfl, by kernel_rfl⟩⟩
instance : FnB Try.prog 84 := ⟨⟨Try.f84, Try.func84, by kernel_rfl, by kernel_rfl⟩⟩
instance : FnB Try.prog 85 := ⟨⟨Try.f85, Try.func85, by kernel_rfl, by kernel_rfl⟩⟩
instance : FnB Try.prog 86 := ⟨⟨Try.f86, Try.func86, by kernel_rfl, by kernel_rfl⟩⟩
instance : FnB Try.prog 87 := ⟨⟨Try.f87, Try.func87, by kernel_rfl, by kernel_rfl⟩⟩
instance : FnB Try.prog 88 := ⟨⟨Try.f88, Try.func88, by kernel_rfl, by kernel_rfl⟩⟩
instance : FnB Try.prog 89 := ⟨⟨Try.f89, Try.func89, by kernel_rfl, by kernel_rfl⟩⟩
instance : FnB Try.prog 90 := ⟨⟨Try.f90, Try.func90, by kernel_rfl, by kernel_rfl⟩⟩
instance : FnB Try.prog 91 := ⟨⟨Try.f91, Try.func91, by kernel_rfl, by kernel_rfl⟩⟩
instance : FnB Try.prog 92 := ⟨⟨Try.f92, Try.func92, by kernel_rfl, by kernel_rfl⟩⟩
instance : FnB Try.prog 93 := ⟨⟨Try.f93, Try.func93, by kernel_rfl, by kernel_rfl⟩⟩
instance : FnB Try.prog 94 := ⟨⟨Try.f94, Try.func94, by kernel_rfl, by kernel_rfl⟩⟩
instance : FnB Try.prog 95 := ⟨⟨Try.f95, Try.func95, by kernel_rfl, by kernel_rfl⟩⟩
instance : FnB Try.prog 96 := ⟨⟨Try.f96, Try.func96, by kernel_rfl, by kernel_rfl⟩⟩
instance : FnB Try.prog 97 := ⟨⟨Try.f97, Try.func97, by kernel_rfl, by kernel_rfl⟩⟩
instance : FnB Try.prog 98 := ⟨⟨Try.f98, Try.func98, by kernel_rfl, by kernel_rfl⟩⟩
instance : FnB Try.prog 99 := ⟨⟨Try.f99, Try.func99, by kernel_rfl, by kernel_rfl⟩⟩
instance : FnB Try.prog 100 := ⟨⟨Try.f100, Try.func100, by kernel_rfl, by kernel_rfl⟩⟩
instance : FnB Try.prog 101 := ⟨⟨Try.f101, Try.func101, by kernel_rfl, by kernel_rfl⟩⟩
instance : FnB Try.prog 102 := ⟨⟨Try.f102, Try.func102, by kernel_rfl, by kernel_rfl⟩⟩
instance : FnB Try.prog 103 := ⟨⟨Try.f103, Try.func103, by kernel_rfl, by kernel_rfl⟩⟩
instance : FnB Try.prog 104 := ⟨⟨Try.f104, Try.func104, by kernel_rfl, by kernel_rfl⟩⟩
instance : FnB Try.prog 105 := ⟨⟨Try.f105, Try.func105, by kernel_rfl, by kernel_rfl⟩⟩
instance : FnB Try.prog 106 := ⟨⟨Try.f106, Try.func106, by kernel_rfl, by kernel_rfl⟩⟩
instance : FnB Try.prog 107 := ⟨⟨Try.f107, Try.func107, by kernel_rfl, by kernel_rfl⟩⟩
instance : FnB Try.prog 108 := ⟨⟨Try.f108, Try.func108, by kernel_rfl, by kernel_rfl⟩⟩
instance : FnB Try.prog 109 := ⟨⟨Try.f109, Try.func109, by kernel_rfl, by kernel_rfl⟩⟩
instance : FnB Try.prog 110 := ⟨⟨Try.f110, Try.func110, by kernel_rfl, by kernel_rfl⟩⟩
instance : FnB Try.prog 111 := ⟨⟨Try.f111, Try.func111, by kernel_rfl, by kernel_rfl⟩⟩
instance : FnB Try.prog 112 := ⟨⟨Try.f112, Try.func112, by kernel_rfl, by kernel_rfl⟩⟩
instance : FnB Try.prog 113 := ⟨⟨Try.f113, Try.func113, by kernel_rfl, by kernel_rfl⟩⟩
instance : FnB Try.prog 115 := ⟨⟨Try.f115, Try.func115, by kernel_rfl, by kernel_rfl⟩⟩
instance : FnB Try.prog 116 := ⟨⟨Try.f116, Try.func116, by kernel_rfl, by kernel_rfl⟩⟩
instance : FnB Try.prog 117 := ⟨⟨Try.f117, Try.func117, by kernel_rfl, by kernel_rfl⟩⟩
instance : FnB Try.prog 118 := ⟨⟨Try.f118, Try.func118, by kernel_rfl, by kernel_rfl⟩⟩
instance : FnB Try.prog 119 := ⟨⟨Try.f119, Try.func119, by kernel_rfl, by kernel_rfl⟩⟩
instance : FnB Try.prog 120 := ⟨⟨Try.f120, Try.func120, by kernel_rfl, by kernel_rfl⟩⟩
instance : FnB Try.prog 121 := ⟨⟨Try.f121, Try.func121, by kernel_rfl, by kernel_rfl⟩⟩
instance : FnB Try.prog 122 := ⟨⟨Try.f122, Try.func122, by kernel_rfl, by kernel_rfl⟩⟩
instance : FnB Try.prog 123 := ⟨⟨Try.f123, Try.func123, by kernel_rfl, by kernel_rfl⟩⟩
instance : FnB Try.prog 124 := ⟨⟨Try.f124, Try.func124, by kernel_rfl, by kernel_rfl⟩⟩
instance : FnB Try.prog 125 := ⟨⟨Try.f125, Try.func125, by kernel_rfl, by kernel_rfl⟩⟩
instance : FnB Try.prog 126 := ⟨⟨Try.f126, Try.func126, by kernel_rfl, by kernel_rfl⟩⟩
instance : FnB Try.prog 127 := ⟨⟨Try.f127, Try.func127, by kernel_rfl, by kernel_rfl⟩⟩
instance : FnB Try.prog 128 := ⟨⟨Try.f128, Try.func128, by kernel_rfl, by kernel_rfl⟩⟩
instance : FnB Try.prog 129 := ⟨⟨Try.f129, Try.func129, by kernel_rfl, by kernel_rfl⟩⟩
instance : FnB Try.prog 130 := ⟨⟨Try.f130, Try.func130, by kernel_rfl, by kernel_rfl⟩⟩
instance : FnB Try.prog 131 := ⟨⟨Try.f131, Try.func131, by kernel_rfl, by kernel_rfl⟩⟩
instance : FnB Try.prog 133 := ⟨⟨Try.f133, Try.func133, by kernel_rfl, by kernel_rfl⟩⟩
instance : FnB Try.prog 134 := ⟨⟨Try.f134, Try.func134, by kernel_rfl, by kernel_rfl⟩⟩
instance : TyB Try.prog 7 [(0, 1), (1, 1), (2, 1), (3, 1)] := ⟨by kernel_rfl⟩
instance : TyB Try.prog 8 [(0, 1), (1, 1), (2, 1), (3, 1)] := ⟨by kernel_rfl⟩
instance : TyB Try.prog 13 [(0, 1), (1, 1)] := ⟨by kernel_rfl⟩
instance : TyB Try.prog 14 [(0, 1), (1, 1)] := ⟨by kernel_rfl⟩
instance : TyB Try.prog 18 [(0, 1)] := ⟨by kernel_rfl⟩
instance : TyB Try.prog 19 [(0, 1)] := ⟨by kernel_rfl⟩
instance : TyB Try.prog 50 [(0, 1)] := ⟨by kernel_rfl⟩
instance : TyB Try.prog 51 [(0, 1)] := ⟨by kernel_rfl⟩
instance : TyB Try.prog 65 [(0, 1), (1, 1), (2, 1), (3, 1), (4, 1)] := ⟨by kernel_rfl⟩
instance : TyB Try.prog 66 [(0, 1), (1, 1), (2, 1), (3, 1), (4, 1)] := ⟨by kernel_rfl⟩
instance : TyB Try.prog 74 [(0, 1), (1, 1)] := ⟨by kernel_rfl⟩
instance : TyB Try.prog 75 [(0, 1), (1, 1)] := ⟨by kernel_rfl⟩
instance : TyB Try.prog 78 [(0, 1), (1, 1)] := ⟨by kernel_rfl⟩
instance : TyB Try.prog 79 [(0, 1), (1, 1)] := ⟨by kernel_rfl⟩
instance : TyB Try.prog 85 [(0, 1), (1, 1)] := ⟨by kernel_rfl⟩
instance : TyB Try.prog 86 [(0, 1), (1, 1)] := ⟨by kernel_rfl⟩
instance : TyB Try.prog 101 [(0, 1), (1, 1)] := ⟨by kernel_rfl⟩
instance : TyB Try.prog 102 [(0, 1), (1, 1)] := ⟨by kernel_rfl⟩
instance : TyB Try.prog 112 [(0, 1), (1, 1)] := ⟨by kernel_rfl⟩
instance : TyB Try.prog 113 [(0, 1), (1, 1)] := ⟨by kernel_rfl⟩
instance : TyB Try.prog 151 [(0, 1), (1, 1), (2, 1), (3, 1)] := ⟨by kernel_rfl⟩
instance : TyB Try.prog 152 [(0, 1), (1, 1), (2, 1), (3, 1)] := ⟨by kernel_rfl⟩
instance : TyB Try.prog 154 [(0, 0)] := ⟨by kernel_rfl⟩
instance : TyB Try.prog 155 [(0, 0)] := ⟨by kernel_rfl⟩
instance : TyB Try.prog 161 [(0, 1), (1, 1), (2, 1), (3, 1), (4, 1), (5, 1), (6, 1), (7, 1), (8, 1), (9, 1), (10, 1)] := ⟨by kernel_rfl⟩
instance : TyB Try.prog 162 [(0, 1), (1, 1), (2, 1), (3, 1), (4, 1), (5, 1), (6, 1), (7, 1), (8, 1), (9, 1), (10, 1)] := ⟨by kernel_rfl⟩
end Go.AL
namespace Go.AL
open Go Go.Proofs Go.RowKit
theorem zcQ : ∀ n : Fin 32, 1 ≤ n.val → IntKind.u64.wrap ((BitVec.ofInt IntKind.u64.bits (IntKind.u64.wrap (IntKind.i64.wrap (0 - (n.val : Int)))) &&& BitVec.ofInt IntKind.u64.bits 31).toNat : Int) = ((32 - n.val : Nat) : Int) := by decide +kernel
theorem yv {n : Int} (h0 : 0 ≤ n) (h1 : n < 18446744073709551616) : IntKind.u64.wrap n = n := by
  simp only [IntKind.wrap, IntKind.bits, IntKind.signed, Bool.false_and, Bool.false_eq_true, if_false]; omega
theorem ze7 {n : Int} (h0 : 0 ≤ n) (h1 : n < 4294967296) : IntKind.u32.wrap n = n := by
  simp only [IntKind.wrap, IntKind.bits, IntKind.signed, Bool.false_and, Bool.false_eq_true, if_false]; omega
theorem zbR (s : ByteArray) (i : Int) : IntKind.u32.wrap (bAt s i) = bAt s i := by
  have := jT s i
  exact ze7 (by omega) (by omega)
theorem qh {n : Nat} (h : n ≤ 32) : min ((n : Nat) : Int).toNat IntKind.u32.bits = n := by
  have : IntKind.u32.bits = 32 := rfl
  omega
theorem zf1 (a b : Int) : wo a b = wo b a := by unfold wo; rw [BitVec.or_comm]
set_option maxHeartbeats 2000000 in
theorem zef (x : Int) (n : Nat) (h1 : 1 ≤ n) (h2 : n ≤ 31) : Spec Try.prog 113 [.t (.int .u32 x), .t (.int .i64 (IntKind.i64.wrap (0 - (n : Int))))] [] (.t (.int .u32 (rr x n))) [] := by
  have ha := zcQ ⟨n, by omega⟩ h1
  simp only at ha
  refine wI Try.func113 ?_
  repeat' (first | refine wC ?_ | refine wK ?_ | ((with_reducible refine zJ ?_); first | refine zdn rfl rfl rfl rfl rfl rfl ?_ ?_ | refine vM rfl rfl rfl rfl rfl rfl ?_ ?_) | fail)
  all_goals rw [ha]
  · omega
  · rw [yv (by omega) (by omega)]; omega
  · refine zx (zd rfl rfl (congrArg (T.int .u32) ?_)) (by simp)
    rw [yv (by omega) (by omega), show (32 : Int) - ((32 - n : Nat) : Int) = (n : Int) by omega, qh (by omega), qh (by omega)]
    exact zf1 _ _
theorem z8 (x : Int) (n : Nat) (h1 : 1 ≤ n) (h2 : n ≤ 31) : Spec Try.prog 95 [.t (.int .u32 x), .t (.int .i64 (n : Int))] [] (.t (.int .u32 (rr x n))) [] := by
  have hR := zef x n h1 h2
  refine wI Try.func95 ?_
  repeat' (first | refine wC ?_ | refine wK ?_ | ((with_reducible refine zk ?_); refine wL hR ?_) | fail)
  all_goals exact zx (zd rfl rfl rfl) (by simp)
set_option maxHeartbeats 2000000 in
theorem ya (x : Int) (n : Nat) (h1 : 1 ≤ n) (h2 : n ≤ 31) : Spec Try.prog 97 [.t (.int .u32 x), .t (.int .i64 (n : Int))] [] (.t (.int .u32 (rr x n))) [] := by
  refine wI Try.func97 ?_
  repeat' (first | refine wC ?_ | refine wK ?_ | ((with_reducible refine zJ ?_); first | refine zdn rfl rfl rfl rfl rfl rfl ?_ ?_ | refine vM rfl rfl rfl rfl rfl rfl ?_ ?_) | fail)
  · rw [yv (by omega) (by omega)]; omega
  · rw [zj (n := (32 : Int) - n) (by omega) (by omega), yv (by omega) (by omega)]; omega
  · refine zx (zd rfl rfl (congrArg (T.int .u32) ?_)) (by simp)
    rw [zj (n := (32 : Int) - n) (by omega) (by omega), yv (n := (n : Int)) (by omega) (by omega), yv (n := (32 : Int) - n) (by omega) (by omega), show (32 : Int) - (n : Int) = ((32 - n : Nat) : Int) by omega, qh (by omega), qh (by omega)]
    rfl
set_option maxHeartbeats 2000000 in
theorem zda (s : ByteArray) (hs : 4 ≤ s.size) : Spec Try.prog 96 [.t (.str s)] [] (.t (.int .u32 (vB s.data.toList 0))) [] := by
  refine wI Try.func96 ?_
  repeat' (first | refine wC ?_ | refine wK ?_ | ((with_reducible refine yf ?_); refine zy rfl rfl rfl rfl rfl rfl ?_ ?_ ?_) | fail)
  all_goals try omega
  refine zx (zd rfl rfl (congrArg (T.int .u32) ?_)) (by simp)
  simp only [zbR]
  rfl
abbrev xI : Int → T := T.int .u32
theorem yW (l : List Int) : ∀ x ∈ l.map xI, x.isAgg = false := fun x hx => by
  obtain ⟨n, _, rfl⟩ := List.mem_map.1 hx; rfl
theorem zbL {f : Nat → List Int → List Int} (hf : ∀ i l, (f i l).length = l.length) (c t : Nat) (a : List Int) : (y8 f c t a).length = a.length :=
  zbX (Q := fun l => l.length = a.length) (fun i x h => (hf i x).trans h) c t a rfl
theorem zaL (p : List UInt8) : (vU p).length = 64 := (zbL (fun i l => by simp) _ _ _).trans rfl
theorem zat (w : List Int) : (zad w).length = w.length := zbL (fun i l => by simp [xE]) _ _ _
def wU (v : List Int) (i : Nat) (l : List Int) : List Int := l.set i (wp (l.getD i 0) (v.getD i 0))
theorem qx (u v : H8) : y8 (wU v.l) 8 0 u.l = (qO u v).l := rfl
theorem zhl (v : H8) : v.t.map AV.t = (v.l.map xI).map AV.t := rfl
set_option maxHeartbeats 8000000 in
theorem zeM (v : H8) (b : ByteArray) (hb : 64 ≤ b.size) (hb2 : b.size ≤ 1000000000) : Spec Try.prog 66 [.ref (.par 0) 0 0 0, .t (.str b), .ref (.par 1) 0 0 0] [(.par 0, .var 89 (v.t.map AV.t)), (.par 1, .arr 96 1 (zbN.map xI))] (.tup []) [(.par 0, .var 89 ((zdh v b.data.toList).t.map AV.t)), (.par 1, .arr 96 1 (zbN.map xI))] := by
  unfold zdh
  obtain ⟨V, hV⟩ : ∃ V, V = jK (zad (vU b.data.toList)) v := ⟨_, rfl⟩
  obtain ⟨S, hS⟩ : ∃ S, S = zad (vU b.data.toList) := ⟨_, rfl⟩
  obtain ⟨W, hW⟩ : ∃ W, W = vU b.data.toList := ⟨_, rfl⟩
  have hWl : W.length = 64 := by rw [hW]; exact zaL _
  have hSl : S.length = 64 := by rw [hS, ← hW, zat]; exact hWl
  rw [← hW] at hS hV
  rw [← hW]
  rw [← hS] at hV ⊢
  rw [← hV]
  unfold jK at hV
  unfold zad at hS
  unfold vU at hW
  obtain ⟨K, hK⟩ : ∃ K, K = zbN := ⟨_, rfl⟩
  have hKl : K.length = 64 := by rw [hK]; rfl
  rw [← hK] at hV ⊢
  refine wIG Try.func66 ?_
  repeat' (first | refine wC ?_ | refine wK ?_ | fail)
  refine zb (zU (id := .loc 6) rfl (RowLE.arr (es := w0L.map xI) rfl (yW _)) rfl) ?_
  refine zb (za [0, 1, 2, 6, 21] [.par 0, .par 1, .loc 6] rfl rfl) ?_
  refine zf (fun p env st => ∃ (t : Nat) (w : List Int), t ≤ 16 ∧ p = 16 - t ∧ w.length = 64 ∧ W = y8 (fun t w => w.set t (vB b.data.toList t)) (16 - t) t w ∧
      env = EnvL.get [(0, .ref (.par 0) 0 0 0), (1, .t (.str b)), (2, .ref (.par 1) 0 0 0), (6, .ref (.loc 6) 0 0 0), (21, .t (.int .i64 (t : Int)))] ∧
      st = StO.get [(.par 0, some (.var 89 (v.t.map AV.t))), (.par 1, some (.arr 96 1 (K.map xI))), (.loc 6, some (.arr 96 1 (w.map xI)))])
    ?_ (n := 16) ⟨0, w0L, by omega, rfl, rfl, hW, rfl, rfl⟩
  rintro p env st ⟨t, w, ht, rfl, hw, hi, rfl, rfl⟩
  clear hW
  by_cases hlt : t < 16
  · obtain ⟨c, hc⟩ : ∃ c, 16 - t = c + 1 := ⟨16 - t - 1, by omega⟩
    rw [hc] at hi
    simp only [y8] at hi
    have w0 : IntKind.i64.wrap (4 * (t : Int)) = ((4 * t : Nat) : Int) := by rw [zj (by omega) (by omega)]; omega
    have w1 : IntKind.i64.wrap (((4 * t : Nat) : Int) + 1) = ((4 * t + 1 : Nat) : Int) := by rw [zj (by omega) (by omega)]; omega
    have w2 : IntKind.i64.wrap (((4 * t : Nat) : Int) + 2) = ((4 * t + 2 : Nat) : Int) := by rw [zj (by omega) (by omega)]; omega
    have w3 : IntKind.i64.wrap (((4 * t : Nat) : Int) + 3) = ((4 * t + 3 : Nat) : Int) := by rw [zj (by omega) (by omega)]; omega
    repeat' (first | refine wC ?_ | refine wK ?_ | ((with_reducible refine ze ?_); refine zl rfl rfl rfl rfl rfl rfl ?_ ?_ ?_) | ((with_reducible refine yf ?_); refine zy rfl rfl rfl rfl rfl rfl ?_ ?_ ?_) | ((with_reducible refine yS ?_); refine zZ rfl rfl rfl rfl rfl rfl rfl ?_ ?_) | refine zm rfl ?_ ?_ <;> intro hc | fail)
    all_goals try simp only [w0, w1, w2, w3, zbR]
    all_goals try omega
    exact zv (n' := 16 - (t + 1)) (by omega) (za [0, 1, 2, 6, 21] [.par 0, .par 1, .loc 6] rfl rfl) ⟨t + 1, w.set t (vB b.data.toList t), by omega, rfl, by simpa using hw, by rw [hi, show 16 - (t + 1) = c by omega], by rw [zj (by omega) (by omega)]; rfl, rfl⟩
  · obtain rfl : t = 16 := by omega
    simp only [Nat.sub_self, y8] at hi
    subst hi
    repeat' (first | refine wC ?_ | refine wK ?_ | fail)
    all_goals try (exfalso; omega)
    refine zb (za [0, 1, 2, 6, 8] [.par 0, .par 1, .loc 6] rfl rfl) ?_
    refine zf (fun p env st => ∃ (t : Nat) (w : List Int), 16 ≤ t ∧ t ≤ 64 ∧ p = 64 - t ∧ w.length = 64 ∧ S = y8 xE (64 - t) t w ∧
        env = EnvL.get [(0, .ref (.par 0) 0 0 0), (1, .t (.str b)), (2, .ref (.par 1) 0 0 0), (6, .ref (.loc 6) 0 0 0), (8, .t (.int .i64 (t : Int)))] ∧
        st = StO.get [(.par 0, some (.var 89 (v.t.map AV.t))), (.par 1, some (.arr 96 1 (K.map xI))), (.loc 6, some (.arr 96 1 (w.map xI)))])
      ?_ (n := 48) ⟨16, W, by omega, by omega, rfl, hw, hS, rfl, rfl⟩
    rintro p env st ⟨t, w, ht0, ht, rfl, hwl, hi, rfl, rfl⟩
    clear hS
    by_cases hlt : t < 64
    · obtain ⟨c, hc⟩ : ∃ c, 64 - t = c + 1 := ⟨64 - t - 1, by omega⟩
      rw [hc] at hi
      simp only [y8, xE] at hi
      have w0 : IntKind.i64.wrap ((t : Int) - 15) = ((t - 15 : Nat) : Int) := by rw [zj (by omega) (by omega)]; omega
      have w1 : IntKind.i64.wrap ((t : Int) - 2) = ((t - 2 : Nat) : Int) := by rw [zj (by omega) (by omega)]; omega
      have w2 : IntKind.i64.wrap ((t : Int) - 7) = ((t - 7 : Nat) : Int) := by rw [zj (by omega) (by omega)]; omega
      have w3 : IntKind.i64.wrap ((t : Int) - 16) = ((t - 16 : Nat) : Int) := by rw [zj (by omega) (by omega)]; omega
      have r7 := fun x => z8 x 7 (by omega) (by omega)
      have r18 := fun x => z8 x 18 (by omega) (by omega)
      have r17 := fun x => z8 x 17 (by omega) (by omega)
      have r19 := fun x => z8 x 19 (by omega) (by omega)
      repeat' (first | refine wC ?_ | refine wK ?_ | ((with_reducible refine ze ?_); refine zl rfl rfl rfl rfl rfl rfl ?_ ?_ ?_) | ((with_reducible refine zk ?_); first | refine wL (r7 _) ?_ | refine wL (r18 _) ?_ | refine wL (r17 _) ?_ | refine wL (r19 _) ?_) | ((with_reducible refine xR ?_); refine yp rfl rfl rfl rfl rfl rfl rfl rfl ?_ ?_) | ((with_reducible refine yS ?_); refine zZ rfl rfl rfl rfl rfl rfl rfl ?_ ?_) | refine zm rfl ?_ ?_ <;> intro hc | fail)
      all_goals try simp only [w0, w1, w2, w3]
      all_goals try omega
      all_goals try (rw [Int.toNat_natCast]; omega)
      exact zv (n' := 64 - (t + 1)) (by omega) (za [0, 1, 2, 6, 8] [.par 0, .par 1, .loc 6] rfl rfl) ⟨t + 1, _, by omega, by omega, rfl, by rw [List.length_set]; exact hwl, by rw [hi, show 64 - (t + 1) = c by omega]; rfl, by rw [zj (by omega) (by omega)]; rfl, rfl⟩
    · obtain rfl : t = 64 := by omega
      simp only [Nat.sub_self, y8] at hi
      subst hi
      repeat' (first | refine wC ?_ | refine wK ?_ | fail)
      all_goals try (exfalso; omega)
      refine zb (za [0, 2, 6, 13, 102] [.par 0, .par 1, .loc 6, .loc 13] rfl rfl) ?_
      refine zf (fun p env st => ∃ (t : Nat) (r : H8), t ≤ 64 ∧ p = 64 - t ∧ V = y8 (fun t v => rnd (K.getD t 0) (S.getD t 0) v) (64 - t) t r ∧
          env = EnvL.get [(0, .ref (.par 0) 0 0 0), (2, .ref (.par 1) 0 0 0), (6, .ref (.loc 6) 0 0 0), (13, .ref (.loc 13) 0 0 0), (102, .t (.int .i64 (t : Int)))] ∧
          st = StO.get [(.par 0, some (.var 89 (v.t.map AV.t))), (.par 1, some (.arr 96 1 (K.map xI))), (.loc 6, some (.arr 96 1 (S.map xI))), (.loc 13, some (.var 89 (r.t.map AV.t)))])
        ?_ (n := 64) ⟨0, v, by omega, rfl, hV, rfl, rfl⟩
      rintro p env st ⟨t, r, ht, rfl, hi, rfl, rfl⟩
      clear hV
      by_cases hlt : t < 64
      · obtain ⟨c, hc⟩ : ∃ c, 64 - t = c + 1 := ⟨64 - t - 1, by omega⟩
        rw [hc] at hi
        simp only [y8] at hi
        obtain ⟨a1, a2, a3, a4, a5, a6, a7, a8⟩ := r
        have r6 := fun x => z8 x 6 (by omega) (by omega)
        have r11 := fun x => z8 x 11 (by omega) (by omega)
        have r25 := fun x => z8 x 25 (by omega) (by omega)
        have r2 := fun x => z8 x 2 (by omega) (by omega)
        have r13 := fun x => z8 x 13 (by omega) (by omega)
        have r22 := fun x => z8 x 22 (by omega) (by omega)
        simp only [H8.t, List.map_cons, List.map_nil]
        repeat' (first | refine wC ?_ | refine wK ?_ | ((with_reducible refine ze ?_); refine zl rfl rfl rfl rfl rfl rfl ?_ ?_ ?_) | ((with_reducible refine zk ?_); first | refine wL (r6 _) ?_ | refine wL (r11 _) ?_ | refine wL (r25 _) ?_ | refine wL (r2 _) ?_ | refine wL (r13 _) ?_ | refine wL (r22 _) ?_) | ((with_reducible refine xR ?_); refine yp rfl rfl rfl rfl rfl rfl rfl rfl ?_ ?_) | ((with_reducible refine wQ ?_); refine yK (r := (.t (.agg _))) rfl rfl rfl rfl rfl rfl rfl ?_) | refine zm rfl ?_ ?_ <;> intro hc | fail)
        all_goals try omega
        all_goals try (rw [Int.toNat_natCast]; omega)
        exact zv (n' := 64 - (t + 1)) (by omega) (za [0, 2, 6, 13, 102] [.par 0, .par 1, .loc 6, .loc 13] rfl rfl) ⟨t + 1, rnd (K.getD t 0) (S.getD t 0) ⟨a1, a2, a3, a4, a5, a6, a7, a8⟩, by omega, rfl, by rw [hi, show 64 - (t + 1) = c by omega], by rw [zj (by omega) (by omega)]; rfl, rfl⟩
      · obtain rfl : t = 64 := by omega
        simp only [Nat.sub_self, y8] at hi
        subst hi
        obtain ⟨R, hR⟩ : ∃ R, R = (qO v V).l := ⟨_, rfl⟩
        have hR2 : R = y8 (wU V.l) 8 0 v.l := by rw [hR, qx]
        have hrt : (V.l.map xI) = V.t := rfl
        have hvl : v.l.length = 8 := rfl
        have hrl : V.l.length = 8 := rfl
        rw [zhl (qO v V), ← hR]
        repeat' (first | refine wC ?_ | refine wK ?_ | fail)
        all_goals try (exfalso; omega)
        refine zb (zU (id := .par 0) rfl (RowLE.arr (es := v.l.map xI) rfl (yW _)) rfl) ?_
        refine zb (za [0, 186, 187] [.par 0, .par 1] rfl rfl) ?_
        obtain ⟨vl, hvl'⟩ : ∃ l, l = v.l := ⟨_, rfl⟩
        obtain ⟨rl, hrl'⟩ : ∃ l, l = V.l := ⟨_, rfl⟩
        rw [← hvl'] at hR2 hvl
        rw [← hrl'] at hR2 hrl
        clear hR
        refine zf (fun p env st => ∃ (t : Nat) (l : List Int), t ≤ 8 ∧ p = 8 - t ∧ l.length = 8 ∧ R = y8 (wU rl) (8 - t) t l ∧
            env = EnvL.get [(0, .ref (.par 0) 0 0 0), (186, .t (.agg (rl.map xI))), (187, .t (.int .i64 (t : Int)))] ∧
            st = StO.get [(.par 0, some (.arr 89 1 (l.map xI))), (.par 1, some (.arr 96 1 (K.map xI)))])
          ?_ (n := 8) ⟨0, vl, by omega, rfl, hvl, hR2, by rw [hrl']; rfl, by rw [hvl']; rfl⟩
        clear hR2
        rintro p env st ⟨t, l, ht, rfl, hl, hi, rfl, rfl⟩
        by_cases hlt : t < 8
        · obtain ⟨c, hc⟩ : ∃ c, 8 - t = c + 1 := ⟨8 - t - 1, by omega⟩
          rw [hc] at hi
          simp only [y8, wU] at hi
          repeat' (first | refine wC ?_ | refine wK ?_ | ((with_reducible refine ze ?_); refine zl rfl rfl rfl rfl rfl rfl ?_ ?_ ?_) | ((with_reducible refine xR ?_); refine yp rfl rfl rfl rfl rfl rfl rfl rfl ?_ ?_) | ((with_reducible refine yS ?_); refine zZ rfl rfl rfl rfl rfl rfl rfl ?_ ?_) | ((with_reducible refine yf ?_); refine xO rfl rfl rfl rfl rfl rfl rfl ?_ ?_ ?_ ?_) | refine zm rfl ?_ ?_ <;> intro hc | fail)
          all_goals try omega
          all_goals try (rw [Int.toNat_natCast]; omega)
          exact zv (n' := 8 - (t + 1)) (by omega) (za [0, 186, 187] [.par 0, .par 1] rfl rfl) ⟨t + 1, _, by omega, rfl, by rw [List.length_set]; exact hl, by rw [hi, show 8 - (t + 1) = c by omega]; rfl, by rw [zj (by omega) (by omega)]; rfl, rfl⟩
        · obtain rfl : t = 8 := by omega
          simp only [Nat.sub_self, y8] at hi
          subst hi
          repeat' (first | refine wC ?_ | refine wK ?_ | fail)
          all_goals try (exfalso; omega)
          refine zV (zU (id := .par 0) rfl (RowLE.unarr (cs := (R.map xI).map AV.t) rfl (yW _)) rfl) ?_
          exact yI (zfK (qt rfl) (zC ⟨rfl, rfl, trivial⟩))
theorem zf3 (l : List UInt8) (n i : Nat) : bL (l.drop n) i = bL l (n + i) := by
  unfold bL
  rw [List.getD_eq_getElem?_getD, List.getD_eq_getElem?_getD, List.getElem?_drop]
theorem km (b : ByteArray) (i j : Nat) : (b.extract i j).data.toList = (b.data.toList.drop i).take (j - i) := by
  simp [ByteArray.data_extract]
theorem zde (b : ByteArray) (t : Nat) (hb : 64 ≤ b.size) : vB (b.extract ((4 * t : Nat) : Int).toNat (b.size : Int).toNat).data.toList 0 = vB b.data.toList t := by
  rw [km, List.take_of_length_le (by rw [List.length_drop]; have := zK b; omega)]
  unfold vB
  simp only [zf3, Int.toNat_natCast, Nat.mul_zero, Nat.add_zero, Nat.zero_add]
set_option maxHeartbeats 8000000 in
theorem zcW (v : H8) (b : ByteArray) (hb : 64 ≤ b.size) (hb2 : b.size ≤ 1000000000) : Spec Try.prog 69 [.t (.agg v.t), .t (.agg (zbN.map xI)), .t (.str b)] [] (.t (.agg (zdh v b.data.toList).t)) [] := by
  unfold zdh
  obtain ⟨V, hV⟩ : ∃ V, V = jK (zad (vU b.data.toList)) v := ⟨_, rfl⟩
  obtain ⟨S, hS⟩ : ∃ S, S = zad (vU b.data.toList) := ⟨_, rfl⟩
  obtain ⟨W, hW⟩ : ∃ W, W = vU b.data.toList := ⟨_, rfl⟩
  have hWl : W.length = 64 := by rw [hW]; exact zaL _
  have hSl : S.length = 64 := by rw [hS, ← hW, zat]; exact hWl
  rw [← hW] at hS hV
  rw [← hW]
  rw [← hS] at hV ⊢
  rw [← hV]
  unfold jK at hV
  unfold zad at hS
  unfold vU at hW
  refine wIG Try.func69 ?_
  repeat' (first | refine wC ?_ | refine wK ?_ | fail)
  refine zb (zU (id := .loc 7) rfl (RowLE.arr (es := w0L.map xI) rfl (yW _)) rfl) ?_
  refine zb (zU (id := .loc 4) rfl (RowLE.arr (es := zbN.map xI) rfl (yW _)) rfl) ?_
  obtain ⟨K, hK⟩ : ∃ K, K = zbN := ⟨_, rfl⟩
  have hKl : K.length = 64 := by rw [hK]; rfl
  rw [← hK] at hV ⊢
  refine zb (za [2, 3, 4, 6, 7, 21] [.loc 3, .loc 4, .loc 6, .loc 7] rfl rfl) ?_
  refine zf (fun p env st => ∃ (t : Nat) (w : List Int), t ≤ 16 ∧ p = 16 - t ∧ w.length = 64 ∧ W = y8 (fun t w => w.set t (vB b.data.toList t)) (16 - t) t w ∧
      env = EnvL.get [(2, .t (.str b)), (3, .ref (.loc 3) 0 0 0), (4, .ref (.loc 4) 0 0 0), (6, .ref (.loc 6) 0 0 0), (7, .ref (.loc 7) 0 0 0), (21, .t (.int .i64 (t : Int)))] ∧
      st = StO.get [(.loc 3, some (.var 88 (v.t.map AV.t))), (.loc 4, some (.arr 96 1 (K.map xI))), (.loc 6, some (.var 88 [.t (.int .u32 0), .t (.int .u32 0), .t (.int .u32 0), .t (.int .u32 0), .t (.int .u32 0), .t (.int .u32 0), .t (.int .u32 0), .t (.int .u32 0)])), (.loc 7, some (.arr 96 1 (w.map xI)))])
    ?_ (n := 16) ⟨0, w0L, by omega, rfl, rfl, hW, rfl, rfl⟩
  rintro p env st ⟨t, w, ht, rfl, hw, hi, rfl, rfl⟩
  clear hW
  by_cases hlt : t < 16
  · obtain ⟨c, hc⟩ : ∃ c, 16 - t = c + 1 := ⟨16 - t - 1, by omega⟩
    rw [hc] at hi
    simp only [y8] at hi
    have w0 : IntKind.i64.wrap (4 * (t : Int)) = ((4 * t : Nat) : Int) := by rw [zj (by omega) (by omega)]; omega
    have hW : Spec Try.prog 96 [.t (.str (b.extract (IntKind.i64.wrap (4 * (t : Int))).toNat (b.size : Int).toNat))] [] (.t (.int .u32 (vB b.data.toList t))) [] := by
      rw [w0, ← zde b t hb]
      exact zda _ (by rw [ByteArray.size_extract]; omega)
    repeat' (first | refine wC ?_ | refine wK ?_ | ((with_reducible refine ze ?_); refine zl rfl rfl rfl rfl rfl rfl ?_ ?_ ?_) | ((with_reducible refine yn ?_); refine zr rfl rfl ⟨_, rfl⟩ rfl rfl rfl rfl ?_ ?_ ?_ ?_) | ((with_reducible refine zk ?_); refine wL hW ?_) | ((with_reducible refine yS ?_); refine zZ rfl rfl rfl rfl rfl rfl rfl ?_ ?_) | refine zm rfl ?_ ?_ <;> intro hc | fail)
    all_goals try simp only [w0]
    all_goals try omega
    exact zv (n' := 16 - (t + 1)) (by omega) (za [2, 3, 4, 6, 7, 21] [.loc 3, .loc 4, .loc 6, .loc 7] rfl rfl) ⟨t + 1, w.set t (vB b.data.toList t), by omega, rfl, by simpa using hw, by rw [hi, show 16 - (t + 1) = c by omega], by rw [zj (by omega) (by omega)]; rfl, rfl⟩
  · obtain rfl : t = 16 := by omega
    simp only [Nat.sub_self, y8] at hi
    subst hi
    repeat' (first | refine wC ?_ | refine wK ?_ | fail)
    all_goals try (exfalso; omega)
    refine zb (za [2, 3, 4, 6, 7, 9] [.loc 3, .loc 4, .loc 6, .loc 7] rfl rfl) ?_
    refine zf (fun p env st => ∃ (t : Nat) (w : List Int), 16 ≤ t ∧ t ≤ 64 ∧ p = 64 - t ∧ w.length = 64 ∧ S = y8 xE (64 - t) t w ∧
        env = EnvL.get [(2, .t (.str b)), (3, .ref (.loc 3) 0 0 0), (4, .ref (.loc 4) 0 0 0), (6, .ref (.loc 6) 0 0 0), (7, .ref (.loc 7) 0 0 0), (9, .t (.int .i64 (t : Int)))] ∧
        st = StO.get [(.loc 3, some (.var 88 (v.t.map AV.t))), (.loc 4, some (.arr 96 1 (K.map xI))), (.loc 6, some (.var 88 [.t (.int .u32 0), .t (.int .u32 0), .t (.int .u32 0), .t (.int .u32 0), .t (.int .u32 0), .t (.int .u32 0), .t (.int .u32 0), .t (.int .u32 0)])), (.loc 7, some (.arr 96 1 (w.map xI)))])
      ?_ (n := 48) ⟨16, W, by omega, by omega, rfl, hw, hS, rfl, rfl⟩
    rintro p env st ⟨t, w, ht0, ht, rfl, hwl, hi, rfl, rfl⟩
    clear hS
    by_cases hlt : t < 64
    · obtain ⟨c, hc⟩ : ∃ c, 64 - t = c + 1 := ⟨64 - t - 1, by omega⟩
      rw [hc] at hi
      simp only [y8, xE] at hi
      have w0 : IntKind.i64.wrap ((t : Int) - 15) = ((t - 15 : Nat) : Int) := by rw [zj (by omega) (by omega)]; omega
      have w1 : IntKind.i64.wrap ((t : Int) - 2) = ((t - 2 : Nat) : Int) := by rw [zj (by omega) (by omega)]; omega
      have w2 : IntKind.i64.wrap ((t : Int) - 7) = ((t - 7 : Nat) : Int) := by rw [zj (by omega) (by omega)]; omega
      have w3 : IntKind.i64.wrap ((t : Int) - 16) = ((t - 16 : Nat) : Int) := by rw [zj (by omega) (by omega)]; omega
      have r7 := fun x => ya x 7 (by omega) (by omega)
      have r18 := fun x => ya x 18 (by omega) (by omega)
      have r17 := fun x => ya x 17 (by omega) (by omega)
      have r19 := fun x => ya x 19 (by omega) (by omega)
      repeat' (first | refine wC ?_ | refine wK ?_ | ((with_reducible refine ze ?_); refine zl rfl rfl rfl rfl rfl rfl ?_ ?_ ?_) | ((with_reducible refine zk ?_); first | refine wL (r7 _) ?_ | refine wL (r18 _) ?_ | refine wL (r17 _) ?_ | refine wL (r19 _) ?_) | ((with_reducible refine xR ?_); refine yp rfl rfl rfl rfl rfl rfl rfl rfl ?_ ?_) | ((with_reducible refine yS ?_); refine zZ rfl rfl rfl rfl rfl rfl rfl ?_ ?_) | refine zm rfl ?_ ?_ <;> intro hc | fail)
      all_goals try simp only [w0, w1, w2, w3]
      all_goals try omega
      all_goals try (rw [Int.toNat_natCast]; omega)
      exact zv (n' := 64 - (t + 1)) (by omega) (za [2, 3, 4, 6, 7, 9] [.loc 3, .loc 4, .loc 6, .loc 7] rfl rfl) ⟨t + 1, _, by omega, by omega, rfl, by rw [List.length_set]; exact hwl, by rw [hi, show 64 - (t + 1) = c by omega]; rfl, by rw [zj (by omega) (by omega)]; rfl, rfl⟩
    · obtain rfl : t = 64 := by omega
      simp only [Nat.sub_self, y8] at hi
      subst hi
      repeat' (first | refine wC ?_ | refine wK ?_ | fail)
      all_goals try (exfalso; omega)
      refine zb (za [3, 4, 6, 7, 14, 76] [.loc 3, .loc 4, .loc 6, .loc 7, .loc 14] rfl rfl) ?_
      refine zf (fun p env st => ∃ (t : Nat) (r : H8), t ≤ 64 ∧ p = 64 - t ∧ V = y8 (fun t v => rnd (K.getD t 0) (S.getD t 0) v) (64 - t) t r ∧
          env = EnvL.get [(3, .ref (.loc 3) 0 0 0), (4, .ref (.loc 4) 0 0 0), (6, .ref (.loc 6) 0 0 0), (7, .ref (.loc 7) 0 0 0), (14, .ref (.loc 14) 0 0 0), (76, .t (.int .i64 (t : Int)))] ∧
          st = StO.get [(.loc 3, some (.var 88 (v.t.map AV.t))), (.loc 4, some (.arr 96 1 (K.map xI))), (.loc 6, some (.var 88 [.t (.int .u32 0), .t (.int .u32 0), .t (.int .u32 0), .t (.int .u32 0), .t (.int .u32 0), .t (.int .u32 0), .t (.int .u32 0), .t (.int .u32 0)])), (.loc 7, some (.arr 96 1 (S.map xI))), (.loc 14, some (.var 88 (r.t.map AV.t)))])
        ?_ (n := 64) ⟨0, v, by omega, rfl, hV, rfl, rfl⟩
      rintro p env st ⟨t, r, ht, rfl, hi, rfl, rfl⟩
      clear hV
      by_cases hlt : t < 64
      · obtain ⟨c, hc⟩ : ∃ c, 64 - t = c + 1 := ⟨64 - t - 1, by omega⟩
        rw [hc] at hi
        simp only [y8] at hi
        obtain ⟨a1, a2, a3, a4, a5, a6, a7, a8⟩ := r
        have r6 := fun x => ya x 6 (by omega) (by omega)
        have r11 := fun x => ya x 11 (by omega) (by omega)
        have r25 := fun x => ya x 25 (by omega) (by omega)
        have r2 := fun x => ya x 2 (by omega) (by omega)
        have r13 := fun x => ya x 13 (by omega) (by omega)
        have r22 := fun x => ya x 22 (by omega) (by omega)
        simp only [H8.t, List.map_cons, List.map_nil]
        repeat' (first | refine wC ?_ | refine wK ?_ | ((with_reducible refine ze ?_); refine zl rfl rfl rfl rfl rfl rfl ?_ ?_ ?_) | ((with_reducible refine zk ?_); first | refine wL (r6 _) ?_ | refine wL (r11 _) ?_ | refine wL (r25 _) ?_ | refine wL (r2 _) ?_ | refine wL (r13 _) ?_ | refine wL (r22 _) ?_) | ((with_reducible refine xR ?_); refine yp rfl rfl rfl rfl rfl rfl rfl rfl ?_ ?_) | ((with_reducible refine wQ ?_); refine yK (r := (.t (.agg _))) rfl rfl rfl rfl rfl rfl rfl ?_) | refine zm rfl ?_ ?_ <;> intro hc | fail)
        all_goals try omega
        all_goals try (rw [Int.toNat_natCast]; omega)
        exact zv (n' := 64 - (t + 1)) (by omega) (za [3, 4, 6, 7, 14, 76] [.loc 3, .loc 4, .loc 6, .loc 7, .loc 14] rfl rfl) ⟨t + 1, rnd (K.getD t 0) (S.getD t 0) ⟨a1, a2, a3, a4, a5, a6, a7, a8⟩, by omega, rfl, by rw [hi, show 64 - (t + 1) = c by omega], by rw [zj (by omega) (by omega)]; rfl, rfl⟩
      · obtain rfl : t = 64 := by omega
        simp only [Nat.sub_self, y8] at hi
        subst hi
        obtain ⟨R, hR⟩ : ∃ R, R = (qO v V).l := ⟨_, rfl⟩
        have hR2 : R = y8 (wU v.l) 8 0 V.l := by rw [hR, qx, zdd]
        have hvl : v.l.length = 8 := rfl
        have hrl : V.l.length = 8 := rfl
        repeat' (first | refine wC ?_ | refine wK ?_ | fail)
        all_goals try (exfalso; omega)
        refine zb (zU (id := .loc 3) rfl (RowLE.arr (es := v.l.map xI) rfl (yW _)) rfl) ?_
        refine zb (zU (id := .loc 14) rfl (RowLE.arr (es := V.l.map xI) rfl (yW _)) rfl) ?_
        refine zb (za [3, 6, 14, 156] [.loc 3, .loc 6, .loc 14] rfl rfl) ?_
        obtain ⟨vl, hvl'⟩ : ∃ l, l = v.l := ⟨_, rfl⟩
        obtain ⟨rl, hrl'⟩ : ∃ l, l = V.l := ⟨_, rfl⟩
        rw [← hvl', ← hrl'] at hR2
        rw [← hvl'] at hvl
        rw [← hrl'] at hrl
        refine zf (fun p env st => ∃ (t : Nat) (l : List Int), t ≤ 8 ∧ p = 8 - t ∧ l.length = 8 ∧ R = y8 (wU vl) (8 - t) t l ∧
            env = EnvL.get [(3, .ref (.loc 3) 0 0 0), (6, .ref (.loc 6) 0 0 0), (14, .ref (.loc 14) 0 0 0), (156, .t (.int .i64 (t : Int)))] ∧
            st = StO.get [(.loc 3, some (.arr 88 1 (vl.map xI))), (.loc 6, some (.var 88 [.t (.int .u32 0), .t (.int .u32 0), .t (.int .u32 0), .t (.int .u32 0), .t (.int .u32 0), .t (.int .u32 0), .t (.int .u32 0), .t (.int .u32 0)])), (.loc 14, some (.arr 88 1 (l.map xI)))])
          ?_ (n := 8) ⟨0, rl, by omega, rfl, hrl, hR2, rfl, by rw [hvl', hrl']; rfl⟩
        clear hR2
        rintro p env st ⟨t, l, ht, rfl, hl, hi, rfl, rfl⟩
        by_cases hlt : t < 8
        · obtain ⟨c, hc⟩ : ∃ c, 8 - t = c + 1 := ⟨8 - t - 1, by omega⟩
          rw [hc] at hi
          simp only [y8, wU] at hi
          repeat' (first | refine wC ?_ | refine wK ?_ | ((with_reducible refine ze ?_); refine zl rfl rfl rfl rfl rfl rfl ?_ ?_ ?_) | ((with_reducible refine xR ?_); refine yp rfl rfl rfl rfl rfl rfl rfl rfl ?_ ?_) | ((with_reducible refine yS ?_); refine zZ rfl rfl rfl rfl rfl rfl rfl ?_ ?_) | refine zm rfl ?_ ?_ <;> intro hc | fail)
          all_goals try omega
          all_goals try (rw [Int.toNat_natCast]; omega)
          exact zv (n' := 8 - (t + 1)) (by omega) (za [3, 6, 14, 156] [.loc 3, .loc 6, .loc 14] rfl rfl) ⟨t + 1, _, by omega, rfl, by rw [List.length_set]; exact hl, by rw [hi, show 8 - (t + 1) = c by omega]; rfl, by rw [zj (by omega) (by omega)]; rfl, rfl⟩
        · obtain rfl : t = 8 := by omega
          simp only [Nat.sub_self, y8] at hi
          rw [← hi, hR]
          refine zb (zU (id := .loc 14) rfl (RowLE.unarr (cs := (qO v V).t.map AV.t) rfl (yW _)) rfl) ?_
          generalize qO v V = X
          obtain ⟨a1, a2, a3, a4, a5, a6, a7, a8⟩ := X
          simp only [H8.t, H8.l, List.map_cons, List.map_nil]
          repeat' (first | refine wC ?_ | refine wK ?_ | fail)
          exact wB
instance : Lies Try.prog 102 2 102 := ⟨by kernel_rfl⟩
instance : CellsOf Try.prog 5 1 := ⟨by kernel_rfl⟩
instance : NoEsc Try.prog 114 := .of Try.func114 (by kernel_rfl) (by kernel_rfl) (by kernel_rfl) (by kernel_rfl)
theorem zW (s : ByteArray) : (zD s).length = s.size := by simp [zD]
def zfX : StL := [(.par 0, .var 102 [.t .nilp, .t .nilsl])]
def za1 (es : List T) : StL := [(.par 0, .var 102 [.ref (.par 0) 0 0 0, .row (.par 1)]), (.par 1, .slt 5 1 es)]
def zdi (es : List T) : StL := [(.par 0, .var 102 [.ref (.par 0) 0 0 0, .row (.res 0)]), (.res 0, .slt 5 1 es)]
set_option maxHeartbeats 1000000 in
theorem zfd : Spec Try.prog 98 [.ref (.par 0) 0 0 0] zfX (.tup []) [(.par 0, .var 102 [.ref (.par 0) 0 0 0, .t .nilsl])] := by
  unfold zfX
  refine wI Try.func98 ?_
  repeat' (first | refine wC ?_ | refine wK ?_ | ((with_reducible refine zJ ?_); refine vD rfl rfl rfl rfl rfl rfl rfl ?_) | ((with_reducible refine zN ?_); first | refine za8 rfl rfl rfl rfl rfl rfl rfl rfl ?_ | refine jF rfl rfl rfl rfl rfl rfl rfl ?_) | ((with_reducible refine zk ?_); refine zeX rfl rfl rfl rfl rfl rfl ?_) | fail)
  exact zfK (qt rfl) (zC ⟨rfl, trivial⟩)
set_option maxHeartbeats 1000000 in
theorem zci (l : List T) : Spec Try.prog 98 [.ref (.par 0) 0 0 0] (za1 l) (.tup []) (za1 l) := by
  unfold za1
  refine wI Try.func98 ?_
  repeat' (first | refine wC ?_ | refine wK ?_ | ((with_reducible refine zJ ?_); first | refine vD rfl rfl rfl rfl rfl rfl rfl ?_ | refine k6 rfl rfl rfl rfl rfl rfl ?_) | fail)
  exact zfK (qt rfl) (zC ⟨rfl, rfl, trivial⟩)
set_option maxHeartbeats 1000000 in
theorem jq (s : ByteArray) (hs : s.size ≤ 100000000) : Spec Try.prog 72 [.ref (.par 0) 0 0 0, .t (.str s)] zfX (.tup [.t (.int .i64 s.size), .junk]) (zdi (zD s)) := by
  have hC := zfd
  unfold zfX at hC ⊢
  unfold zdi
  refine wIG Try.func72 ?_
  repeat' (first | refine wC ?_ | refine wK ?_ | ((with_reducible refine zQ ?_); refine vw rfl rfl rfl rfl rfl rfl rfl rfl ?_ ?_ ?_) | ((with_reducible refine zk ?_); refine wN (.tup []) [] hC ?_) | fail)
  · simp [zW]; omega
  · simp [zW]; omega
  · refine zV ((za [4, 5] [.par 0, .loc 14] rfl rfl).trans (zo (.loc 14) (.res 0) rfl rfl rfl rfl)) ?_
    exact yI (zx (qg rfl (AVLE.refl _) (AVLE.junk _)) (zC ⟨rfl, rfl, trivial⟩))
set_option maxHeartbeats 1000000 in
theorem js (l : List T) (s : ByteArray) (hs : l.length + s.size ≤ 100000000) : Spec Try.prog 72 [.ref (.par 0) 0 0 0, .t (.str s)] (za1 l) (.tup [.t (.int .i64 s.size), .junk]) (zdi (l ++ zD s)) := by
  have hC := zci l
  unfold za1 at hC ⊢
  unfold zdi
  refine wIG Try.func72 ?_
  repeat' (first | refine wC ?_ | refine wK ?_ | ((with_reducible refine zQ ?_); refine jn rfl rfl rfl rfl rfl rfl rfl rfl rfl ?_ ?_ ?_) | ((with_reducible refine zk ?_); refine wN (.tup []) [] hC ?_) | fail)
  · simp [zW]; omega
  · simp [zW]; omega
  · refine zV ((za [4, 5] [.par 0, .loc 14] rfl rfl).trans (zo (.loc 14) (.res 0) rfl rfl rfl rfl)) ?_
    exact yI (zx (qg rfl (AVLE.refl _) (AVLE.junk _)) (zC ⟨rfl, rfl, trivial⟩))
set_option maxHeartbeats 1000000 in
theorem zbU (l : List T) (c : Int) (hs : l.length ≤ 100000000) : Spec Try.prog 94 [.ref (.par 0) 0 0 0, .t (.int .u8 c)] (za1 l) .junk (zdi (l ++ [.int .u8 c])) := by
  have hC := zci l
  unfold za1 at hC ⊢
  unfold zdi
  refine wIG Try.func94 ?_
  repeat' (first | refine wC ?_ | refine wK ?_ | ((with_reducible refine zQ ?_); refine zq rfl rfl rfl rfl rfl rfl rfl rfl rfl rfl ?_ ?_ ?_) | ((with_reducible refine zk ?_); refine wN (.tup []) [] hC ?_) | fail)
  · simp; omega
  · simp; omega
  · refine zV ((za [4] [.par 0, .loc 14] rfl rfl).trans (zo (.loc 14) (.res 0) rfl rfl rfl rfl)) ?_
    exact yI (zx (xk rfl (AVLE.junk _)) (zC ⟨rfl, rfl, trivial⟩))
set_option maxHeartbeats 1000000 in
theorem qm (l : List UInt8) (hs : l.length ≤ 100000000) (hne : l ≠ []) : Spec Try.prog 73 [.ref (.par 0) 0 0 0] (za1 (l.map u8T)) (.t (.str (ofL l))) [] := by
  unfold za1
  refine wI Try.func73 ?_
  repeat' (first | refine wC ?_ | refine wK ?_ | ((with_reducible refine za9 ?_); refine zab rfl rfl rfl rfl rfl rfl ?_ ?_) | ((with_reducible refine kj ?_); refine qH rfl rfl rfl rfl rfl rfl rfl rfl ?_ ?_ ?_ ?_) | fail)
  · simpa using hne
  · rfl
  · exact hne
  · omega
  · exact zx (zd rfl rfl rfl) (by simp)
end Go.AL
namespace Go.AL
open Go Go.Proofs Go.RowKit Go.Shelf
theorem kQ {P : Program} (t : TypeId) {d : TypeDesc} [tu : TyU P t d] (w : World) : (isAgg t).run P w = .ok (yc d) w := x6 tu
theorem kv {P : Program} (t : TypeId) {s b : Nat} {z : Value} [ti : TyI P t s b z] (w : World) : (Go.sizeOf t).run P w = .ok s w := ye ti
theorem kC {P : Program} (t : TypeId) {s b : Nat} {z : Value} [ti : TyI P t s b z] (w : World) : (zeroValue t).run P w = .ok z w := z7 ti
def zfo : Ren := ⟨fun | 99 => 110 | 105 => 93 | 165 => 111 | 166 => 72 | 169 => 73 | 170 => 112 | 206 => 123 | 212 => 109 | 240 => 98 | 241 => 124 | 263 => 121 | 264 => 122 | 276 => 114 | 277 => 132 | x => x, fun | 0 => 0 | 3 => 3 | 4 => 4 | 5 => 5 | 9 => 9 | 20 => 20 | 37 => 27 | 46 => 37 | 51 => 87 | 53 => 123 | 70 => 100 | 72 => 102 | 75 => 104 | 76 => 105 | 80 => 107 | 109 => 136 | 127 => 127 | 146 => 144 | 148 => 146 | 164 => 139 | x => x, fun x => x⟩
set_option maxRecDepth 100000 in
theorem zfS : Lays.n105 Try.prog zfo where
  mixed := by kernel_rfl
  f99 := by kernel_rfl
  f105 := by kernel_rfl
  f165 := by kernel_rfl
  f166 := by kernel_rfl
  f169 := by kernel_rfl
  f170 := by kernel_rfl
  f206 := by kernel_rfl
  f212 := by kernel_rfl
  f240 := by kernel_rfl
  f241 := by kernel_rfl
  f263 := by kernel_rfl
  f264 := by kernel_rfl
  f276 := by kernel_rfl
  f277 := by kernel_rfl
  t0 := Try.underlying0
  a0 := fun w => kQ (P := Try.prog) (d := (TypeDesc.tuple #[])) 0 w
  z0 := fun w => kv 0 w
  v0 := fun w => kC 0 w
  t3 := Try.underlying3
  a3 := fun w => kQ (P := Try.prog) (d := (TypeDesc.int IntKind.i64)) 3 w
  z3 := fun w => kv 3 w
  v3 := fun w => kC 3 w
  t4 := Try.underlying4
  a4 := fun w => kQ (P := Try.prog) (d := TypeDesc.bool) 4 w
  z4 := fun w => kv 4 w
  v4 := fun w => kC 4 w
  t5 := Try.underlying5
  a5 := fun w => kQ (P := Try.prog) (d := (TypeDesc.int IntKind.u8)) 5 w
  z5 := fun w => kv 5 w
  v5 := fun w => kC 5 w
  t9 := Try.underlying9
  a9 := fun w => kQ (P := Try.prog) (d := TypeDesc.string) 9 w
  z9 := fun w => kv 9 w
  v9 := fun w => kC 9 w
  t20 := Try.underlying20
  a20 := fun w => kQ (P := Try.prog) (d := (TypeDesc.interface #[])) 20 w
  z20 := fun w => kv 20 w
  v20 := fun w => kC 20 w
  t37 := Try.underlying27
  a37 := fun w => kQ (P := Try.prog) (d := (TypeDesc.slice 5)) 27 w
  z37 := fun w => kv 27 w
  v37 := fun w => kC 27 w
  t46 := Try.underlying37
  a46 := fun w => kQ (P := Try.prog) (d := (TypeDesc.int IntKind.u64)) 37 w
  z46 := fun w => kv 37 w
  v46 := fun w => kC 37 w
  t51 := Try.underlying87
  a51 := fun w => kQ (P := Try.prog) (d := (TypeDesc.int IntKind.u32)) 87 w
  z51 := fun w => kv 87 w
  v51 := fun w => kC 87 w
  t53 := Try.underlying123
  a53 := fun w => kQ (P := Try.prog) (d := (TypeDesc.int IntKind.u64)) 123 w
  z53 := fun w => kv 123 w
  v53 := fun w => kC 123 w
  t70 := Try.underlying100
  a70 := fun w => kQ (P := Try.prog) (d := (TypeDesc.pointer 102)) 100 w
  z70 := fun w => kv 100 w
  v70 := fun w => kC 100 w
  t72 := Try.underlying102
  a72 := fun w => kQ (P := Try.prog) (d := (TypeDesc.struct #[{ name := "addr", type := 100, offset := 0, embedded := false, tag := "", pkgPath := "strings", byteOffset := 0 }, { name := "buf", type := 27, offset := 1, embedded := false, tag := "", pkgPath := "strings", byteOffset := 8 }])) 102 w
  z72 := fun w => kv 102 w
  v72 := fun w => kC 102 w
  t75 := Try.underlying104
  a75 := fun w => kQ (P := Try.prog) (d := (TypeDesc.interface #[("Error", 107)])) 104 w
  z75 := fun w => kv 104 w
  v75 := fun w => kC 104 w
  t76 := Try.underlying105
  a76 := fun w => kQ (P := Try.prog) (d := (TypeDesc.tuple #[3, 104])) 105 w
  z76 := fun w => kv 105 w
  v76 := fun w => kC 105 w
  t109 := Try.underlying136
  a109 := fun w => kQ (P := Try.prog) (d := (TypeDesc.tuple #[37, 37])) 136 w
  z109 := fun w => kv 136 w
  v109 := fun w => kC 136 w
  t127 := Try.underlying127
  a127 := fun w => kQ (P := Try.prog) (d := (TypeDesc.pointer 5)) 127 w
  z127 := fun w => kv 127 w
  v127 := fun w => kC 127 w
  t146 := Try.underlying144
  a146 := fun w => kQ (P := Try.prog) (d := (TypeDesc.tuple #[87, 87])) 144 w
  z146 := fun w => kv 144 w
  v146 := fun w => kC 144 w
  t148 := Try.underlying146
  a148 := fun w => kQ (P := Try.prog) (d := (TypeDesc.tuple #[123, 123])) 146 w
  z148 := fun w => kv 146 w
  v148 := fun w => kC 146 w
  t164 := Try.underlying139
  a164 := fun w => kQ (P := Try.prog) (d := TypeDesc.unsafePointer) 139 w
  z164 := fun w => kv 139 w
  v164 := fun w => kC 139 w
theorem zfj : Builder.Extra Try.prog zfo where
  sizeBuilder := by kernel_rfl
  liesBuilder := by kernel_rfl
  t5 := Try.underlying5
  a5 := fun w => kQ (P := Try.prog) (d := .int .u8) 5 w
  z5 := fun w => kv 5 w
  v5 := fun w => kC 5 w
  infoByte := by kernel_rfl
  cellsByte := by kernel_rfl
  sizeByte := by kernel_rfl
  neB5 := by decide
theorem Spec.of_below {P : Program} {f : FuncId} {args : List AV} {r : AV} (H : ∀ h m (vs : Array Value) w, vs.size = args.length → RepAs h m (fun j => vs[j]?) 0 args → Calls P f vs w fun e w' => ∃ v, e = .returned v ∧ (∀ h' m', RepA h' m' v r) ∧ Below w.heap.size w w') : Spec P f args [] r [] where
  run h m vs w hs hv hr := (H h m vs w hv hr).mono fun e w' ⟨v, he, hv', hb⟩ => by
    refine ⟨v, h, m, he, hv' h m, ⟨fun b o hb' => ?_, fun _ _ hx => by simp [StL.get] at hx, fun _ _ _ hx => by simp [StL.get] at hx, fun _ _ _ _ _ hx => by simp [StL.get] at hx⟩, ?_⟩
    · have h1 := hs.imm b o hb'
      have hlt : b < w.heap.size := by
        rcases Nat.lt_or_ge b w.heap.size with h2 | h2
        · exact h2
        · rw [Array.getElem?_eq_none h2] at h1; cases h1
      rw [hb.block b hlt]; exact h1
    · exact ⟨⟨hb.os, hb.tape, hb.output, hb.size, fun b hb' _ => ⟨hb.block b hb', rfl⟩, fun _ _ hu => hu, fun _ _ _ hx => by simp [StL.get] at hx⟩, fun _ => rfl⟩
theorem qB (s : ByteArray) (c : Nat) (hc : c ≤ 9223372036854775807) (hl : s.size * c ≤ 140737488355328) : Spec Try.prog 93 [.t (.str s), .t (.int .i64 (c : Int))] [] (.t (.str ⟨(Lib.repeatL s.data.toList c).toArray⟩)) [] :=
  Spec.of_below fun h m vs w hv hr => by
    simp only [RepAs, RepA, RepT, and_true] at hr
    obtain ⟨⟨u0, h0, rfl⟩, u1, h1, rfl⟩ := hr
    have hv2 : vs.size = 2 := hv
    have e : vs = #[.string s, .int .i64 c] := by
      apply Array.ext
      · simpa using hv2
      · intro i h1' h2'
        have : i = 0 ∨ i = 1 := by omega
        rcases this with rfl | rfl
        · rw [Array.getElem?_eq_getElem h1'] at h0; simpa using h0
        · rw [Array.getElem?_eq_getElem h1'] at h1; simpa using h1
    subst e
    exact (Any.strings_Repeat zfS zfj s c w hc hl).mono fun e w' ⟨he, hb⟩ => ⟨_, he, fun h' m' => by simp [RepA, RepT], hb⟩
theorem kP (b : UInt8) : ∀ c : Nat, Lib.repeatL [b] c = List.replicate c b
  | 0 => rfl
  | c + 1 => by rw [Lib.repeatL, kP b c, List.replicate_succ]; rfl
end Go.AL
namespace Go.AL
open Go Go.Proofs Go.RowKit
theorem zgr (n c : Nat) : IntKind.u8.wrap ((n : Int) / 2 ^ (8 * c)) = ((UInt8.ofNat (n / 256 ^ c)).toNat : Int) := by
  have e : (2 : Int) ^ (8 * c) = ((256 ^ c : Nat) : Int) := by
    have : (256 : Nat) ^ c = 2 ^ (8 * c) := by rw [Nat.pow_mul]
    rw [this]; simp
  rw [e]
  simp only [IntKind.wrap, IntKind.bits, IntKind.signed, Bool.false_and, Bool.false_eq_true, if_false]
  rw [UInt8.toNat_ofNat']
  omega
theorem vi (l : List UInt8) : vZ (l.map u8T) = ofL l := by
  unfold vZ strOfNums ofL
  rw [List.map_map, List.map_map]
  have : (((fun n => UInt8.ofNat n.toNat) ∘ T.num) ∘ u8T) = id := by
    funext b
    show UInt8.ofNat ((b.toNat : Int).toNat) = b
    simp
  rw [this, List.map_id]
theorem qa (l : List UInt8) : IsU8 (l.map u8T) := by
  intro e he
  obtain ⟨b, _, rfl⟩ := List.mem_map.1 he
  rfl
theorem xA (s : ByteArray) : zD s = s.data.toList.map u8T := rfl
set_option maxHeartbeats 4000000 in
theorem zd3 (left : ByteArray) (n : Nat) (hl : left.size ≤ 50000000) (hn : n ≤ 100000000) : Spec Try.prog 62 [.t (.str left), .t (.int .i64 (n : Int))] [] (.t (.str (ofL (xV left.data.toList n)))) [] := by
  obtain ⟨z, hz⟩ : ∃ z : Nat, z = (119 - left.size % 64) % 64 := ⟨_, rfl⟩
  have hz63 : z ≤ 63 := by omega
  have hz1 : (left.size : Int).tmod 64 = ((left.size % 64 : Nat) : Int) := by rw [Int.tmod_eq_emod_of_nonneg (by omega)]; omega
  have hz2 : (IntKind.i64.wrap (119 - (left.size : Int).tmod 64)).tmod 64 = (z : Int) := by
    rw [hz1, zj (by omega) (by omega), Int.tmod_eq_emod_of_nonneg (by omega), hz]; omega
  have hR := qB ⟨#[0]⟩ z (by omega) (by show 1 * z ≤ _; omega)
  rw [show (⟨#[0]⟩ : ByteArray).data.toList = [0] from rfl, kP] at hR
  rw [← hz2] at hR
  obtain ⟨Z, hZ⟩ : ∃ Z : ByteArray, Z = ⟨(List.replicate z (0 : UInt8)).toArray⟩ := ⟨_, rfl⟩
  have hZs : Z.size = z := by rw [hZ]; simp [ByteArray.size]
  have hZl : Z.data.toList = List.replicate z 0 := by rw [hZ]
  rw [← hZ] at hR
  have h1 := jq left (by omega)
  have h2 := zbU (zD left) 128 (by rw [zW]; omega)
  have h3 := js (zD left ++ [.int .u8 128]) Z (by rw [List.length_append, zW]; simp; omega)
  have h4 := fun es c h => zbU es c h
  have h5 := fun l h h' => qm l h h'
  unfold zfX zdi at h1
  unfold za1 zdi at h2 h3 h4
  unfold za1 at h5
  refine wI Try.func62 ?_
  repeat' (first | refine wC ?_ | refine wK ?_ | ((with_reducible refine zk ?_); first | refine wN (.tup [_, _]) [(.par 0, .loc 6), (.res 0, .loc 901)] h1 ?_ | refine wN .junk [(.par 0, .loc 6), (.par 1, .loc 901), (.res 0, .loc 902)] h2 ?_ | refine wL hR ?_ | refine wN (.tup [_, _]) [(.par 0, .loc 6), (.par 1, .loc 902), (.res 0, .loc 903)] h3 ?_) | fail)
  rw [yv (n := (n : Int)) (by omega) (by omega), yv (n := (n : Int) * 8) (by omega) (by omega), show (n : Int) * 8 = ((8 * n : Nat) : Int) by omega]
  refine zb (za [6, 7, 8] [.loc 6, .loc 903] rfl rfl) ?_
  refine zf (fun p env st => ∃ (c : Nat) (es : List T), c ≤ 8 ∧ p = c ∧ es.length ≤ 90000000 - c ∧ es ++ (zbP c (8 * n)).map u8T = (xV left.data.toList n).map u8T ∧
      env = EnvL.get [(6, .ref (.loc 6) 0 0 0), (7, .t (.int .u64 ((8 * n : Nat) : Int))), (8, .t (.int .i64 ((c : Int) - 1)))] ∧
      st = StO.get [(.loc 6, some (.var 102 [.ref (.loc 6) 0 0 0, .row (.loc 903)])), (.loc 903, some (.slt 5 1 es))])
    ?_ (n := 8) ⟨8, zD left ++ [.int .u8 128] ++ zD Z, by omega, rfl, ?_, ?_, rfl, rfl⟩
  rotate_left
  · simp only [List.length_append, zW, List.length_cons, List.length_nil]; omega
  · rw [xA, xA, hZl]
    unfold xV
    rw [show (119 - left.data.toList.length % 64) % 64 = z by rw [hz]; rfl]
    simp only [List.map_append, List.map_cons, List.append_assoc]
    rfl
  clear h1 h2 h3 hR
  rintro p env st ⟨c, es, hc8, rfl, hlen, hi, rfl, rfl⟩
  have h4 := fun x => h4 es x (by omega)
  by_cases hp : p = 0
  · subst hp
    simp only [zbP, List.map_nil, List.append_nil] at hi
    subst hi
    have h5 := h5 (xV left.data.toList n) (by rw [q9]; simp; omega) (by unfold xV; simp)
    repeat' (first | refine wC ?_ | refine wK ?_ | ((with_reducible refine zk ?_); refine wN (.t (.str _)) [(.par 0, .loc 6), (.par 1, .loc 903)] h5 ?_) | fail)
    exact zx (zd rfl rfl rfl) (by simp)
  · obtain ⟨c, rfl⟩ : ∃ c, p = c + 1 := ⟨p - 1, by omega⟩
    have e : (min (IntKind.i64.wrap (8 * (((c + 1 : Nat) : Int) - 1))).toNat IntKind.u64.bits) = 8 * c := by
      rw [zj (by omega) (by omega)]
      have : IntKind.u64.bits = 64 := rfl
      omega
    repeat' (first | refine wC ?_ | refine wK ?_ | ((with_reducible refine zJ ?_); refine vM rfl rfl rfl rfl rfl rfl ?_ ?_) | ((with_reducible refine zk ?_); refine wN .junk [(.par 0, .loc 6), (.par 1, .loc 903), (.res 0, .loc 904)] (h4 _) ?_) | refine zm rfl ?_ ?_ <;> intro hc | fail)
    · rw [zj (by omega) (by omega)]; omega
    · rw [e, zgr]
      refine zv (n' := c) (by omega) ((za [6, 7, 8] [.loc 6, .loc 904] rfl rfl).trans (zo (.loc 904) (.loc 903) rfl rfl rfl rfl)) ⟨c, es ++ [.int .u8 ((UInt8.ofNat (8 * n / 256 ^ c)).toNat : Int)], by omega, rfl, by rw [List.length_append]; simp; omega, ?_, ?_, rfl⟩
      · rw [← hi, List.append_assoc]; rfl
      · rw [zj (by omega) (by omega), show ((c + 1 : Nat) : Int) - 1 - 1 = (c : Int) - 1 by omega]; rfl
    · exfalso; omega
set_option maxHeartbeats 4000000 in
theorem zem (s : ByteArray) (hl : s.size ≤ 50000000) : Spec Try.prog 63 [.t (.str s)] [] (.t (.str (ofL (zch s.data.toList)))) [] := by
  unfold zch
  obtain ⟨n, hn⟩ : ∃ n, n = s.size := ⟨_, rfl⟩
  have hn2 : s.data.toList.length = n := by rw [hn]; rfl
  obtain ⟨z, hz⟩ : ∃ z : Nat, z = (119 - n % 64) % 64 := ⟨_, rfl⟩
  refine wI Try.func63 ?_
  repeat' (first | refine wC ?_ | refine wK ?_ | ((with_reducible refine zN ?_); refine zcA rfl rfl rfl rfl rfl rfl ?_ ?_) | ((with_reducible refine zQ ?_); refine zq rfl rfl rfl rfl rfl rfl rfl rfl rfl rfl ?_ ?_ ?_) | fail)
  · omega
  · rw [zW]; simp; omega
  · rw [zW]; simp; omega
  refine zb (za [0, 3] [.loc 8] rfl rfl) ?_
  refine zf (fun p env st => ∃ (j : Nat) (es : List T), j ≤ z ∧ p = z - j ∧ es = zD s ++ ([.int .u8 128] ++ (List.replicate j (0 : UInt8)).map u8T) ∧
      env = EnvL.get [(0, .t (.str s)), (3, .row (.loc 8))] ∧ st = StO.get [(.loc 8, some (.slt 5 1 es))])
    ?_ (n := z) ⟨0, _, by omega, rfl, rfl, rfl, by simp; rfl⟩
  rintro p env st ⟨j, es, hj, rfl, hes, rfl, rfl⟩
  have hel : es.length = n + 1 + j := by rw [hes]; simp [zW]; omega
  have hm : ((es.length : Int)).tmod 64 = ((n + 1 + j) % 64 : Nat) := by rw [hel, Int.tmod_eq_emod_of_nonneg (by omega)]; omega
  by_cases hjz : j = z
  · subst hjz
    have h56 : (n + 1 + j) % 64 = 56 := by omega
    repeat' (first | refine wC ?_ | refine wK ?_ | ((with_reducible refine zQ ?_); refine zq rfl rfl rfl rfl rfl rfl rfl rfl rfl rfl ?_ ?_ ?_) | refine yH rfl ?_ ?_ <;> intro hc | fail)
    all_goals try (exfalso; omega)
    refine zb (za [0, 3, 4] [.loc 8] rfl rfl) ?_
    refine zf (fun p env st => ∃ (c : Nat) (es : List T), c ≤ 8 ∧ p = c ∧ es.length ≤ 90000000 - c ∧ es ++ (zbP c (8 * n)).map u8T = (xV s.data.toList n).map u8T ∧
        env = EnvL.get [(0, .t (.str s)), (3, .row (.loc 8)), (4, .t (.int .i64 (8 * (c : Int) - 8)))] ∧ st = StO.get [(.loc 8, some (.slt 5 1 es))])
      ?_ (n := 8) ⟨8, es, by omega, rfl, by omega, ?_, rfl, rfl⟩
    rotate_left
    · rw [hes, xA]
      unfold xV
      rw [hn2, ← hz]
      simp only [List.map_append, List.map_cons, List.append_assoc]
      rfl
    clear hes hel hm
    rintro p env st ⟨c, es, hc8, rfl, hlen, hi, rfl, rfl⟩
    by_cases hp : p = 0
    · subst hp
      simp only [zbP, List.map_nil, List.append_nil] at hi
      subst hi
      repeat' (first | refine wC ?_ | refine wK ?_ | ((with_reducible refine zN ?_); refine zw rfl rfl rfl rfl rfl rfl ?_ ?_) | fail)
      · exact qa _
      · exact zx (zd rfl rfl (congrArg T.str (by rw [vi, hn2]))) (by simp)
    · obtain ⟨c, rfl⟩ : ∃ c, p = c + 1 := ⟨p - 1, by omega⟩
      have e0 : IntKind.u64.wrap (8 * ((c + 1 : Nat) : Int) - 8) = ((8 * c : Nat) : Int) := by rw [yv (by omega) (by omega)]; omega
      have e1 : min ((8 * c : Nat) : Int).toNat IntKind.u64.bits = 8 * c := by
        have : IntKind.u64.bits = 64 := rfl
        omega
      have e2 : IntKind.u64.wrap (IntKind.u64.wrap (s.size : Int) * 8) = ((8 * n : Nat) : Int) := by rw [yv (n := (s.size : Int)) (by omega) (by omega), yv (by omega) (by omega)]; omega
      repeat' (first | refine wC ?_ | refine wK ?_ | ((with_reducible refine zJ ?_); refine vM rfl rfl rfl rfl rfl rfl ?_ ?_) | ((with_reducible refine zN ?_); refine zw rfl rfl rfl rfl rfl rfl ?_ ?_) | ((with_reducible refine zQ ?_); refine zq rfl rfl rfl rfl rfl rfl rfl rfl rfl rfl ?_ ?_ ?_) | refine zm rfl ?_ ?_ <;> intro hc | fail)
      · rw [e0]; omega
      · simp; omega
      · simp; omega
      · rw [e0, e1, e2, zgr]
        refine zv (n' := c) (by omega) ((za [0, 3, 4] [.loc 30] rfl rfl).trans (zo (.loc 30) (.loc 8) rfl rfl rfl rfl)) ⟨c, es ++ [.int .u8 ((UInt8.ofNat (8 * n / 256 ^ c)).toNat : Int)], by omega, rfl, by rw [List.length_append]; simp; omega, ?_, ?_, rfl⟩
        · rw [← hi, List.append_assoc]; rfl
        · rw [zj (by omega) (by omega), show 8 * ((c + 1 : Nat) : Int) - 8 - 8 = 8 * (c : Int) - 8 by omega]; rfl
      all_goals (exfalso; omega)
  · repeat' (first | refine wC ?_ | refine wK ?_ | ((with_reducible refine zQ ?_); refine zq rfl rfl rfl rfl rfl rfl rfl rfl rfl rfl ?_ ?_ ?_) | refine yH rfl ?_ ?_ <;> intro hc | fail)
    · exfalso; rw [hm] at hc; omega
    · simp; omega
    · simp; omega
    · refine zv (n' := z - (j + 1)) (by omega) ((za [0, 3] [.loc 15] rfl rfl).trans (zo (.loc 15) (.loc 8) rfl rfl rfl rfl)) ⟨j + 1, es ++ [.int .u8 0], by omega, rfl, ?_, rfl, rfl⟩
      rw [hes, List.replicate_succ', List.map_append, List.append_assoc, List.append_assoc]; rfl
set_option maxHeartbeats 1000000 in
theorem zcp : Spec Try.prog 64 [] [] (.t (.agg zcV.t)) [] := by
  refine wI Try.func64 ?_
  repeat' (first | refine wC ?_ | refine wK ?_ | ((with_reducible refine wQ ?_); refine yK (r := (.t (.agg _))) rfl rfl rfl rfl rfl rfl rfl ?_) | fail)
  exact wD
set_option maxHeartbeats 1000000 in
theorem zc4 : Spec Try.prog 67 [] [] (.t (.agg zcV.t)) [] := by
  refine wI Try.func67 ?_
  repeat' (first | refine wC ?_ | refine wK ?_ | ((with_reducible refine wQ ?_); refine yK (r := (.t (.agg _))) rfl rfl rfl rfl rfl rfl rfl ?_) | fail)
  exact wD
set_option maxHeartbeats 4000000 in
set_option maxRecDepth 10000 in
theorem zaW : Spec Try.prog 68 [] [] (.t (.agg (zbN.map xI))) [] := by
  refine wI Try.func68 ?_
  repeat' (first | refine wC ?_ | refine wK ?_ | ((with_reducible refine wQ ?_); refine yK (r := (.t (.agg _))) rfl rfl rfl rfl rfl rfl rfl ?_) | fail)
  exact wD
set_option maxHeartbeats 4000000 in
set_option maxRecDepth 10000 in
theorem zc9 : Spec Try.prog 65 [] [] (.ref (.res 0) 0 0 0) [(.res 0, .arr 96 1 (zbN.map xI))] := by
  refine wIG Try.func65 ?_
  repeat' (first | refine wC ?_ | refine wK ?_ | ((with_reducible refine wQ ?_); refine yK (r := (.t (.agg _))) rfl rfl rfl rfl rfl rfl rfl ?_) | fail)
  refine zV (zU (id := .loc 2) rfl (RowLE.arr (es := zbN.map xI) rfl (yW _)) rfl) ?_
  refine zV ((za [0] [.loc 2] rfl rfl).trans (zo (.loc 2) (.res 0) rfl rfl rfl rfl)) ?_
  exact yI (zx (xk rfl (AVLE.refl _)) (zC ⟨rfl, trivial⟩))
def b0 (x : Int) : Int := IntKind.u8.wrap (x / 2 ^ 24)
def b1 (x : Int) : Int := IntKind.u8.wrap (x / 2 ^ 16)
def b2 (x : Int) : Int := IntKind.u8.wrap (x / 2 ^ 8)
def b3 (x : Int) : Int := IntKind.u8.wrap x
theorem y6 {x : Int} (h0 : 0 ≤ x) (h1 : x < 4294967296) : [b0 x, b1 x, b2 x, b3 x].map (T.int .u8) = (w4 x).map u8T := by
  obtain ⟨n, rfl⟩ : ∃ n : Nat, x = n := ⟨x.toNat, by omega⟩
  have e0 := zgr n 3
  have e1 := zgr n 2
  have e2 := zgr n 1
  have e3 := zgr n 0
  simp only [Nat.mul_zero, Int.pow_zero, Int.ediv_one] at e3
  unfold w4 b0 b1 b2 b3
  rw [Int.toNat_natCast]
  simp only [zbP, List.map_cons, List.map_nil, u8T]
  rw [← e0, ← e1, ← e2, ← e3]
def zgq (f0 f1 f2 f3 : Int → Int) (v : List Int) (i : Nat) (l : List Int) : List Int := (((l.set (4 * i) (f0 (v.getD i 0))).set (4 * i + 1) (f1 (v.getD i 0))).set (4 * i + 2) (f2 (v.getD i 0))).set (4 * i + 3) (f3 (v.getD i 0))
theorem ze0 (f0 f1 f2 f3 : Int → Int) (v : H8) : y8 (zgq f0 f1 f2 f3 v.l) 8 0 (List.replicate 32 0) = [f0 v.a, f1 v.a, f2 v.a, f3 v.a] ++ [f0 v.b, f1 v.b, f2 v.b, f3 v.b] ++ [f0 v.c, f1 v.c, f2 v.c, f3 v.c] ++ [f0 v.d, f1 v.d, f2 v.d, f3 v.d] ++ [f0 v.e, f1 v.e, f2 v.e, f3 v.e] ++ [f0 v.f, f1 v.f, f2 v.f, f3 v.f] ++ [f0 v.g, f1 v.g, f2 v.g, f3 v.g] ++ [f0 v.h, f1 v.h, f2 v.h, f3 v.h] := by kernel_rfl
theorem zf6 (v : H8) (hv : v.In) : (y8 (zgq b0 b1 b2 b3 v.l) 8 0 (List.replicate 32 0)).map (T.int .u8) = v.out.map u8T := by
  rw [ze0]
  obtain ⟨h1, h2, h3, h4, h5, h6, h7, h8⟩ := hv
  unfold H8.out
  simp only [List.map_append, y6 h1.1 h1.2, y6 h2.1 h2.2, y6 h3.1 h3.2, y6 h4.1 h4.2, y6 h5.1 h5.2, y6 h6.1 h6.2, y6 h7.1 h7.2, y6 h8.1 h8.2]
theorem xP (b : ByteArray) (i j : Nat) : (b.extract i j).data.toList = (b.data.toList.drop i).take (j - i) := by
  simp [ByteArray.data_extract]
theorem zfD (l : List Int) : ∀ x ∈ l.map (T.int .u8), x.isAgg = false := fun x hx => by
  obtain ⟨n, _, rfl⟩ := List.mem_map.1 hx; rfl
theorem zb9 (l : List UInt8) : ∀ x ∈ l.map u8T, x.isAgg = false := fun x hx => by
  obtain ⟨n, _, rfl⟩ := List.mem_map.1 hx; rfl
set_option maxHeartbeats 8000000 in
theorem vg (s : ByteArray) (hs : s.size ≤ 40000000) : Spec Try.prog 23 [.t (.str s)] [] (.t (.str (sha s))) [] := by
  obtain ⟨w, hw⟩ : ∃ w : Nat, w = s.size / 64 * 64 := ⟨_, rfl⟩
  have hsp := zcu s.data.toList w hw
  rw [zK] at hsp
  have e1 : IntKind.i64.wrap (IntKind.i64.wrap ((s.size : Int).tdiv 64) * 64) = (w : Int) := by
    rw [Int.tdiv_eq_ediv_of_nonneg (by omega), zj (n := (s.size : Int) / 64) (by omega) (by omega), zj (by omega) (by omega), hw]; omega
  have hR := zd3 (s.extract (w : Int).toNat (s.size : Int).toNat) s.size (by rw [ByteArray.size_extract]; omega) (by omega)
  rw [← e1] at hR
  refine wI Try.func23 ?_
  repeat' (first | refine wC ?_ | refine wK ?_ | ((with_reducible refine yn ?_); first | refine zr rfl rfl rfl ⟨_, rfl⟩ rfl rfl rfl ?_ ?_ ?_ ?_ | refine zr rfl rfl ⟨_, rfl⟩ rfl rfl rfl rfl ?_ ?_ ?_ ?_) | ((with_reducible refine zk ?_); first | refine wL zcp ?_ | refine wN (.ref (.loc 907) 0 0 0) [(.res 0, .loc 907)] zc9 ?_ | refine wL hR ?_) | fail)
  all_goals try simp only [e1]
  all_goals try omega
  obtain ⟨A, hA⟩ : ∃ A, A = s.extract (Int.toNat 0) (w : Int).toNat := ⟨_, rfl⟩
  obtain ⟨B, hB⟩ : ∃ B, B = ofL (xV (s.extract (w : Int).toNat (s.size : Int).toNat).data.toList s.size) := ⟨_, rfl⟩
  have hAl : A.data.toList = s.data.toList.take w := by rw [hA, xP]; simp
  have hBx : (s.extract (w : Int).toNat (s.size : Int).toNat).data.toList = s.data.toList.drop w := by
    rw [xP, List.take_of_length_le (by rw [List.length_drop]; have := zK s; omega)]; simp
  have hBl : B.data.toList = xV (s.data.toList.drop w) s.size := by rw [hB, vo, hBx]
  rw [← hA, ← hB]
  have hAs : A.size = w := by rw [← zK, hAl, List.length_take]; have := zK s; omega
  have hBs : B.size = (xV (s.data.toList.drop w) s.size).length := by rw [← zK, hBl]
  have hBm : B.size % 64 = 0 ∧ B.size ≤ 200 := by
    rw [hBs, q9, List.length_drop, zK]; omega
  refine zb (za [3, 4, 26, 27, 28] [.loc 3, .loc 26, .loc 907] rfl rfl) ?_
  refine zb (zz (id := .loc 26) rfl rfl rfl) ?_
  obtain ⟨Hs, hH0, hH1, hH2, hsha⟩ : ∃ Hs : Nat → H8, Hs 0 = zcV ∧ Hs 1 = xi (A.size / 64) (Hs 0) A.data.toList ∧ Hs 2 = xi (B.size / 64) (Hs 1) B.data.toList ∧ zgm s.data.toList = (Hs 2).out := by
    refine ⟨fun i => match i with | 0 => zcV | 1 => xi (A.size / 64) zcV A.data.toList | _ => xi (B.size / 64) (xi (A.size / 64) zcV A.data.toList) B.data.toList, rfl, rfl, rfl, ?_⟩
    rw [hsp, hBs, hAs, hAl, hBl]; rfl
  have hIn : (Hs 2).In := by rw [hH2, hH1, hH0]; exact qb _ _ _ (qb _ _ _ zdW)
  obtain ⟨L, hL⟩ : ∃ L, L = [A, B] := ⟨_, rfl⟩
  have hLs : ∀ j, j < 2 → (L.getD j default).size % 64 = 0 ∧ (L.getD j default).size ≤ 40000000 ∧ Hs (j + 1) = xi ((L.getD j default).size / 64) (Hs j) (L.getD j default).data.toList := by
    intro j hj
    have : j = 0 ∨ j = 1 := by omega
    rcases this with rfl | rfl
    · rw [hL]; exact ⟨by show A.size % 64 = 0; omega, by show A.size ≤ _; omega, hH1⟩
    · rw [hL]; exact ⟨hBm.1, by show B.size ≤ _; omega, hH2⟩
  refine zb (zeE 26 (y := .sl 1 (L.map .str)) rfl (by rw [hL]; exact .refl _) rfl) ?_
  have hLl : L.length = 2 := by rw [hL]; rfl
  refine zb (za [3, 4, 26, 27, 28] [.loc 3, .loc 907] rfl rfl) ?_
  refine zf (fun p env st => ∃ (j : Nat), j ≤ 2 ∧ p = 2 - j ∧
      env = EnvL.get [(3, .ref (.loc 3) 0 0 0), (4, .ref (.loc 907) 0 0 0), (26, .t (.sl 1 (L.map .str))), (27, .t (.int .i64 2)), (28, .t (.int .i64 (j : Int)))] ∧
      st = StO.get [(.loc 3, some (.var 89 ((Hs j).t.map AV.t))), (.loc 907, some (.arr 96 1 (zbN.map xI)))])
    ?_ (n := 2) ⟨0, by omega, rfl, rfl, by rw [hH0]; rfl⟩
  clear hH0 hH1 hH2 hR hsp hL
  rintro p env st ⟨j, hj, rfl, rfl, rfl⟩
  by_cases hlt : j < 2
  · obtain ⟨m1, m2, m3⟩ := hLs j hlt
    have hg : L.getD (j : Int).toNat default = L.getD j default := rfl
    repeat' (first | refine wC ?_ | refine wK ?_ | ((with_reducible refine ze ?_); refine zi rfl rfl rfl rfl rfl rfl ?_ ?_ ?_) | refine zm rfl ?_ ?_ <;> intro hc | fail)
    all_goals try (exfalso; omega)
    · omega
    · omega
    refine zb (za [3, 4, 7, 26, 27, 28] [.loc 3, .loc 907] rfl rfl) ?_
    rw [hg]
    generalize L.getD j default = X at m1 m2 m3 ⊢
    refine zf (fun p env st => ∃ (k : Nat) (x : ByteArray) (h : H8), p = k ∧ x.size = 64 * k ∧ x.size ≤ 40000000 ∧ Hs (j + 1) = xi k h x.data.toList ∧
        env = EnvL.get [(3, .ref (.loc 3) 0 0 0), (4, .ref (.loc 907) 0 0 0), (7, .t (.str x)), (26, .t (.sl 1 (L.map .str))), (27, .t (.int .i64 2)), (28, .t (.int .i64 (j : Int)))] ∧
        st = StO.get [(.loc 3, some (.var 89 (h.t.map AV.t))), (.loc 907, some (.arr 96 1 (zbN.map xI)))])
      ?_ (n := X.size / 64) ⟨X.size / 64, X, Hs j, rfl, by omega, m2, m3, rfl, rfl⟩
    rintro k env st ⟨k', x, h, rfl, hx, hx2, hh, rfl, rfl⟩
    by_cases hk : k = 0
    · subst hk
      have hxe : x = ⟨#[]⟩ := by
        have : x.data.toList = [] := List.eq_nil_of_length_eq_zero (by rw [zK]; omega)
        have h2 := we x
        rw [this] at h2
        exact h2.symm
      repeat' (first | refine wC ?_ | refine wK ?_ | ((with_reducible refine zk ?_); exact absurd hxe ‹_›) | refine yH rfl ?_ ?_ <;> intro hc | fail)
      exact zv (n' := 2 - (j + 1)) (by omega) (za [3, 4, 26, 27, 28] [.loc 3, .loc 907] rfl rfl) ⟨j + 1, by omega, rfl, by rw [zj (by omega) (by omega)]; rfl, by rw [hh]; rfl⟩
    · obtain ⟨k, rfl⟩ : ∃ c, k = c + 1 := ⟨k - 1, by omega⟩
      have hxe : ¬ x = ⟨#[]⟩ := fun e => by rw [e] at hx; simp [ByteArray.size] at hx
      have hAdd := zeM h x (by omega) (by omega)
      repeat' (first | refine wC ?_ | refine wK ?_ | ((with_reducible refine yn ?_); refine zr rfl rfl ⟨_, rfl⟩ rfl rfl rfl rfl ?_ ?_ ?_ ?_) | ((with_reducible refine zk ?_); refine wN (.tup []) [(.par 0, .loc 3), (.par 1, .loc 907)] hAdd ?_) | refine yH rfl ?_ ?_ <;> intro hc | fail)
      · exact absurd hc hxe
      · omega
      · omega
      · omega
      · refine zv (n' := k) (by omega) (za [3, 4, 7, 26, 27, 28] [.loc 3, .loc 907] rfl rfl) ⟨k, x.extract (Int.toNat 64) (x.size : Int).toNat, zdh h x.data.toList, rfl, by rw [ByteArray.size_extract]; omega, by rw [ByteArray.size_extract]; omega, ?_, rfl, rfl⟩
        rw [hh, xP, List.take_of_length_le (by rw [List.length_drop]; have := zK x; omega)]
        rfl
  · obtain rfl : j = 2 := by omega
    repeat' (first | refine wC ?_ | refine wK ?_ | fail)
    all_goals try (exfalso; omega)
    rw [show sha s = ofL (Hs 2).out by unfold sha; rw [hsha]]
    generalize Hs 2 = V at hIn ⊢
    obtain ⟨R, hR⟩ : ∃ R, R = y8 (zgq b0 b1 b2 b3 V.l) 8 0 (List.replicate 32 0) := ⟨_, rfl⟩
    have hE : R.map (T.int .u8) = V.out.map u8T := by rw [hR]; exact zf6 V hIn
    refine zb (zU (id := .loc 8) rfl (RowLE.arr (es := (List.replicate 32 (0 : Int)).map (T.int .u8)) rfl (zfD _)) rfl) ?_
    refine zb (za [8, 40, 41] [.loc 8] rfl rfl) ?_
    have hvl : V.l.length = 8 := rfl
    obtain ⟨vl, hvl'⟩ : ∃ l, l = V.l := ⟨_, rfl⟩
    rw [← hvl'] at hR hvl
    refine zf (fun p env st => ∃ (t : Nat) (l : List Int), t ≤ 8 ∧ p = 8 - t ∧ l.length = 32 ∧ R = y8 (zgq b0 b1 b2 b3 vl) (8 - t) t l ∧
        env = EnvL.get [(8, .ref (.loc 8) 0 0 0), (40, .t (.agg (vl.map xI))), (41, .t (.int .i64 (t : Int)))] ∧
        st = StO.get [(.loc 8, some (.arr 94 1 (l.map (T.int .u8))))])
      ?_ (n := 8) ⟨0, _, by omega, rfl, by simp, hR, by rw [hvl']; rfl, rfl⟩
    clear hR
    rintro p env st ⟨t, l, ht, rfl, hl, hi, rfl, rfl⟩
    by_cases hlt : t < 8
    · obtain ⟨c, hc⟩ : ∃ c, 8 - t = c + 1 := ⟨8 - t - 1, by omega⟩
      rw [hc] at hi
      simp only [y8] at hi
      have w0 : IntKind.i64.wrap (4 * (t : Int)) = ((4 * t : Nat) : Int) := by rw [zj (by omega) (by omega)]; omega
      have w1 : IntKind.i64.wrap (((4 * t : Nat) : Int) + 1) = ((4 * t + 1 : Nat) : Int) := by rw [zj (by omega) (by omega)]; omega
      have w2 : IntKind.i64.wrap (((4 * t : Nat) : Int) + 2) = ((4 * t + 2 : Nat) : Int) := by rw [zj (by omega) (by omega)]; omega
      have w3 : IntKind.i64.wrap (((4 * t : Nat) : Int) + 3) = ((4 * t + 3 : Nat) : Int) := by rw [zj (by omega) (by omega)]; omega
      repeat' (first | refine wC ?_ | refine wK ?_ | ((with_reducible refine ze ?_); refine zl rfl rfl rfl rfl rfl rfl ?_ ?_ ?_) | ((with_reducible refine yS ?_); refine zZ rfl rfl rfl rfl rfl rfl rfl ?_ ?_) | ((with_reducible refine yf ?_); refine xO rfl rfl rfl rfl rfl rfl rfl ?_ ?_ ?_ ?_) | refine zm rfl ?_ ?_ <;> intro hc | fail)
      all_goals try simp only [w0, w1, w2, w3, List.length_set, Int.toNat_natCast]
      all_goals try omega
      exact zv (n' := 8 - (t + 1)) (by omega) (za [8, 40, 41] [.loc 8] rfl rfl) ⟨t + 1, zgq b0 b1 b2 b3 vl t l, by omega, rfl, by unfold zgq; simp only [List.length_set]; exact hl, by rw [hi, show 8 - (t + 1) = c by omega], by rw [zj (by omega) (by omega)]; rfl, rfl⟩
    · obtain rfl : t = 8 := by omega
      simp only [Nat.sub_self, y8] at hi
      rw [← hi, hE]
      have hol : (V.out.map u8T).length = 32 := by rw [List.length_map, zer]
      refine zb (zU (id := .loc 8) rfl (RowLE.unarr (cs := (V.out.map u8T).map AV.t) rfl (zb9 _)) rfl) ?_
      refine zb (zeb 8 (.loc 8) (V.out.map u8T) rfl rfl rfl rfl rfl) ?_
      repeat' (first | refine wC ?_ | refine wK ?_ | ((with_reducible refine zN ?_); refine k8 rfl rfl rfl rfl rfl ?_ ?_) | ((with_reducible refine yn ?_); refine j0 rfl rfl rfl rfl rfl rfl ?_ ?_ ?_) | fail)
      all_goals try (exfalso; omega)
      · exact hol
      · exact zb9 _
      · exact qa _
      · exact zx (zd rfl rfl (congrArg T.str (vi _))) (by simp)
def zfw (f0 f1 f2 f3 : Int → Int) (v : List Int) (i : Nat) (l : List Int) : List Int := l ++ [f0 (v.getD i 0), f1 (v.getD i 0), f2 (v.getD i 0), f3 (v.getD i 0)]
theorem zeD (f0 f1 f2 f3 : Int → Int) (v : H8) : y8 (zfw f0 f1 f2 f3 v.l) 8 0 [] = [f0 v.a, f1 v.a, f2 v.a, f3 v.a] ++ [f0 v.b, f1 v.b, f2 v.b, f3 v.b] ++ [f0 v.c, f1 v.c, f2 v.c, f3 v.c] ++ [f0 v.d, f1 v.d, f2 v.d, f3 v.d] ++ [f0 v.e, f1 v.e, f2 v.e, f3 v.e] ++ [f0 v.f, f1 v.f, f2 v.f, f3 v.f] ++ [f0 v.g, f1 v.g, f2 v.g, f3 v.g] ++ [f0 v.h, f1 v.h, f2 v.h, f3 v.h] := by kernel_rfl
theorem zfC (v : H8) (hv : v.In) : (y8 (zfw b0 b1 b2 b3 v.l) 8 0 []).map (T.int .u8) = v.out.map u8T := by
  rw [zeD]
  obtain ⟨h1, h2, h3, h4, h5, h6, h7, h8⟩ := hv
  unfold H8.out
  simp only [List.map_append, y6 h1.1 h1.2, y6 h2.1 h2.2, y6 h3.1 h3.2, y6 h4.1 h4.2, y6 h5.1 h5.2, y6 h6.1 h6.2, y6 h7.1 h7.2, y6 h8.1 h8.2]
set_option maxHeartbeats 8000000 in
theorem qJ (s : ByteArray) (hs : s.size ≤ 40000000) : Spec Try.prog 24 [.t (.str s)] [] (.t (.str (sha s))) [] := by
  have hP := zem s (by omega)
  have hpl := zeT s.data.toList
  obtain ⟨p, hp⟩ : ∃ p, p = ofL (zch s.data.toList) := ⟨_, rfl⟩
  have hpp : p.data.toList = zch s.data.toList := by rw [hp, vo]
  have hps : p.size = (zch s.data.toList).length := by rw [← zK, hpp]
  rw [zK] at hpl
  have hsl : zgm s.data.toList = (xi (p.size / 64) zcV p.data.toList).out := by unfold zgm; rw [hps, hpp]
  rw [← hp] at hP
  refine wI Try.func24 ?_
  repeat' (first | refine wC ?_ | refine wK ?_ | ((with_reducible refine zk ?_); first | refine wL zc4 ?_ | refine wL zaW ?_ | refine wL hP ?_) | fail)
  refine zb (zU (id := .loc 4) rfl (RowLE.arr (es := zbN.map xI) rfl (yW _)) rfl) ?_
  refine zb (za [3, 4, 5, 6] [.loc 3, .loc 4] rfl rfl) ?_
  obtain ⟨N, hN⟩ : ∃ N, N = p.size / 64 := ⟨_, rfl⟩
  rw [← hN] at hsl
  have hp64 : p.size = 64 * N := by rw [hN, hps]; have := hpl.1; omega
  have hpm : p.size ≤ 50000000 := by rw [hps]; omega
  obtain ⟨F, hF⟩ : ∃ F, F = xi N zcV p.data.toList := ⟨_, rfl⟩
  have hFi : F.In := by rw [hF]; exact qb _ _ _ zdW
  rw [← hF] at hsl
  rw [show sha s = ofL F.out by unfold sha; rw [hsl]]
  clear hsl hP hp hpp hps hpl hN
  refine zf (fun m env st => ∃ (k : Nat) (h : H8), k ≤ N ∧ m = N - k ∧ F = xi (N - k) h (p.data.toList.drop (64 * k)) ∧
      env = EnvL.get [(3, .ref (.loc 3) 0 0 0), (4, .ref (.loc 4) 0 0 0), (5, .t (.str p)), (6, .t (.int .i64 ((64 * k : Nat) : Int)))] ∧
      st = StO.get [(.loc 3, some (.var 88 (h.t.map AV.t))), (.loc 4, some (.arr 96 1 (zbN.map xI)))])
    ?_ (n := N) ⟨0, zcV, by omega, rfl, by rw [hF]; rfl, rfl, rfl⟩
  clear hF
  rintro m env st ⟨k, h, hk, rfl, hf, rfl, rfl⟩
  by_cases hlt : k < N
  · have hw1 : IntKind.i64.wrap (((64 * k : Nat) : Int) + 64) = ((64 * k + 64 : Nat) : Int) := by rw [zj (by omega) (by omega)]; omega
    have hB := zcW h (p.extract (((64 * k : Nat) : Int)).toNat (IntKind.i64.wrap (((64 * k : Nat) : Int) + 64)).toNat) (by rw [ByteArray.size_extract, hw1]; omega) (by rw [ByteArray.size_extract, hw1]; omega)
    have hX : (p.extract (((64 * k : Nat) : Int)).toNat (IntKind.i64.wrap (((64 * k : Nat) : Int) + 64)).toNat).data.toList = (p.data.toList.drop (64 * k)).take 64 := by
      rw [xP, hw1, Int.toNat_natCast, Int.toNat_natCast, show 64 * k + 64 - 64 * k = 64 by omega]
    rw [hX, zet _ _ _ (by rw [List.length_drop, zK]; omega) (by omega)] at hB
    obtain ⟨c, hc⟩ : ∃ c, N - k = c + 1 := ⟨N - k - 1, by omega⟩
    rw [hc] at hf
    simp only [xi, List.drop_drop] at hf
    generalize zdh h (p.data.toList.drop (64 * k)) = h' at hf hB
    obtain ⟨a1, a2, a3, a4, a5, a6, a7, a8⟩ := h
    obtain ⟨c1, c2, c3, c4, c5, c6, c7, c8⟩ := h'
    simp only [H8.t, List.map_cons, List.map_nil] at hB ⊢
    repeat' (first | refine wC ?_ | refine wK ?_ | ((with_reducible refine yn ?_); refine zr rfl rfl ⟨_, rfl⟩ ⟨_, rfl⟩ rfl rfl rfl ?_ ?_ ?_ ?_) | ((with_reducible refine zk ?_); refine wL hB ?_) | ((with_reducible refine xR ?_); refine vI rfl rfl rfl rfl rfl rfl rfl rfl rfl ?_) | refine zm rfl ?_ ?_ <;> intro hc | fail)
    all_goals try (rw [hw1]; omega)
    all_goals try (exfalso; omega)
    · omega
    exact zv (n' := N - (k + 1)) (by omega) (za [3, 4, 5, 6] [.loc 3, .loc 4] rfl rfl) ⟨k + 1, ⟨c1, c2, c3, c4, c5, c6, c7, c8⟩, by omega, rfl, by rw [hf, show N - (k + 1) = c by omega, show 64 * (k + 1) = 64 * k + 64 by omega], by rw [hw1, show 64 * (k + 1) = 64 * k + 64 by omega]; rfl, rfl⟩
  · have hkN : k = N := by omega
    subst hkN
    simp only [Nat.sub_self, xi] at hf
    subst hf
    repeat' (first | refine wC ?_ | refine wK ?_ | ((with_reducible refine yn ?_); refine zr rfl rfl ⟨_, rfl⟩ ⟨_, rfl⟩ rfl rfl rfl ?_ ?_ ?_ ?_) | ((with_reducible refine xR ?_); refine vI rfl rfl rfl rfl rfl rfl rfl rfl rfl ?_) | refine zm rfl ?_ ?_ <;> intro hc | fail)
    all_goals try (exfalso; omega)
    obtain ⟨R, hR⟩ : ∃ R, R = y8 (zfw b0 b1 b2 b3 F.l) 8 0 [] := ⟨_, rfl⟩
    have hE : R.map (T.int .u8) = F.out.map u8T := by rw [hR]; exact zfC F hFi
    refine zb (xv 7 (.loc 900) 5 1 rfl rfl rfl) ?_
    refine zb (za [7, 28, 29] [.loc 900] rfl rfl) ?_
    have hvl : F.l.length = 8 := rfl
    obtain ⟨vl, hvl'⟩ : ∃ l, l = F.l := ⟨_, rfl⟩
    rw [← hvl'] at hR hvl
    refine zf (fun p env st => ∃ (t : Nat) (l : List Int), t ≤ 8 ∧ p = 8 - t ∧ l.length = 4 * t ∧ R = y8 (zfw b0 b1 b2 b3 vl) (8 - t) t l ∧
        env = EnvL.get [(7, .row (.loc 900)), (28, .t (.agg (vl.map xI))), (29, .t (.int .i64 (t : Int)))] ∧
        st = StO.get [(.loc 900, some (.slt 5 1 (l.map (T.int .u8))))])
      ?_ (n := 8) ⟨0, [], by omega, rfl, by simp, hR, by rw [hvl']; rfl, rfl⟩
    clear hR
    rintro p env st ⟨t, l, ht, rfl, hl, hi, rfl, rfl⟩
    by_cases hlt : t < 8
    · obtain ⟨c, hc⟩ : ∃ c, 8 - t = c + 1 := ⟨8 - t - 1, by omega⟩
      rw [hc] at hi
      simp only [y8] at hi
      repeat' (first | refine wC ?_ | refine wK ?_ | ((with_reducible refine zN ?_); refine zw rfl rfl rfl rfl rfl rfl ?_ ?_) | ((with_reducible refine zQ ?_); refine zq rfl rfl rfl rfl rfl rfl rfl rfl rfl rfl ?_ ?_ ?_) | ((with_reducible refine yf ?_); refine xO rfl rfl rfl rfl rfl rfl rfl ?_ ?_ ?_ ?_) | refine zm rfl ?_ ?_ <;> intro hc | fail)
      all_goals try omega
      all_goals try (exfalso; omega)
      all_goals try (simp only [List.length_map, List.length_cons, List.length_nil]; omega)
      refine zv (n' := 8 - (t + 1)) (by omega) ((za [7, 28, 29] [.loc 45] rfl rfl).trans (zo (.loc 45) (.loc 900) rfl rfl rfl rfl)) ⟨t + 1, zfw b0 b1 b2 b3 vl t l, by omega, rfl, by unfold zfw; rw [List.length_append]; simp; omega, by rw [hi, show 8 - (t + 1) = c by omega], by rw [zj (by omega) (by omega)]; rfl, ?_⟩
      unfold zfw
      rw [List.map_append]; rfl
    · obtain rfl : t = 8 := by omega
      simp only [Nat.sub_self, y8] at hi
      rw [← hi, hE]
      repeat' (first | refine wC ?_ | refine wK ?_ | ((with_reducible refine zN ?_); refine zw rfl rfl rfl rfl rfl rfl ?_ ?_) | fail)
      all_goals try (exfalso; omega)
      · exact qa _
      · exact zx (zd rfl rfl (congrArg T.str (vi _))) (by simp)
end Go.AL
