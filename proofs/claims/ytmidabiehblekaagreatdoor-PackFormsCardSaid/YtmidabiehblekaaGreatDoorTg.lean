/- What functions of the program and of the document answer, and the plain laws behind it; each under the conditions that its own theorem names. -/
import Derived.Test.YtmidabiehblekaaGreatDoorTf
import Derived.Lib.AtoiAll
import Derived.Lib.AtoiAllCases
import Derived.Test.YtmidabiehblekaaGreatDoorAl4
import Derived.Test.YtmidabiehblekaaGreatDoorAl3
import Derived.Test.YtmidabiehblekaaGreatDoorTc
import Derived.Test.YtmidabiehblekaaGreatDoorTb
set_option linter.unusedVariables false
namespace Go.AL
open Go Go.RowKit
def zdQ (s t : ByteArray) : Bool := decide (t.size ≤ s.size) && decide (s.extract 0 t.size = t)
def Rs.skip (r : Rs) (t : ByteArray) : Bool × Rs := if zdQ r.s t && !r.bad then (true, ⟨r.s.extract t.size r.s.size, false⟩) else (false, r)
def Rs.expect (r : Rs) (t : ByteArray) : Rs := if (r.skip t).1 = true then (r.skip t).2 else ⟨r.s, true⟩
def pu8 (t : ByteArray) : Int × Bool :=
  if t = eS then (0, false) else
    match pgo 255 t.data.toList 0 with
    | .ok n => ((n : Int), true)
    | .error k => (if k = 2 then 0 else 255, false)
def zi8 (l : Int) : Option UInt8 := (zmo.find? fun x => decide ((x.2.toNat : Int) = l)).map (·.1)
def qi (r : Rs) : Int × Rs :=
  if r.byte.1 = 117 then ((pu8 (r.byte.2.take 4).1).1, if (pu8 (r.byte.2.take 4).1).2 = true then (r.byte.2.take 4).2 else ⟨(r.byte.2.take 4).2.s, true⟩)
  else match zi8 r.byte.1 with
    | some c => ((c.toNat : Int), r.byte.2)
    | none => (0, ⟨r.byte.2.s, true⟩)
def wM : Nat → List UInt8 → Rs → ByteArray × Rs
  | 0, out, r => (eS, r)
  | f + 1, out, r => if r.bad = true then (eS, r)
    else if r.byte.1 = 34 then (ofL out, r.byte.2)
    else if r.byte.1 = 92 then wM f (out ++ [UInt8.ofNat (qi r.byte.2).1.toNat]) (qi r.byte.2).2
    else wM f (out ++ [UInt8.ofNat r.byte.1.toNat]) r.byte.2
def qS : ByteArray := ⟨#[34]⟩
def xf (r : Rs) : ByteArray × Rs := wM (r.s.size + 2) [] (r.expect qS)
def xY (b : UInt8) : Bool := decide (b = 45) || (decide (48 ≤ b.toNat) && decide (b.toNat ≤ 57))
def zcA (s : ByteArray) : Nat := (s.data.toList.takeWhile xY).length
def vE (r : Rs) : Int × Rs :=
  match Lib.atoiAll (r.take (zcA r.s)).1.data.toList with
  | .ok v => (v, (r.take (zcA r.s)).2)
  | .range => (Lib.atoiSat (r.take (zcA r.s)).1.data.toList, ⟨(r.take (zcA r.s)).2.s, true⟩)
  | _ => (0, ⟨(r.take (zcA r.s)).2.s, true⟩)
def kD (first : Bool) (r : Rs) : Rs := if first then r else r.expect ⟨#[44]⟩
def zX (f : Rs → Nd × Rs) (k : Int) (e : ByteArray) : Nat → Bool → List ByteArray → List Nd → Rs → Nd × Rs
  | 0, first, ns, is, r => (.mk k false 0 eS ns is, r)
  | c + 1, first, ns, is, r =>
    if r.bad = true then (.mk k false 0 eS ns is, r)
    else if (r.skip e).1 = true then (.mk k false 0 eS ns is, (r.skip e).2)
    else if k = 5 then zX f k e c false (ns ++ [(xf (kD first r)).1]) (is ++ [(f ((xf (kD first r)).2.expect ⟨#[58]⟩)).1]) (f ((xf (kD first r)).2.expect ⟨#[58]⟩)).2
    else zX f k e c false ns (is ++ [(f (kD first r)).1]) (f (kD first r)).2
def vA : ByteArray := ofL kE
def qo : ByteArray := ofL w7
def wO : ByteArray := ofL xm
def yy : Nat → Rs → Nd × Rs
  | 0, r => (Nd.zero, ⟨r.s, true⟩)
  | d + 1, r =>
    if (r.skip vA).1 = true then (Nd.zero, (r.skip vA).2)
    else if (r.skip qo).1 = true then (.mk 1 true 0 eS [] [], (r.skip qo).2)
    else if (r.skip wO).1 = true then (.mk 1 false 0 eS [] [], (r.skip wO).2)
    else if (r.skip ⟨#[91]⟩).1 = true then zX (yy d) 4 ⟨#[93]⟩ ((r.skip ⟨#[91]⟩).2.s.size + 2) true [] [] (r.skip ⟨#[91]⟩).2
    else if (r.skip ⟨#[123]⟩).1 = true then zX (yy d) 5 ⟨#[125]⟩ ((r.skip ⟨#[123]⟩).2.s.size + 2) true [] [] (r.skip ⟨#[123]⟩).2
    else if zdQ r.s qS = true then (.mk 3 false 0 (xf r).1 [] [], (xf r).2)
    else (.mk 2 false (vE r).1 eS [] [], (vE r).2)
theorem xZ (t a : List UInt8) : (Rs.mk (ofL (t ++ a)) false).skip (ofL t) = (true, ⟨ofL a, false⟩) := by
  unfold Rs.skip zdQ
  simp only [zx, we, List.length_append]
  rw [if_pos (by simp)]
  simp
theorem yM {c d : UInt8} (a t : List UInt8) (h : c ≠ d) : (Rs.mk (ofL (c :: a)) false).skip (ofL (d :: t)) = (false, ⟨ofL (c :: a), false⟩) := by
  unfold Rs.skip zdQ
  simp only [zx, we]
  rw [if_neg]
  intro hh
  simp only [Bool.and_eq_true, decide_eq_true_eq, List.drop_zero, Nat.sub_zero] at hh
  have h2 := congrArg (fun s => s.data.toList.head?) hh.1.2
  simp only [yV, List.length_cons, List.take_succ_cons, List.head?_cons, Option.some.injEq] at h2
  exact h h2
theorem ql (t a : List UInt8) : (Rs.mk (ofL (t ++ a)) false).expect (ofL t) = ⟨ofL a, false⟩ := by
  unfold Rs.expect
  rw [xZ]; simp
theorem znG (c : UInt8) (h : c.toNat < 32) : pu8 (ofL [48, 48, qJ (c.toNat / 16), qJ (c.toNat % 16)]) = ((c.toNat : Int), true) := by
  have key : ∀ n : Fin 32, pu8 (ofL [48, 48, qJ (n.val / 16), qJ (n.val % 16)]) = ((n.val : Int), true) := by decide +kernel
  exact key ⟨c.toNat, h⟩
theorem zk2 {c l : UInt8} (h : zii c = some l) : l.toNat ≠ 117 ∧ zi8 (l.toNat : Int) = some c := by
  have key : ∀ x ∈ zmo, x.2.toNat ≠ 117 ∧ zi8 (x.2.toNat : Int) = some x.1 := by decide
  have hm : ∀ (L : List (UInt8 × UInt8)), L.lookup c = some l → (c, l) ∈ L := by
    intro L
    induction L with
    | nil => simp
    | cons x L ih =>
      obtain ⟨a, b⟩ := x
      intro h
      simp only [List.lookup] at h
      split at h
      · rename_i he
        have : c = a := by simpa using he
        cases h; subst this; simp
      · exact List.mem_cons_of_mem _ (ih h)
  exact key _ (hm _ h)
theorem zeM {c : UInt8} (h : zii c = none) : c ≠ 34 ∧ c ≠ 92 := by
  constructor <;> (rintro rfl; exact absurd h (by decide))
theorem zmH (c : UInt8) : UInt8.ofNat ((c.toNat : Int)).toNat = c := by simp
theorem zeO {c l : UInt8} (h : zii c = some l) (a : List UInt8) : qi ⟨ofL (l :: a), false⟩ = ((c.toNat : Int), ⟨ofL a, false⟩) := by
  obtain ⟨h1, h2⟩ := zk2 h
  unfold qi
  rw [w6]
  simp only
  rw [if_neg (by omega), h2]
theorem zjB {c : UInt8} (h : c.toNat < 32) (a : List UInt8) : qi ⟨ofL (117 :: 48 :: 48 :: qJ (c.toNat / 16) :: qJ (c.toNat % 16) :: a), false⟩ = ((c.toNat : Int), ⟨ofL a, false⟩) := by
  have ht := qu [48, 48, qJ (c.toNat / 16), qJ (c.toNat % 16)] a
  rw [show (([48, 48, qJ (c.toNat / 16), qJ (c.toNat % 16)] : List UInt8).length : Int) = 4 from rfl] at ht
  unfold qi
  rw [w6]
  simp only
  rw [if_pos (by decide)]
  rw [show (48 :: 48 :: qJ (c.toNat / 16) :: qJ (c.toNat % 16) :: a) = [48, 48, qJ (c.toNat / 16), qJ (c.toNat % 16)] ++ a from rfl, ht]
  simp only
  rw [znG c h]
  simp
theorem zbH : ∀ (l : List UInt8) (f : Nat) (out t : List UInt8), l.length + 1 ≤ f → wM f out ⟨ofL (yB l ++ 34 :: t), false⟩ = (ofL (out ++ l), ⟨ofL t, false⟩)
  | [], f, out, t, hf => by
    obtain ⟨f, rfl⟩ : ∃ g, f = g + 1 := ⟨f - 1, by simp at hf; omega⟩
    simp only [yB, List.nil_append, wM, w6]
    simp
  | c :: l, f, out, t, hf => by
    obtain ⟨f, rfl⟩ : ∃ g, f = g + 1 := ⟨f - 1, by simp at hf; omega⟩
    have ih := zbH l f (out ++ [c]) t (by simp at hf ⊢; omega)
    rw [show out ++ c :: l = out ++ [c] ++ l by simp, ← ih]
    simp only [yB, List.append_assoc]
    rw [wM]
    unfold zez
    cases hO : zii c with
    | some m =>
      simp only [List.cons_append, List.nil_append, w6, Bool.false_eq_true, if_false]
      rw [if_neg (by decide), if_pos (by decide), zeO hO, zmH]
    | none =>
      obtain ⟨n1, n2⟩ := zeM hO
      simp only
      by_cases h32 : c.toNat < 32
      · rw [if_pos h32]
        simp only [List.cons_append, List.nil_append, w6, Bool.false_eq_true, if_false]
        rw [if_neg (by decide), if_pos (by decide), zjB h32, zmH]
      · rw [if_neg h32]
        simp only [List.cons_append, List.nil_append, w6, Bool.false_eq_true, if_false]
        have e1 : ¬ ((c.toNat : Int) = 34) := fun e => n1 (UInt8.toNat_inj.1 (by show c.toNat = 34; omega))
        have e2 : ¬ ((c.toNat : Int) = 92) := fun e => n2 (UInt8.toNat_inj.1 (by show c.toNat = 92; omega))
        rw [if_neg e1, if_neg e2, zmH]
theorem zcd (s : ByteArray) (t : List UInt8) : xf ⟨ofL (jQ s ++ t), false⟩ = (s, ⟨ofL t, false⟩) := by
  unfold xf
  have h1 : (Rs.mk (ofL (jQ s ++ t)) false).expect qS = ⟨ofL (yB s.data.toList ++ 34 :: t), false⟩ := by
    have := ql [34] (yB s.data.toList ++ 34 :: t)
    unfold jQ
    rw [show qS = ofL [34] from rfl]
    simpa using this
  rw [h1, zbH _ _ _ _ ?_, List.nil_append, vI]
  have : ∀ l : List UInt8, l.length ≤ (yB l).length := fun l => by
    induction l with
    | nil => simp
    | cons c l ih => have := zeH c; simp only [yB, List.length_append, List.length_cons]; omega
  have := this s.data.toList
  simp only [zx, jQ, List.length_cons, List.length_append]; omega
end Go.AL
namespace Go.AL
open Go Go.RowKit Go.Lib
theorem zhQ (c : UInt8) : ∀ (l : List UInt8) (a u : Nat), parseUint10 a l = .ok u → parseUint10 a (l ++ [c]) = parseUint10 u [c]
  | [], a, u, h => by
    simp only [parseUint10] at h
    injection h with h
    subst h; rfl
  | b :: l, a, u, h => by
    simp only [parseUint10] at h
    simp only [List.cons_append]
    rw [parseUint10]
    split at h
    · rename_i h1
      rw [if_pos h1]
      split at h
      · cases h
      · rename_i h2
        rw [if_neg h2]
        split at h
        · cases h
        · rename_i h3
          rw [if_neg h3]
          exact zhQ c l _ u h
    · cases h
theorem zbI (d : Nat) (h : d < 10) : (UInt8.ofNat (48 + d)).toNat = 48 + d := by
  rw [UInt8.toNat_ofNat_of_lt' (by simp only [UInt8.size]; omega)]
theorem zjo (u d : Nat) (hd : d < 10) (h : u * 10 + d < 18446744073709551616) : parseUint10 u [UInt8.ofNat (48 + d)] = .ok (u * 10 + d) := by
  simp only [parseUint10, zbI d hd]
  rw [if_pos (by omega), if_neg (by omega), if_neg (by omega)]
  congr 1; omega
theorem zdI : ∀ (u : Nat), u < 18446744073709551616 → parseUint10 0 (decDigits u) = .ok u := by
  intro u
  induction u using Nat.strongRecOn with
  | ind u ih =>
    intro hu
    by_cases h : u < 10
    · rw [decDigits, dif_pos h]
      have := zjo 0 u h (by omega)
      simpa using this
    · rw [decDigits, dif_neg h, zhQ _ _ _ _ (ih (u / 10) (by omega) (by omega)), zjo _ _ (by omega) (by omega)]
      congr 1; omega
theorem zci : ∀ (u : Nat), ∀ c ∈ decDigits u, 48 ≤ c.toNat ∧ c.toNat ≤ 57 := by
  intro u
  induction u using Nat.strongRecOn with
  | ind u ih =>
    intro c hc
    by_cases h : u < 10
    · rw [decDigits, dif_pos h] at hc
      rw [List.mem_singleton.1 hc, zbI u h]; omega
    · rw [decDigits, dif_neg h] at hc
      rcases List.mem_append.1 hc with h1 | h1
      · exact ih (u / 10) (by omega) c h1
      · rw [List.mem_singleton.1 h1, zbI _ (by omega)]; omega
theorem zb1 (u : Nat) : decDigits u ≠ [] := by
  rw [decDigits]; split <;> simp
theorem zjd (n : Int) (h0 : -9223372036854775808 ≤ n) (h1 : n ≤ 9223372036854775807) : atoiAll (itoa n) = .ok n := by
  by_cases hn : n < 0
  · have e : itoa n = 45 :: decDigits n.natAbs := by unfold itoa; rw [if_pos hn]
    rw [e]
    have hp : parseMag (decDigits n.natAbs) = .ok n.natAbs := by
      unfold parseMag; rw [if_neg (zb1 _), zdI _ (by omega)]
    unfold atoiAll
    simp only
    rw [if_pos (.inr (by decide)), hp]
    simp only
    rw [if_neg (by simp), if_neg (by simp; omega), if_pos (by decide)]
    congr 1; omega
  · have e : itoa n = decDigits n.toNat := by unfold itoa; rw [if_neg hn]
    rw [e]
    have hp : parseMag (decDigits n.toNat) = .ok n.toNat := by
      unfold parseMag; rw [if_neg (zb1 _), zdI _ (by omega)]
    obtain ⟨c, l, hcl⟩ : ∃ c l, decDigits n.toNat = c :: l := by
      cases h : decDigits n.toNat with
      | nil => exact absurd h (zb1 _)
      | cons c l => exact ⟨c, l, rfl⟩
    have hc := zci n.toNat c (by rw [hcl]; simp)
    rw [hcl] at hp ⊢
    unfold atoiAll
    simp only
    rw [if_neg (by omega), hp]
    simp only
    rw [if_neg (by omega), if_neg (by omega), if_neg (by omega)]
    congr 1; omega
theorem zex (n : Int) : ∀ c ∈ itoa n, xY c = true := by
  intro c hc
  have key : ∀ u, ∀ c ∈ decDigits u, xY c = true := fun u c hc => by
    have := zci u c hc
    unfold xY; simp [this]
  unfold itoa at hc
  split at hc
  · rcases List.mem_cons.1 hc with h | h
    · subst h; rfl
    · exact key _ c h
  · exact key _ c hc
def vV (t : List UInt8) : Prop := ∀ c, t.head? = some c → xY c = false
theorem zeo (l t : List UInt8) (h : ∀ c ∈ l, xY c = true) (ht : vV t) : (l ++ t).takeWhile xY = l := by
  induction l with
  | nil =>
    cases t with
    | nil => rfl
    | cons c t =>
      have := ht c rfl
      simp [List.takeWhile_cons, this]
  | cons c l ih =>
    rw [List.cons_append, List.takeWhile_cons, h c (by simp), if_pos rfl, ih fun c hc => h c (by simp [hc])]
theorem zi4 (n : Int) (t : List UInt8) (h0 : -9223372036854775808 ≤ n) (h1 : n ≤ 9223372036854775807) (ht : vV t) : vE ⟨ofL (itoa n ++ t), false⟩ = (n, ⟨ofL t, false⟩) := by
  unfold vE
  have hr : zcA (ofL (itoa n ++ t)) = (itoa n).length := by
    unfold zcA; rw [yV, zeo _ _ (zex n) ht]
  simp only [hr, qu, yV, zjd n h0 h1]
theorem zkh {V : ByteArray → Bool} (x : Nd) (e : Int) (hv : x.validB V e = true) : ∃ c l, x.jb = c :: l ∧ c ≠ 93 ∧ c ≠ 44 := by
  obtain ⟨k, b, n, t, ns, is⟩ := x
  unfold Nd.jb
  split
  · exact ⟨110, _, rfl, by decide, by decide⟩
  split
  · cases b with
    | true => exact ⟨116, _, rfl, by decide, by decide⟩
    | false => exact ⟨102, _, rfl, by decide, by decide⟩
  split
  · have hh : ∀ u : Nat, ∃ c l, decDigits u = c :: l ∧ c ≠ 93 ∧ c ≠ 44 := fun u => by
      cases h : decDigits u with
      | nil => exact absurd h (zb1 _)
      | cons c l =>
        have := zci u c (by rw [h]; simp)
        refine ⟨c, l, rfl, ?_, ?_⟩ <;> (rintro rfl; revert this; decide)
    unfold itoa
    split
    · exact ⟨45, _, rfl, by decide, by decide⟩
    · exact hh _
  split
  · exact ⟨34, _, rfl, by decide, by decide⟩
  split
  · exact ⟨91, _, rfl, by decide, by decide⟩
  · exact ⟨123, _, rfl, by decide, by decide⟩
theorem zdG (f : Bool) (xs : List Nd) (c : UInt8) (hc : xY c = false) (t : List UInt8) : vV (Nd.jbs false xs ++ c :: t) := by
  intro d hd
  cases xs with
  | nil =>
    simp only [Nd.jbs, List.nil_append, List.head?_cons, Option.some.injEq] at hd
    subst hd; exact hc
  | cons x xs =>
    simp only [Nd.jbs, Bool.false_eq_true, if_false, List.cons_append, List.nil_append, List.head?_cons, Option.some.injEq] at hd
    subst hd; rfl
theorem zcy (ns : List ByteArray) (xs : List Nd) (c : UInt8) (hc : xY c = false) (t : List UInt8) : vV (Nd.jbm false ns xs ++ c :: t) := by
  intro d hd
  have base : Nd.jbm false ns xs = [] → xY d = false := fun h => by
    rw [h] at hd
    simp only [List.nil_append, List.head?_cons, Option.some.injEq] at hd
    subst hd; exact hc
  cases ns with
  | nil => exact base (by simp [Nd.jbm])
  | cons s ns =>
    cases xs with
    | nil => exact base (by simp [Nd.jbm])
    | cons x xs =>
      simp only [Nd.jbm, Bool.false_eq_true, if_false, List.cons_append, List.nil_append, List.head?_cons, Option.some.injEq] at hd
      subst hd; rfl
theorem zcX {f : Rs → Nd × Rs} {k : Int} {e : ByteArray} {c : Nat} {first : Bool} {ns : List ByteArray} {is : List Nd} {r r' : Rs} (hb : r.bad = false) (h : r.skip e = (true, r')) : zX f k e (c + 1) first ns is r = (.mk k false 0 eS ns is, r') := by
  rw [zX, if_neg (by rw [hb]; decide), if_pos (by rw [h]), h]
theorem zk5 {f : Rs → Nd × Rs} {k : Int} {e : ByteArray} {c : Nat} {first : Bool} {ns : List ByteArray} {is : List Nd} {r r' : Rs} (hb : r.bad = false) (h : r.skip e = (false, r')) (hk : ¬ k = 5) : zX f k e (c + 1) first ns is r = zX f k e c false ns (is ++ [(f (kD first r)).1]) (f (kD first r)).2 := by
  rw [zX, if_neg (by rw [hb]; decide), if_neg (by rw [h]; simp), if_neg hk]
theorem zle {f : Rs → Nd × Rs} {k : Int} {e : ByteArray} {c : Nat} {first : Bool} {ns : List ByteArray} {is : List Nd} {r r' : Rs} (hb : r.bad = false) (h : r.skip e = (false, r')) (hk : k = 5) : zX f k e (c + 1) first ns is r = zX f k e c false (ns ++ [(xf (kD first r)).1]) (is ++ [(f ((xf (kD first r)).2.expect ⟨#[58]⟩)).1]) (f ((xf (kD first r)).2.expect ⟨#[58]⟩)).2 := by
  rw [zX, if_neg (by rw [hb]; decide), if_neg (by rw [h]; simp), if_pos hk]
theorem zbz (f : Rs → Nd × Rs) : ∀ (xs : List Nd) (first : Bool) (ns : List ByteArray) (acc : List Nd) (t : List UInt8) (fu : Nat), xs.length + 1 ≤ fu → (∀ x ∈ xs, (∃ c l, x.jb = c :: l ∧ c ≠ 93 ∧ c ≠ 44) ∧ ∀ t : List UInt8, vV t → f ⟨ofL (x.jb ++ t), false⟩ = (x, ⟨ofL t, false⟩)) →
    zX f 4 ⟨#[93]⟩ fu first ns acc ⟨ofL (Nd.jbs first xs ++ 93 :: t), false⟩ = (.mk 4 false 0 eS ns (acc ++ xs), ⟨ofL t, false⟩)
  | [], first, ns, acc, t, fu, hf, _ => by
    obtain ⟨fu, rfl⟩ : ∃ g, fu = g + 1 := ⟨fu - 1, by simp at hf; omega⟩
    have h := xZ [93] t
    have e : (Nd.jbs first [] ++ 93 :: t) = [93] ++ t := by simp [Nd.jbs]
    rw [e, show (⟨#[93]⟩ : ByteArray) = ofL [93] from rfl, zcX rfl h, List.append_nil]
  | x :: xs, first, ns, acc, t, fu, hf, h => by
    obtain ⟨fu, rfl⟩ : ∃ g, fu = g + 1 := ⟨fu - 1, by simp at hf; omega⟩
    obtain ⟨⟨c, l, hcl, hc1, hc2⟩, hx⟩ := h x (by simp)
    have ih := zbz f xs false ns (acc ++ [x]) t fu (by simp at hf ⊢; omega) fun y hy => h y (by simp [hy])
    have hx := hx (Nd.jbs false xs ++ 93 :: t) (zdG true xs 93 rfl t)
    have hs : (Rs.mk (ofL (Nd.jbs first (x :: xs) ++ 93 :: t)) false).skip ⟨#[93]⟩ = (false, ⟨ofL (Nd.jbs first (x :: xs) ++ 93 :: t), false⟩) := by
      cases first with
      | true =>
        simp only [Nd.jbs, if_true, List.nil_append, hcl, List.cons_append]
        exact yM _ [] hc1
      | false =>
        simp only [Nd.jbs, Bool.false_eq_true, if_false, List.cons_append, List.nil_append]
        exact yM _ [] (by decide)
    have hsep : kD first ⟨ofL (Nd.jbs first (x :: xs) ++ 93 :: t), false⟩ = ⟨ofL (x.jb ++ (Nd.jbs false xs ++ 93 :: t)), false⟩ := by
      unfold kD
      cases first with
      | true => simp [Nd.jbs]
      | false =>
        have := ql [44] (x.jb ++ (Nd.jbs false xs ++ 93 :: t))
        simp only [Nd.jbs, Bool.false_eq_true, if_false, List.append_assoc]
        exact this
    rw [zk5 rfl hs (by decide), hsep, hx]
    simp only
    rw [ih]; simp
theorem zdX (f : Rs → Nd × Rs) : ∀ (ss : List ByteArray) (xs : List Nd) (first : Bool) (ns : List ByteArray) (acc : List Nd) (t : List UInt8) (fu : Nat), ss.length = xs.length → xs.length + 1 ≤ fu → (∀ x ∈ xs, ∀ t : List UInt8, vV t → f ⟨ofL (x.jb ++ t), false⟩ = (x, ⟨ofL t, false⟩)) →
    zX f 5 ⟨#[125]⟩ fu first ns acc ⟨ofL (Nd.jbm first ss xs ++ 125 :: t), false⟩ = (.mk 5 false 0 eS (ns ++ ss) (acc ++ xs), ⟨ofL t, false⟩)
  | [], [], first, ns, acc, t, fu, _, hf, _ => by
    obtain ⟨fu, rfl⟩ : ∃ g, fu = g + 1 := ⟨fu - 1, by simp at hf; omega⟩
    have h := xZ [125] t
    have e : (Nd.jbm first [] [] ++ 125 :: t) = [125] ++ t := by simp [Nd.jbm]
    rw [e, show (⟨#[125]⟩ : ByteArray) = ofL [125] from rfl, zcX rfl h, List.append_nil, List.append_nil]
  | s :: ss, x :: xs, first, ns, acc, t, fu, hl, hf, h => by
    obtain ⟨fu, rfl⟩ : ∃ g, fu = g + 1 := ⟨fu - 1, by simp at hf; omega⟩
    have ih := zdX f ss xs false (ns ++ [s]) (acc ++ [x]) t fu (by simpa using hl) (by simp at hf ⊢; omega) fun y hy => h y (by simp [hy])
    have hx := h x (by simp) (Nd.jbm false ss xs ++ 125 :: t) (zcy ss xs 125 rfl t)
    have hs : (Rs.mk (ofL (Nd.jbm first (s :: ss) (x :: xs) ++ 125 :: t)) false).skip ⟨#[125]⟩ = (false, ⟨ofL (Nd.jbm first (s :: ss) (x :: xs) ++ 125 :: t), false⟩) := by
      cases first with
      | true =>
        simp only [Nd.jbm, if_true, List.nil_append, jQ, List.cons_append]
        exact yM _ [] (by decide)
      | false =>
        simp only [Nd.jbm, Bool.false_eq_true, if_false, List.cons_append, List.nil_append]
        exact yM _ [] (by decide)
    have hsep : kD first ⟨ofL (Nd.jbm first (s :: ss) (x :: xs) ++ 125 :: t), false⟩ = ⟨ofL (jQ s ++ (58 :: (x.jb ++ (Nd.jbm false ss xs ++ 125 :: t)))), false⟩ := by
      unfold kD
      cases first with
      | true => simp [Nd.jbm]
      | false =>
        have := ql [44] (jQ s ++ (58 :: (x.jb ++ (Nd.jbm false ss xs ++ 125 :: t))))
        simp only [Nd.jbm, Bool.false_eq_true, if_false, List.append_assoc, List.cons_append]
        exact this
    have hcol : (Rs.mk (ofL (58 :: (x.jb ++ (Nd.jbm false ss xs ++ 125 :: t)))) false).expect ⟨#[58]⟩ = ⟨ofL (x.jb ++ (Nd.jbm false ss xs ++ 125 :: t)), false⟩ := ql [58] _
    rw [zle rfl hs rfl, hsep, zcd]
    simp only
    rw [hcol, hx]
    simp only
    rw [ih]; simp
  | [], _ :: _, _, _, _, _, _, hl, _, _ => by simp at hl
  | _ :: _, [], _, _, _, _, _, hl, _, _ => by simp at hl
theorem zjn : ∀ (f : Bool) (xs : List Nd), (∀ x ∈ xs, 1 ≤ x.jb.length) → xs.length ≤ (Nd.jbs f xs).length
  | f, [], _ => by simp
  | f, x :: xs, h => by
    have := zjn false xs fun y hy => h y (by simp [hy])
    have := h x (by simp)
    simp only [Nd.jbs, List.length_append, List.length_cons]; omega
theorem zkt : ∀ (f : Bool) (ss : List ByteArray) (xs : List Nd), ss.length = xs.length → xs.length ≤ (Nd.jbm f ss xs).length
  | f, [], [], _ => by simp
  | f, s :: ss, x :: xs, h => by
    have := zkt false ss xs (by simpa using h)
    simp only [Nd.jbm, List.length_append, List.length_cons]; omega
  | _, [], _ :: _, h => by simp at h
  | _, _ :: _, [], h => by simp at h
theorem zkx (c : UInt8) (a : List UInt8) (h : c ≠ 34) : zdQ (ofL (c :: a)) qS = false := by
  have := yM (d := 34) a [] h
  unfold Rs.skip at this
  cases hp : zdQ (ofL (c :: a)) qS with
  | false => rfl
  | true =>
    rw [show ofL [34] = qS from rfl] at this
    simp only [hp, Bool.not_false, Bool.and_self, if_true] at this
    exact absurd (congrArg (·.1) this) (by simp)
theorem zi1 (a : List UInt8) : zdQ (ofL (34 :: a)) qS = true := by
  have := xZ [34] a
  unfold Rs.skip at this
  cases hp : zdQ (ofL (34 :: a)) qS with
  | true => rfl
  | false =>
    rw [show ofL [34] = qS from rfl] at this
    simp only [List.cons_append, List.nil_append, hp, Bool.false_and, Bool.false_eq_true, if_false] at this
    exact absurd (congrArg (·.1) this) (by simp)
theorem zbM {d : Nat} {c : UInt8} {a : List UInt8} (h1 : c ≠ 110) (h2 : c ≠ 116) (h3 : c ≠ 102) (h4 : c ≠ 91) (h5 : c ≠ 123) : yy (d + 1) ⟨ofL (c :: a), false⟩ =
    if zdQ (ofL (c :: a)) qS = true then (.mk 3 false 0 (xf ⟨ofL (c :: a), false⟩).1 [] [], (xf ⟨ofL (c :: a), false⟩).2) else (.mk 2 false (vE ⟨ofL (c :: a), false⟩).1 eS [] [], (vE ⟨ofL (c :: a), false⟩).2) := by
  have e1 := yM (d := 110) a [117, 108, 108] h1
  have e2 := yM (d := 116) a [114, 117, 101] h2
  have e3 := yM (d := 102) a [97, 108, 115, 101] h3
  have e4 := yM (d := 91) a [] h4
  have e5 := yM (d := 123) a [] h5
  rw [yy]
  rw [show vA = ofL [110, 117, 108, 108] from rfl, show qo = ofL [116, 114, 117, 101] from rfl, show wO = ofL [102, 97, 108, 115, 101] from rfl, show (⟨#[91]⟩ : ByteArray) = ofL [91] from rfl, show (⟨#[123]⟩ : ByteArray) = ofL [123] from rfl]
  rw [e1, e2, e3, e4, e5]
  simp only [Bool.false_eq_true, if_false]
theorem zam {V : ByteArray → Bool} : ∀ (x : Nd) (d : Nat), x.validB V d = true → x.In → ∀ t : List UInt8, vV t → yy d ⟨ofL (x.jb ++ t), false⟩ = (x, ⟨ofL t, false⟩)
  | .mk k b n t ns is, d, hv, hin, u, hu => by
    rw [yo] at hv
    obtain ⟨h1, h2, h3, h4, h5, h6, h7, h8⟩ := hv
    cases hin with
    | mk i1 i2 i3 =>
    obtain ⟨d, rfl⟩ : ∃ e, d = e + 1 := ⟨d - 1, by omega⟩
    have e8 : (((d + 1 : Nat) : Int) - 1) = (d : Int) := by omega
    rw [e8] at h8
    have fld := h4
    simp only [Nd.fieldsOK, Bool.and_eq_true, Bool.or_eq_true, decide_eq_true_eq, Bool.not_eq_true'] at fld
    have hb : ¬ k = 1 → b = false := fun h => by rcases fld.1.1.1.1 with q | q <;> simp_all
    have hn : ¬ k = 2 → n = 0 := fun h => by rcases fld.1.1.1.2 with q | q <;> simp_all
    have ht : ¬ k = 3 → t = eS := fun h => by
      rcases fld.1.1.2 with q | q
      · exact absurd q h
      · cases t with
        | mk a => simp_all [eS]
    have hns : ¬ k = 5 → ns = [] := fun h => by
      rcases fld.2 with q | q
      · exact absurd q h
      · exact List.eq_nil_of_length_eq_zero (by omega)
    have his : ¬ (k = 4 ∨ k = 5) → is = [] := fun h => by
      rcases fld.1.2 with q | q
      · exact absurd q h
      · exact List.eq_nil_of_length_eq_zero (by omega)
    have hk : k = 0 ∨ k = 1 ∨ k = 2 ∨ k = 3 ∨ k = 4 ∨ k = 5 := by omega
    rcases hk with rfl | rfl | rfl | rfl | rfl | rfl
    · rw [hb (by decide), hn (by decide), ht (by decide), hns (by decide), his (by decide)]
      rw [show (Nd.mk 0 false 0 eS [] []).jb = kE by simp [Nd.jb], yy, show vA = ofL kE from rfl, xZ]
      rfl
    · rw [hn (by decide), ht (by decide), hns (by decide), his (by decide)]
      cases b with
      | true =>
        rw [show (Nd.mk 1 true 0 eS [] []).jb = w7 by simp [Nd.jb], yy, show vA = ofL (110 :: [117, 108, 108]) from rfl, show w7 ++ u = 116 :: ([114, 117, 101] ++ u) from rfl, yM _ _ (by decide)]
        rw [show (116 :: ([114, 117, 101] ++ u) : List UInt8) = w7 ++ u from rfl, show qo = ofL w7 from rfl, xZ]
        rfl
      | false =>
        rw [show (Nd.mk 1 false 0 eS [] []).jb = xm by simp [Nd.jb], yy, show vA = ofL (110 :: [117, 108, 108]) from rfl, show qo = ofL (116 :: [114, 117, 101]) from rfl, show xm ++ u = 102 :: ([97, 108, 115, 101] ++ u) from rfl, yM _ _ (by decide), yM _ _ (by decide)]
        rw [show (102 :: ([97, 108, 115, 101] ++ u) : List UInt8) = xm ++ u from rfl, show wO = ofL xm from rfl, xZ]
        rfl
    · rw [hb (by decide), ht (by decide), hns (by decide), his (by decide)]
      rw [show (Nd.mk 2 false n eS [] []).jb = itoa n by simp [Nd.jb]]
      have hN := zi4 n u i1 i2 hu
      obtain ⟨c, l, hc⟩ : ∃ c l, itoa n = c :: l := by
        have := (kj n i1 i2).1
        cases h : itoa n with
        | nil => rw [h] at this; simp at this
        | cons c l => exact ⟨c, l, rfl⟩
      have hnum := zex n c (by rw [hc]; simp)
      rw [hc, List.cons_append] at hN ⊢
      have ne : ∀ a : UInt8, xY a = false → c ≠ a := fun a ha e => by subst e; rw [ha] at hnum; cases hnum
      rw [zbM (ne _ rfl) (ne _ rfl) (ne _ rfl) (ne _ rfl) (ne _ rfl), zkx c _ (ne _ rfl), hN]
      rfl
    · rw [hb (by decide), hn (by decide), hns (by decide), his (by decide)]
      rw [show (Nd.mk 3 false 0 t [] []).jb = jQ t by simp [Nd.jb]]
      have hT := zcd t u
      have e : jQ t ++ u = 34 :: (yB t.data.toList ++ [34] ++ u) := by simp [jQ]
      rw [e] at hT ⊢
      rw [zbM (by decide) (by decide) (by decide) (by decide) (by decide), zi1, hT]
      rfl
    · rw [hb (by decide), hn (by decide), ht (by decide), hns (by decide)]
      have e : (Nd.mk 4 false 0 eS [] is).jb ++ u = 91 :: (Nd.jbs true is ++ 93 :: u) := by simp [Nd.jb]
      rw [e, yy, show vA = ofL (110 :: [117, 108, 108]) from rfl, show qo = ofL (116 :: [114, 117, 101]) from rfl, show wO = ofL (102 :: [97, 108, 115, 101]) from rfl, yM _ _ (by decide), yM _ _ (by decide), yM _ _ (by decide)]
      rw [show (⟨#[91]⟩ : ByteArray) = ofL [91] from rfl, show (91 :: (Nd.jbs true is ++ 93 :: u)) = [91] ++ (Nd.jbs true is ++ 93 :: u) from rfl, xZ]
      simp only [Bool.false_eq_true, if_false, if_true]
      have hj : ∀ x ∈ is, ∃ c l, x.jb = c :: l ∧ c ≠ 93 ∧ c ≠ 44 := fun x hx => zkh x _ (h8 x hx)
      have hl := zjn true is fun x hx => by obtain ⟨c, l, q, _⟩ := hj x hx; rw [q]; simp
      rw [zbz (yy d) is true [] [] u _ (by simp only [zx, List.length_append, List.length_cons]; omega) fun x hx => ⟨hj x hx, fun t' ht' => zam x d (h8 x hx) (i3 x hx) t' ht'⟩]
      simp
    · rw [hb (by decide), hn (by decide), ht (by decide)]
      have e : (Nd.mk 5 false 0 eS ns is).jb ++ u = 123 :: (Nd.jbm true ns is ++ 125 :: u) := by simp [Nd.jb]
      have hl5 := (h7 rfl).2
      rw [e, yy, show vA = ofL (110 :: [117, 108, 108]) from rfl, show qo = ofL (116 :: [114, 117, 101]) from rfl, show wO = ofL (102 :: [97, 108, 115, 101]) from rfl, show (⟨#[91]⟩ : ByteArray) = ofL (91 :: []) from rfl, yM _ _ (by decide), yM _ _ (by decide), yM _ _ (by decide), yM _ _ (by decide)]
      rw [show (⟨#[123]⟩ : ByteArray) = ofL [123] from rfl, show (123 :: (Nd.jbm true ns is ++ 125 :: u)) = [123] ++ (Nd.jbm true ns is ++ 125 :: u) from rfl, xZ]
      simp only [Bool.false_eq_true, if_false, if_true]
      have hl := zkt true ns is hl5
      rw [zdX (yy d) ns is true [] [] u _ hl5 (by simp only [zx, List.length_append, List.length_cons]; omega) fun x hx t' ht' => zam x d (h8 x hx) (i3 x hx) t' ht']
      simp
termination_by x => SizeOf.sizeOf x
decreasing_by
  all_goals
    have := List.sizeOf_lt_of_mem hx
    simp only [Nd.mk.sizeOf_spec]
    omega
end Go.AL
namespace Go.AL
open Go Go.RowKit
theorem wg {r : Rs} {t : ByteArray} (h : (r.skip t).1 = true) : r.bad = false ∧ (r.skip t).2.bad = false ∧ (r.skip t).2.s.size + t.size = r.s.size := by
  unfold Rs.skip at h ⊢
  split at h
  · rename_i hc
    rw [if_pos hc]
    simp only [Bool.and_eq_true, Bool.not_eq_true', zdQ, decide_eq_true_eq] at hc
    refine ⟨hc.2, rfl, ?_⟩
    have := hc.1.1
    simp only [ByteArray.size_extract]; omega
  · cases h
theorem zeD {r : Rs} {t : ByteArray} (h : ¬ (r.skip t).1 = true) : (r.skip t).2 = r := by
  unfold Rs.skip at h ⊢
  split
  · rename_i hc; rw [if_pos hc] at h; exact absurd rfl h
  · rfl
theorem qR (r : Rs) (t : ByteArray) : (r.skip t).2.s.size ≤ r.s.size := by
  by_cases h : (r.skip t).1 = true
  · have := (wg h).2.2; omega
  · rw [zeD h]; exact Nat.le_refl _
theorem qh {r : Rs} {t : ByteArray} (h : (r.expect t).bad = false) : r.bad = false ∧ (r.expect t).s.size + t.size = r.s.size := by
  unfold Rs.expect at h ⊢
  split at h
  · rename_i hc; rw [if_pos hc]; exact ⟨(wg hc).1, (wg hc).2.2⟩
  · cases h
theorem qY (r : Rs) (t : ByteArray) : (r.expect t).s.size ≤ r.s.size := by
  unfold Rs.expect
  split
  · exact qR r t
  · exact Nat.le_refl _
theorem zma (mx : Nat) : ∀ (l : List UInt8) (a n : Nat), a ≤ mx → pgo mx l a = .ok n → n ≤ mx
  | [], a, n, ha, h => by simp only [pgo] at h; cases h; exact ha
  | c :: l, a, n, ha, h => by
    simp only [pgo] at h
    split at h
    · cases h
    · split at h
      · cases h
      · exact zma mx l _ n (by omega) h
theorem zeL (t : ByteArray) : 0 ≤ (pu8 t).1 ∧ (pu8 t).1 < 256 := by
  unfold pu8
  split
  · simp
  · split
    · rename_i n h
      have := zma 255 _ 0 n (by omega) h
      simp only; omega
    · simp only; split <;> omega
theorem zgI (r : Rs) : 0 ≤ (qi r).1 ∧ (qi r).1 < 256 := by
  unfold qi
  split
  · exact zeL _
  · split
    · rename_i c _; have := c.toNat_lt; simp only; omega
    · simp
theorem zhE (r : Rs) : (qi r).2.s.size ≤ r.s.size := by
  have h1 := wW r
  have h2 := kQ r.byte.2 4
  unfold qi
  split
  · simp only
    split
    · exact Nat.le_trans h2 h1
    · exact Nat.le_trans h2 h1
  · split
    · exact h1
    · exact h1
theorem zdN {r : Rs} (h : (qi r).2.bad = false) : r.bad = false ∧ (qi r).2.s.size + 1 ≤ r.s.size := by
  have hb := wW r
  unfold qi at h ⊢
  split at h
  · rename_i h1
    rw [if_pos h1]
    simp only at h ⊢
    split at h
    · rename_i h2
      rw [if_pos h2]
      have q := xR h
      have q2 := xC q.1
      exact ⟨q2.1, by omega⟩
    · cases h
  · rename_i h1
    rw [if_neg h1]
    split at h
    · rename_i c hc
      have q2 := xC h
      exact ⟨q2.1, by simp only; omega⟩
    · cases h
theorem zct : ∀ (f : Nat) (out : List UInt8) (r : Rs), (wM f out r).2.s.size ≤ r.s.size
  | 0, out, r => Nat.le_refl _
  | f + 1, out, r => by
    have h1 := wW r
    have h2 := zhE r.byte.2
    rw [wM]
    split
    · exact Nat.le_refl _
    split
    · exact h1
    split
    · exact Nat.le_trans (zct f _ _) (Nat.le_trans h2 h1)
    · exact Nat.le_trans (zct f _ _) h1
theorem kY : ∀ (f : Nat) (out : List UInt8) (r : Rs), (wM f out r).2.bad = false → r.bad = false ∧ (wM f out r).2.s.size + (wM f out r).1.size ≤ r.s.size + out.length
  | 0, out, r, h => by
    have h : r.bad = false := h
    exact ⟨h, by show r.s.size + 0 ≤ _; omega⟩
  | f + 1, out, r, h => by
    rw [wM] at h ⊢
    split at h
    · rename_i h1; have h : r.bad = false := h; rw [h1] at h; cases h
    rename_i h1
    rw [if_neg h1]
    have hb : r.bad = false := by simpa using h1
    split at h
    · rename_i h2
      rw [if_pos h2]
      have := xC h
      exact ⟨hb, by simp only [zx]; omega⟩
    rename_i h2
    rw [if_neg h2]
    split at h
    · rename_i h3
      rw [if_pos h3]
      have ih := kY f _ _ h
      have q := zdN ih.1
      have q2 := xC q.1
      refine ⟨hb, ?_⟩
      have := ih.2
      simp only [List.length_append, List.length_singleton] at this; omega
    · rename_i h3
      rw [if_neg h3]
      have ih := kY f _ _ h
      have q2 := xC ih.1
      refine ⟨hb, ?_⟩
      have := ih.2
      simp only [List.length_append, List.length_singleton] at this; omega
theorem zbr (r : Rs) : (xf r).2.s.size ≤ r.s.size := Nat.le_trans (zct _ _ _) (qY _ _)
theorem zbT {r : Rs} (h : (xf r).2.bad = false) : r.bad = false ∧ (xf r).2.s.size + (xf r).1.size + 1 ≤ r.s.size := by
  have q := kY _ _ _ h
  have q2 := qh q.1
  refine ⟨q2.1, ?_⟩
  have h1 : qS.size = 1 := rfl
  have := q.2
  simp only [List.length_nil] at this
  show (wM _ _ _).2.s.size + (wM _ _ _).1.size + 1 ≤ _
  omega
theorem zlT (r : Rs) : (vE r).2.s.size ≤ r.s.size := by
  have := kQ r (zcA r.s)
  unfold vE
  split <;> exact this
theorem ziN {r : Rs} (h : (vE r).2.bad = false) : r.bad = false ∧ (vE r).2.s.size + 1 ≤ r.s.size ∧ -9223372036854775808 ≤ (vE r).1 ∧ (vE r).1 ≤ 9223372036854775807 := by
  unfold vE at h ⊢
  split at h
  · rename_i v hv
    have q := xR h
    have hb := Lib.atoiAll_bounds hv
    simp only
    refine ⟨q.1, ?_, hb.1, hb.2⟩
    rcases Nat.lt_or_ge 0 (zcA r.s) with h0 | h0
    · have := q.2.2.2.2
      simp only [Int.toNat_natCast] at this; omega
    · exfalso
      have e : (r.take (zcA r.s)).1 = eS := by
        have := q.2.2.2.1
        simp only [Int.toNat_natCast] at this
        have h2 : (r.take (zcA r.s)).1.size = 0 := by omega
        cases hh : (r.take (zcA r.s)).1 with
        | mk a =>
          rw [hh] at h2
          have h3 : a.size = 0 := by
            have h4 : (ByteArray.mk a).size = a.size := rfl
            have h5 := q.2.2.2.1
            omega
          have h6 : a = #[] := by simpa using h3
          rw [h6]; rfl
      rw [e] at hv
      cases hv
  · cases h
  · cases h
def zmX (f : Rs → Nd × Rs) : Prop := ∀ r, (f r).2.bad = false → r.bad = false ∧ (f r).1.jb.length + 21 * (f r).2.s.size ≤ 21 * r.s.size ∧ (f r).1.In
theorem zeR {first : Bool} {r : Rs} (h : (kD first r).bad = false) : r.bad = false ∧ (kD first r).s.size + (if first then 0 else 1) = r.s.size := by
  unfold kD at h ⊢
  cases first with
  | true => exact ⟨h, rfl⟩
  | false => exact qh h
theorem zjl (first : Bool) (r : Rs) : (kD first r).s.size ≤ r.s.size := by
  unfold kD
  split
  · exact Nat.le_refl _
  · exact qY _ _
theorem za6 (f : Rs → Nd × Rs) (hf : zmX f) (e : ByteArray) : ∀ (c : Nat) (first : Bool) (ns : List ByteArray) (is : List Nd) (r : Rs), (first = true → is = []) → (∀ x ∈ is, x.In) → (zX f 4 e c first ns is r).2.bad = false →
    ∃ is', (zX f 4 e c first ns is r).1 = .mk 4 false 0 eS ns is' ∧ r.bad = false ∧ (Nd.jbs true is').length + 21 * (zX f 4 e c first ns is r).2.s.size ≤ (Nd.jbs true is).length + 21 * r.s.size ∧ ∀ x ∈ is', x.In
  | 0, first, ns, is, r, h1, h2, h => ⟨is, rfl, h, Nat.le_refl _, h2⟩
  | c + 1, first, ns, is, r, h1, h2, h => by
    by_cases hb : r.bad = true
    · rw [zX, if_pos hb] at h
      have h : r.bad = false := h
      rw [hb] at h; cases h
    have hb' : r.bad = false := by simpa using hb
    by_cases hs : (r.skip e).1 = true
    · rw [zX, if_neg hb, if_pos hs] at h ⊢
      have := (wg hs).2.2
      exact ⟨is, rfl, hb', by simp only; omega, h2⟩
    rw [zX, if_neg hb, if_neg hs, if_neg (by decide)] at h ⊢
    have hin : ∀ x ∈ is ++ [(f (kD first r)).1], (f (kD first r)).1.In → x.In := fun x hx hi => by
      rcases List.mem_append.1 hx with q | q
      · exact h2 x q
      · rw [List.mem_singleton.1 q]; exact hi
    have key : ∀ (hfi : (f (kD first r)).1.In), _ := fun hfi => za6 f hf e c false ns (is ++ [(f (kD first r)).1]) (f (kD first r)).2 (fun h => by cases h) (fun x hx => hin x hx hfi) h
    have hbad : (f (kD first r)).2.bad = false := by
      have mono : ∀ (c : Nat) (first : Bool) (ns : List ByteArray) (is : List Nd) (r : Rs), (zX f 4 e c first ns is r).2.bad = false → r.bad = false := by
        intro c
        induction c with
        | zero => intro first ns is r h; exact h
        | succ c ih =>
          intro first ns is r h
          rw [zX] at h
          split at h
          · exact h
          · rename_i q; simpa using q
      exact mono _ _ _ _ _ h
    obtain ⟨q1, q2, q3⟩ := hf _ hbad
    obtain ⟨is', e1, e2, e3, e4⟩ := key q3
    have hsep := zeR q1
    refine ⟨is', e1, hb', ?_, e4⟩
    rw [zbk] at e3
    simp only [List.length_append, Bool.true_and] at e3
    have hcom : ((if is.isEmpty then [] else [44] : List UInt8)).length ≤ 21 * (if first then 0 else 1) := by
      cases first with
      | true => rw [h1 rfl]; simp
      | false => split <;> simp
    have := hsep.2
    omega
theorem za2 (f : Rs → Nd × Rs) (hf : zmX f) (e : ByteArray) : ∀ (c : Nat) (first : Bool) (ns : List ByteArray) (is : List Nd) (r : Rs), ns.length = is.length → (first = true → is = []) → (∀ x ∈ is, x.In) → (zX f 5 e c first ns is r).2.bad = false →
    ∃ ns' is', (zX f 5 e c first ns is r).1 = .mk 5 false 0 eS ns' is' ∧ r.bad = false ∧ (Nd.jbm true ns' is').length + 21 * (zX f 5 e c first ns is r).2.s.size ≤ (Nd.jbm true ns is).length + 21 * r.s.size ∧ ∀ x ∈ is', x.In
  | 0, first, ns, is, r, hl, h1, h2, h => ⟨ns, is, rfl, h, Nat.le_refl _, h2⟩
  | c + 1, first, ns, is, r, hl, h1, h2, h => by
    by_cases hb : r.bad = true
    · rw [zX, if_pos hb] at h
      have h : r.bad = false := h
      rw [hb] at h; cases h
    have hb' : r.bad = false := by simpa using hb
    by_cases hs : (r.skip e).1 = true
    · rw [zX, if_neg hb, if_pos hs] at h ⊢
      have := (wg hs).2.2
      exact ⟨ns, is, rfl, hb', by simp only; omega, h2⟩
    rw [zX, if_neg hb, if_neg hs, if_pos rfl] at h ⊢
    generalize hT : xf (kD first r) = T at *
    obtain ⟨s, q⟩ := T
    simp only at h ⊢
    generalize hF : f (q.expect ⟨#[58]⟩) = F at *
    obtain ⟨x, p⟩ := F
    simp only at h ⊢
    have mono : ∀ (c : Nat) (first : Bool) (ns : List ByteArray) (is : List Nd) (r : Rs), (zX f 5 e c first ns is r).2.bad = false → r.bad = false := by
      intro c
      induction c with
      | zero => intro first ns is r h; exact h
      | succ c ih =>
        intro first ns is r h
        rw [zX] at h
        split at h
        · exact h
        · rename_i q; simpa using q
    have hbad : p.bad = false := mono _ _ _ _ _ h
    have hf1 := hf (q.expect ⟨#[58]⟩)
    rw [hF] at hf1
    obtain ⟨q1, q2, q3⟩ := hf1 hbad
    have hcol := qh q1
    have htx := zbT (r := kD first r)
    rw [hT] at htx
    have htx := htx hcol.1
    have hsep := zeR htx.1
    obtain ⟨ns', is', e1, e2, e3, e4⟩ := za2 f hf e c false (ns ++ [s]) (is ++ [x]) p (by simp [hl]) (fun h => by cases h) (fun y hy => by
      rcases List.mem_append.1 hy with q | q
      · exact h2 y q
      · rw [List.mem_singleton.1 q]; exact q3) h
    refine ⟨ns', is', e1, hb', ?_, e4⟩
    rw [zbb true ns is s x hl] at e3
    simp only [List.length_append, List.length_cons, Bool.true_and] at e3
    have hcom : ((if is.isEmpty then [] else [44] : List UInt8)).length ≤ 21 * (if first then 0 else 1) := by
      cases first with
      | true => rw [h1 rfl]; simp
      | false => split <;> simp
    have hq := (zaH s).2
    have c58 : (⟨#[58]⟩ : ByteArray).size = 1 := rfl
    have h4 := hcol.2
    have h5 := htx.2
    have h6 := hsep.2
    simp only at q2 h5
    omega
theorem vd : ∀ d : Nat, zmX (yy d)
  | 0 => fun r h => by cases h
  | d + 1 => fun r h => by
    rw [yy] at h ⊢
    split at h
    · rename_i h1
      rw [if_pos h1]
      have q := wg h1
      have : vA.size = 4 := rfl
      refine ⟨q.1, ?_, .mk (by decide) (by decide) (by simp)⟩
      show Nd.zero.jb.length + _ ≤ _
      rw [show Nd.zero.jb = kE by simp [Nd.zero, Nd.jb]]
      simp only [kE, List.length_cons, List.length_nil]; omega
    rename_i h1
    rw [if_neg h1]
    split at h
    · rename_i h2
      rw [if_pos h2]
      have q := wg h2
      have : qo.size = 4 := rfl
      refine ⟨q.1, ?_, .mk (by decide) (by decide) (by simp)⟩
      simp only
      rw [show (Nd.mk 1 true 0 eS [] []).jb = w7 by simp [Nd.jb]]
      simp only [w7, List.length_cons, List.length_nil]; omega
    rename_i h2
    rw [if_neg h2]
    split at h
    · rename_i h3
      rw [if_pos h3]
      have q := wg h3
      have : wO.size = 5 := rfl
      refine ⟨q.1, ?_, .mk (by decide) (by decide) (by simp)⟩
      simp only
      rw [show (Nd.mk 1 false 0 eS [] []).jb = xm by simp [Nd.jb]]
      simp only [xm, List.length_cons, List.length_nil]; omega
    rename_i h3
    rw [if_neg h3]
    split at h
    · rename_i h4
      rw [if_pos h4]
      have q := wg h4
      have c1 : (⟨#[91]⟩ : ByteArray).size = 1 := rfl
      obtain ⟨is', e1, e2, e3, e4⟩ := za6 (yy d) (vd d) ⟨#[93]⟩ _ true [] [] _ (fun _ => rfl) (by simp) h
      refine ⟨q.1, ?_, ?_⟩
      · rw [e1, show (Nd.mk 4 false 0 eS [] is').jb = 91 :: (Nd.jbs true is' ++ [93]) by simp [Nd.jb]]
        simp only [Nd.jbs, List.length_nil] at e3
        simp only [List.length_cons, List.length_append, List.length_nil]; omega
      · rw [e1]; exact .mk (by decide) (by decide) e4
    rename_i h4
    rw [if_neg h4]
    split at h
    · rename_i h5
      rw [if_pos h5]
      have q := wg h5
      have c1 : (⟨#[123]⟩ : ByteArray).size = 1 := rfl
      obtain ⟨ns', is', e1, e2, e3, e4⟩ := za2 (yy d) (vd d) ⟨#[125]⟩ _ true [] [] _ rfl (fun _ => rfl) (by simp) h
      refine ⟨q.1, ?_, ?_⟩
      · rw [e1, show (Nd.mk 5 false 0 eS ns' is').jb = 123 :: (Nd.jbm true ns' is' ++ [125]) by simp [Nd.jb]]
        simp only [Nd.jbm, List.length_nil] at e3
        simp only [List.length_cons, List.length_append, List.length_nil]; omega
      · rw [e1]; exact .mk (by decide) (by decide) e4
    rename_i h5
    rw [if_neg h5]
    split at h
    · rename_i h6
      rw [if_pos h6]
      have q := zbT h
      have hq := (zaH (xf r).1).2
      refine ⟨q.1, ?_, .mk (by decide) (by decide) (by simp)⟩
      simp only
      rw [show (Nd.mk 3 false 0 (xf r).1 [] []).jb = jQ (xf r).1 by simp [Nd.jb]]
      have := q.2; omega
    · rename_i h6
      rw [if_neg h6]
      have q := ziN h
      have hq := (kj (vE r).1 q.2.2.1 q.2.2.2).2
      refine ⟨q.1, ?_, .mk q.2.2.1 q.2.2.2 (by simp)⟩
      simp only
      rw [show (Nd.mk 2 false (vE r).1 eS [] []).jb = Lib.itoa (vE r).1 by simp [Nd.jb]]
      have := q.2.1; omega
def jsC : Codec where
  E := Nd.jb
  R s := yy 8 ⟨s, false⟩
  back := fun {V x} hv hin => by
    have := zam x 8 hv hin [] (by simp [vV])
    rw [List.append_nil] at this
    exact this
  good := fun {s} h => (vd 8 ⟨s, false⟩ h).2.2
theorem zfU (V : ByteArray → Bool) (x : Nd) : zim V x = za0 jsC V x := rfl
theorem znP {V : ByteArray → Bool} (x : Nd) (h0 : -9223372036854775808 ≤ x.num) (h1 : x.num ≤ 9223372036854775807) : 1 ≤ x.jb.length := by
  cases x with
  | mk k b n t ns is =>
  simp only [Nd.num] at h0 h1
  unfold Nd.jb
  repeat' split
  all_goals first | (simp [kE, w7, xm, jQ]; done) | exact (kj n h0 h1).1
theorem zl8 {x : Nd} (h : x.In) : -9223372036854775808 ≤ x.num ∧ x.num ≤ 9223372036854775807 := by
  cases h with
  | mk a b c => exact ⟨a, b⟩
theorem zif (d : Nat) (r : Rs) (h : (yy d r).2.bad = false) : r.bad = false ∧ (yy d r).2.s.size + 1 ≤ r.s.size := by
  obtain ⟨h1, h2, h3⟩ := vd d r h
  have := znP (V := fun _ => true) (yy d r).1 (zl8 h3).1 (zl8 h3).2
  exact ⟨h1, by omega⟩
theorem jk (f : Rs → Nd × Rs) (k : Int) (e : ByteArray) (B : Nat) (hf : ∀ r : Rs, r.s.size ≤ B → (f r).2.s.size ≤ B ∧ (f r).1.Ok) : ∀ (c : Nat) (first : Bool) (ns : List ByteArray) (is : List Nd) (r : Rs), r.s.size ≤ B → ns.length + c ≤ 1000000000 → is.length + c ≤ 1000000000 → (∀ x ∈ is, x.Ok) → (zX f k e c first ns is r).2.s.size ≤ B ∧ (zX f k e c first ns is r).1.Ok
  | 0, first, ns, is, r, hr, h1, h2, h3 => ⟨hr, .mk (by omega) (by omega) h3⟩
  | c + 1, first, ns, is, r, hr, h1, h2, h3 => by
    unfold zX
    have key : ∀ (y : Nd), y.Ok → ∀ x ∈ is ++ [y], x.Ok := fun y hy x hx => by
      rcases List.mem_append.1 hx with h | h
      · exact h3 x h
      · rw [List.mem_singleton.1 h]; exact hy
    split
    · exact ⟨hr, .mk (by omega) (by omega) h3⟩
    split
    · exact ⟨Nat.le_trans (qR r e) hr, .mk (by omega) (by omega) h3⟩
    have hs := Nat.le_trans (zjl first r) hr
    split
    · have h := hf ((xf (kD first r)).2.expect ⟨#[58]⟩) (Nat.le_trans (qY _ _) (Nat.le_trans (zbr _) hs))
      exact jk f k e B hf c _ _ _ _ h.1 (by simp; omega) (by simp; omega) (key _ h.2)
    · have h := hf (kD first r) hs
      exact jk f k e B hf c _ _ _ _ h.1 (by omega) (by simp; omega) (key _ h.2)
theorem zbf (B : Nat) (hB : B ≤ 500000000) : ∀ (d : Nat) (r : Rs), r.s.size ≤ B → (yy d r).2.s.size ≤ B ∧ (yy d r).1.Ok
  | 0, r, hr => ⟨hr, xw⟩
  | d + 1, r, hr => by
    have hs := fun t => Nat.le_trans (qR r t) hr
    rw [yy]
    split
    · exact ⟨hs _, xw⟩
    split
    · exact ⟨hs _, .mk (by simp) (by simp) (by simp)⟩
    split
    · exact ⟨hs _, .mk (by simp) (by simp) (by simp)⟩
    split
    · have := hs ⟨#[91]⟩
      exact jk (yy d) 4 _ B (zbf B hB d) _ _ _ _ _ this (by simp; omega) (by simp; omega) (by simp)
    split
    · have := hs ⟨#[123]⟩
      exact jk (yy d) 5 _ B (zbf B hB d) _ _ _ _ _ this (by simp; omega) (by simp; omega) (by simp)
    split
    · exact ⟨Nat.le_trans (zbr r) hr, .mk (by simp) (by simp) (by simp)⟩
    · exact ⟨Nat.le_trans (zlT r) hr, .mk (by simp) (by simp) (by simp)⟩
end Go.AL
namespace Go.AL
open Go Go.Proofs Go.RowKit
structure EOk (oS oR : Obj) : Prop where
  s : qv oS = true
  r : qv oR = true
theorem zbm {ob : Obj} {h : Heap} {m : zQ} {w : World} {S : StL} {b : Nat} {id : Id} (he : qv ob = true) (hs : Sim h m (StL.get S) w) (hS : StL.get S id = some (.dat (.fix b ob))) : ∃ ev, w.cell? ⟨b, 0, none⟩ = some ev ∧ (ev = .nilIface ∨ ∃ te pe, ev = .iface te pe) := by
  obtain ⟨t, u, h1⟩ := zd9 he (zgf hs hS)
  exact ⟨_, h1, .inr ⟨t, u, rfl⟩⟩
theorem Spec.of_belowS {P : Program} {f : FuncId} {args : List AV} {r : AV} {S : StL} (H : ∀ h m (vs : Array Value) w, Sim h m (StL.get S) w → vs.size = args.length → RepAs h m (fun j => vs[j]?) 0 args → Calls P f vs w fun e w' => ∃ v, e = .returned v ∧ (∀ h' m', RepA h' m' v r) ∧ Below w.heap.size w w') : Spec P f args S r S where
  run h m vs w hs hv hr := (H h m vs w hs hv hr).mono fun e w' ⟨v, he, hv', hb⟩ => by
    have := zbo hs hb
    exact ⟨v, h, m, he, hv' h m, this.1, this.2⟩
theorem znI {vs : Array Value} {a b c d e : Value} (hn : vs.size = 5) (h0 : vs[0]? = some a) (h1 : vs[1]? = some b) (h2 : vs[2]? = some c) (h3 : vs[3]? = some d) (h4 : vs[4]? = some e) : vs = #[a, b, c, d, e] := by
  apply Array.ext_getElem?
  intro i
  match i with
  | 0 => simpa using h0
  | 1 => simpa using h1
  | 2 => simpa using h2
  | 3 => simpa using h3
  | 4 => simpa using h4
  | i + 5 => simp [hn]
theorem zgZ {oS oR : Obj} (G : EOk oS oR) (f s : ByteArray) (hs : s.size ≤ 281474976710656) (b c : Int) : Spec Tryz.prog 195 [.t (.str f), .t (.str s), .t (.int .i64 b), .t (.int .i64 c), .t (.ifi 269 .i64 2)] [(.par 103, .dat (.fix 3 oS)), (.par 104, .dat (.fix 4 oR))] (.t .iface) [(.par 103, .dat (.fix 3 oS)), (.par 104, .dat (.fix 4 oR))] :=
  Spec.of_belowS fun h m vs w hS hv hr => by
    simp only [RepAs, RepA, RepT, and_true] at hr
    obtain ⟨⟨u0, h0, rfl⟩, ⟨u1, h1, rfl⟩, ⟨u2, h2, rfl⟩, ⟨u3, h3, rfl⟩, u4, h4, rfl⟩ := hr
    obtain rfl := znI hv h0 h1 h2 h3 h4
    obtain ⟨ev, e1, e2⟩ := zbm G.s hS (id := .par 103) rfl
    exact (Any.strconv_toError_syntax { qU with } f s b c ev w hs e1 e2).mono fun e w' ⟨N, he, _, _, hb⟩ => ⟨_, he, fun h' m' => by simp [RepA, RepT], hb⟩
theorem zg4 {oS oR : Obj} (G : EOk oS oR) (f s : ByteArray) (hs : s.size ≤ 281474976710656) (b c : Int) : Spec Tryz.prog 195 [.t (.str f), .t (.str s), .t (.int .i64 b), .t (.int .i64 c), .t (.ifi 269 .i64 1)] [(.par 103, .dat (.fix 3 oS)), (.par 104, .dat (.fix 4 oR))] (.t .iface) [(.par 103, .dat (.fix 3 oS)), (.par 104, .dat (.fix 4 oR))] :=
  Spec.of_belowS fun h m vs w hS hv hr => by
    simp only [RepAs, RepA, RepT, and_true] at hr
    obtain ⟨⟨u0, h0, rfl⟩, ⟨u1, h1, rfl⟩, ⟨u2, h2, rfl⟩, ⟨u3, h3, rfl⟩, u4, h4, rfl⟩ := hr
    obtain rfl := znI hv h0 h1 h2 h3 h4
    obtain ⟨ev, e1, e2⟩ := zbm G.r hS (id := .par 104) rfl
    exact (Any.strconv_toError_range { qU with } f s b c ev w hs e1 e2).mono fun e w' ⟨N, he, _, _, hb⟩ => ⟨_, he, fun h' m' => by simp [RepA, RepT], hb⟩
def eT (ok : Bool) : T := if ok then .nili else .iface
def zgx (l : List UInt8) : Int × Bool :=
  match Lib.atoiAll l with
  | .ok v => (v, true)
  | .range => (Lib.atoiSat l, false)
  | _ => (0, false)
theorem zkX {oS oR : Obj} (G : EOk oS oR) (s : ByteArray) (hs : s.size ≤ 281474976710656) : Spec Tryz.prog 263 [.t (.str s)] [(.par 103, .dat (.fix 3 oS)), (.par 104, .dat (.fix 4 oR))] (.tup [.t (.int .i64 (zgx s.data.toList).1), .t (eT (zgx s.data.toList).2)]) [(.par 103, .dat (.fix 3 oS)), (.par 104, .dat (.fix 4 oR))] :=
  Spec.of_belowS fun h m vs w hS hv hr => by
    obtain rfl := zd4 hv hr (u := .string s) fun v hv => by simpa [RepT] using hv
    obtain ⟨ev, e1, e2⟩ := zbm G.s hS (id := .par 103) rfl
    obtain ⟨ev', e1', e2'⟩ := zbm G.r hS (id := .par 104) rfl
    unfold zgx
    cases hA : Lib.atoiAll s.data.toList with
    | ok v =>
      refine (Any.strconv_Atoi_ok qU s (by omega) v hA w).mono fun e w' ⟨he, hw⟩ => ⟨_, he, fun h' m' => by simp [RepA, RepAs, RepT, eT], ?_⟩
      rcases hw with rfl | ⟨t, rfl⟩
      · exact Below.refl _ _
      · exact Lib.bytesWorld_below _ _ _
    | range => exact (Any.strconv_Atoi_range qU s hs hA ev' w e1' e2').mono fun e w' ⟨N, he, _, _, hb⟩ => ⟨_, he, fun h' m' => by simp [RepA, RepAs, RepT, eT], hb⟩
    | _ => exact (Any.strconv_Atoi_syntax qU s hs hA ev w e1 e2).mono fun e w' ⟨N, he, _, _, hb⟩ => ⟨_, he, fun h' m' => by simp [RepA, RepAs, RepT, eT], hb⟩
def zkC (c : Int) : Int := IntKind.u8.wrap ((BitVec.ofInt IntKind.u8.bits c ||| BitVec.ofInt IntKind.u8.bits 32).toNat : Int)
set_option maxHeartbeats 1000000 in
theorem zi3 (c : Int) : Spec Tryz.prog 286 [.t (.int .u8 c)] [] (.t (.int .u8 (zkC c))) [] := by
  refine wI Tryz.func286 ?_
  repeat' (first | refine wC ?_ | refine wK ?_ | fail)
  exact zp (zo rfl rfl rfl) (by simp)
theorem ziA : ∀ c : Fin 256, zkC (c.val : Int) = ((znm c.val : Nat) : Int) := by decide +kernel
def zov (mx : Nat) (k : Int) : Int := if k = 2 then 0 else mx
def pAV (mx : Nat) : Except Int Nat → AV
  | .ok n => .tup [.t (.int .u64 (n : Int)), .t .nili]
  | .error k => .tup [.t (.int .u64 (zov mx k)), .t (.ifi 269 .i64 k)]
theorem zkY (mx : Nat) : zov mx 1 = mx := rfl
theorem zjc (mx : Nat) : zov mx 2 = 0 := rfl
instance : CmpT Tryz.prog 269 := .of (by kernel_rfl)
set_option maxHeartbeats 8000000 in
theorem zbO (s : ByteArray) (hs : s.size ≤ 1000000000) (h0 : s ≠ ⟨#[]⟩) (bits : Int) (mx : Nat) (hb : 1 ≤ bits ∧ bits ≤ 64) (hmx : mx ≤ 4294967295)
    (hm : IntKind.u64.wrap (IntKind.u64.wrap (1 * 2 ^ min bits.toNat IntKind.u64.bits) - 1) = (mx : Int)) :
    Spec Tryz.prog 257 [.t (.str s), .t (.int .i64 16), .t (.int .i64 bits)] [] (pAV mx (pgo mx s.data.toList 0)) [] := by
  have hw : IntKind.u64.wrap bits = bits := ye (by omega) (by omega)
  obtain ⟨R, hR⟩ : ∃ R, R = pgo mx s.data.toList 0 := ⟨_, rfl⟩
  rw [← hR]
  obtain ⟨X, hX⟩ : ∃ X, X = pAV mx R := ⟨_, rfl⟩
  rw [← hX]
  obtain ⟨L, hL⟩ : ∃ L, L = s.data.toList := ⟨_, rfl⟩
  have hLs : s.size = L.length := by rw [hL]; exact zm9 s
  rw [← hL] at hR
  refine wI Tryz.func257 ?_
  repeat' (first | refine wC ?_ | (exfalso; omega) | exact absurd ‹_› h0 | refine wK ?_ | ((with_reducible refine zM ?_); refine xi rfl rfl rfl rfl rfl rfl ?_ ?_) | ((with_reducible refine yJ ?_); refine zc0 rfl rfl rfl rfl rfl rfl ?_ ?_) | refine zd rfl ?_ ?_ <;> intro hc | refine zj rfl ?_ ?_ <;> intro hc)
  all_goals try omega
  rw [show yW s = L.map u8T from by rw [hL]; rfl, ← hL, hw, hm]
  refine zl (za [1, 8, 9, 10, 11, 12, 13, 99, 100, 101] [.loc 99] rfl rfl) ?_
  refine zz (fun p env st => ∃ (j n : Nat), j ≤ L.length ∧ p = L.length - j ∧ n ≤ mx ∧ pgo mx (L.drop j) n = R ∧
      env = EnvL.get [(1, .t (.int .i64 16)), (8, .t (.bool false)), (9, .t (.str s)), (10, .t (.int .u64 1152921504606846976)), (11, .t (.int .u64 (mx : Int))), (12, .t (.bool false)), (13, .t (.int .u64 (n : Int))), (99, .row (.loc 99)), (100, .t (.int .i64 (L.length : Int))), (101, .t (.int .i64 (j : Int)))] ∧ st = StO.get [(.loc 99, some (.slt 5 1 (L.map u8T)))])
    ?_ (n := L.length) ⟨0, 0, by omega, rfl, by omega, hR.symm, rfl, rfl⟩
  rintro p env st ⟨j, n, hj, rfl, hn, hG, rfl, rfl⟩
  by_cases hlt : j < L.length
  · rw [kc L j hlt, pgo] at hG
    obtain ⟨b, hbb⟩ : ∃ b, b = L.getD (j : Int).toNat default := ⟨_, rfl⟩
    rw [show L.getD j default = b from hbb.symm] at hG
    obtain ⟨c, hcc⟩ : ∃ c, c = b.toNat := ⟨_, rfl⟩
    have hc256 : c < 256 := by rw [hcc]; exact b.toNat_lt
    rw [← hcc] at hG
    have hCC : ((L.getD (j : Int).toNat default).toNat : Int) = (c : Int) := by rw [← hbb, hcc]
    have hlow := zi3 ((L.getD (j : Int).toNat default).toNat : Int)
    rw [show zkC ((L.getD (j : Int).toNat default).toNat : Int) = ((znm c : Nat) : Int) from by rw [hCC]; exact ziA ⟨c, hc256⟩] at hlow
    have hlw := znz c hc256
    unfold hv at hG
    generalize znm c = lw at *
    have hmul : IntKind.u64.wrap ((n : Int) * IntKind.u64.wrap 16) = ((16 * n : Nat) : Int) := by
      rw [show IntKind.u64.wrap 16 = 16 by decide, ye (by omega) (by omega)]; omega
    have w16 : IntKind.u8.wrap 16 = 16 := by decide
    have wj : IntKind.i64.wrap ((j : Int) + 1) = ((j + 1 : Nat) : Int) := by rw [zr (by omega) (by omega)]; omega
    by_cases hA : 48 ≤ c ∧ c ≤ 57
    · rw [if_pos hA] at hG
      simp only at hG
      obtain ⟨dd, hdd⟩ : ∃ dd, dd = c - 48 := ⟨_, rfl⟩
      rw [← hdd] at hG
      have e1 : IntKind.u8.wrap (((L.getD (j : Int).toNat default).toNat : Int) - 48) = (dd : Int) := by rw [hCC, xo (by omega) (by omega)]; omega
      have eN : IntKind.u64.wrap (IntKind.u64.wrap ((n : Int) * IntKind.u64.wrap 16) + IntKind.u64.wrap (IntKind.u8.wrap (((L.getD (j : Int).toNat default).toNat : Int) - 48))) = ((16 * n + dd : Nat) : Int) := by
        rw [hmul, e1, ye (n := (dd : Int)) (by omega) (by omega), ye (by omega) (by omega)]; omega
      by_cases hov : mx < 16 * n + dd
      · rw [if_pos hov] at hG
        repeat' (first | refine wC ?_ | (exfalso; omega) | refine wK ?_ | ((with_reducible refine zaY ?_); refine yS rfl rfl rfl rfl rfl rfl rfl rfl ?_ ?_) | ((with_reducible refine zA ?_); refine yf rfl rfl rfl rfl rfl rfl rfl ?_ ?_ ?_) | ((with_reducible refine xr ?_); refine zfC rfl rfl rfl rfl rfl ?_) | refine zd rfl ?_ ?_ <;> intro hc | refine zj rfl ?_ ?_ <;> intro hc)
        all_goals try omega
        all_goals try (simp only [List.length_map, Int.toNat_natCast]; omega)
        all_goals exact zp (by rw [hX, ← hG]; simp only [pAV, zkY, zjc]; exact zD rfl rfl rfl rfl rfl) (by simp)
      · rw [if_neg hov] at hG
        repeat' (first | refine wC ?_ | (exfalso; omega) | refine wK ?_ | ((with_reducible refine zaY ?_); refine yS rfl rfl rfl rfl rfl rfl rfl rfl ?_ ?_) | ((with_reducible refine zA ?_); refine yf rfl rfl rfl rfl rfl rfl rfl ?_ ?_ ?_) | refine zd rfl ?_ ?_ <;> intro hc | refine zj rfl ?_ ?_ <;> intro hc)
        all_goals try omega
        all_goals try (simp only [List.length_map, Int.toNat_natCast]; omega)
        all_goals exact zI (n' := L.length - (j + 1)) (by omega) (za [1, 8, 9, 10, 11, 12, 13, 99, 100, 101] [.loc 99] rfl rfl) ⟨j + 1, 16 * n + dd, by omega, rfl, by omega, hG, by rw [eN, wj]; rfl, rfl⟩
    · rw [if_neg hA] at hG
      by_cases hB : 97 ≤ lw ∧ lw ≤ 102
      · rw [if_pos hB] at hG
        simp only at hG
        obtain ⟨dd, hdd⟩ : ∃ dd, dd = lw - 87 := ⟨_, rfl⟩
        rw [← hdd] at hG
        have e1 : IntKind.u8.wrap (IntKind.u8.wrap ((lw : Int) - 97) + 10) = (dd : Int) := by rw [xo (n := (lw : Int) - 97) (by omega) (by omega), xo (by omega) (by omega)]; omega
        have eN : IntKind.u64.wrap (IntKind.u64.wrap ((n : Int) * IntKind.u64.wrap 16) + IntKind.u64.wrap (IntKind.u8.wrap (IntKind.u8.wrap ((lw : Int) - 97) + 10))) = ((16 * n + dd : Nat) : Int) := by
          rw [hmul, e1, ye (n := (dd : Int)) (by omega) (by omega), ye (by omega) (by omega)]; omega
        by_cases hov : mx < 16 * n + dd
        · rw [if_pos hov] at hG
          repeat' (first | refine wC ?_ | (exfalso; omega) | refine wK ?_ | ((with_reducible refine zaY ?_); refine yS rfl rfl rfl rfl rfl rfl rfl rfl ?_ ?_) | ((with_reducible refine zA ?_); refine yf rfl rfl rfl rfl rfl rfl rfl ?_ ?_ ?_) | ((with_reducible refine ze ?_); refine wL hlow ?_) | ((with_reducible refine xr ?_); refine zfC rfl rfl rfl rfl rfl ?_) | refine zd rfl ?_ ?_ <;> intro hc | refine zj rfl ?_ ?_ <;> intro hc)
          all_goals try omega
          all_goals try (simp only [List.length_map, Int.toNat_natCast]; omega)
          all_goals exact zp (by rw [hX, ← hG]; simp only [pAV, zkY, zjc]; exact zD rfl rfl rfl rfl rfl) (by simp)
        · rw [if_neg hov] at hG
          repeat' (first | refine wC ?_ | (exfalso; omega) | refine wK ?_ | ((with_reducible refine zaY ?_); refine yS rfl rfl rfl rfl rfl rfl rfl rfl ?_ ?_) | ((with_reducible refine zA ?_); refine yf rfl rfl rfl rfl rfl rfl rfl ?_ ?_ ?_) | ((with_reducible refine ze ?_); refine wL hlow ?_) | refine zd rfl ?_ ?_ <;> intro hc | refine zj rfl ?_ ?_ <;> intro hc)
          all_goals try omega
          all_goals try (simp only [List.length_map, Int.toNat_natCast]; omega)
          all_goals exact zI (n' := L.length - (j + 1)) (by omega) (za [1, 8, 9, 10, 11, 12, 13, 99, 100, 101] [.loc 99] rfl rfl) ⟨j + 1, 16 * n + dd, by omega, rfl, by omega, hG, by rw [eN, wj]; rfl, rfl⟩
      · rw [if_neg hB] at hG
        simp only at hG
        by_cases hC : 97 ≤ lw ∧ lw ≤ 122
        · have e1 : IntKind.u8.wrap (IntKind.u8.wrap ((lw : Int) - 97) + 10) = ((lw - 87 : Nat) : Int) := by rw [xo (n := (lw : Int) - 97) (by omega) (by omega), xo (by omega) (by omega)]; omega
          repeat' (first | refine wC ?_ | (exfalso; omega) | refine wK ?_ | ((with_reducible refine zaY ?_); refine yS rfl rfl rfl rfl rfl rfl rfl rfl ?_ ?_) | ((with_reducible refine zA ?_); refine yf rfl rfl rfl rfl rfl rfl rfl ?_ ?_ ?_) | ((with_reducible refine ze ?_); refine wL hlow ?_) | ((with_reducible refine xr ?_); refine zfC rfl rfl rfl rfl rfl ?_) | refine zd rfl ?_ ?_ <;> intro hc | refine zj rfl ?_ ?_ <;> intro hc)
          all_goals try omega
          all_goals try (simp only [List.length_map, Int.toNat_natCast]; omega)
          all_goals exact zp (by rw [hX, ← hG]; simp only [pAV, zkY, zjc]; exact zD rfl rfl rfl rfl rfl) (by simp)
        · repeat' (first | refine wC ?_ | (exfalso; omega) | refine wK ?_ | ((with_reducible refine zaY ?_); refine yS rfl rfl rfl rfl rfl rfl rfl rfl ?_ ?_) | ((with_reducible refine zA ?_); refine yf rfl rfl rfl rfl rfl rfl rfl ?_ ?_ ?_) | ((with_reducible refine ze ?_); refine wL hlow ?_) | ((with_reducible refine xr ?_); refine zfC rfl rfl rfl rfl rfl ?_) | refine zd rfl ?_ ?_ <;> intro hc | refine zj rfl ?_ ?_ <;> intro hc)
          all_goals try omega
          all_goals try (simp only [List.length_map, Int.toNat_natCast]; omega)
          all_goals exact zp (by rw [hX, ← hG]; simp only [pAV, zkY, zjc]; exact zD rfl rfl rfl rfl rfl) (by simp)
  · obtain rfl : j = L.length := by omega
    rw [List.drop_length, pgo] at hG
    repeat' (first | refine wC ?_ | (exfalso; omega) | refine wK ?_ | refine zd rfl ?_ ?_ <;> intro hc)
    all_goals try omega
    all_goals exact zp (by rw [hX, ← hG]; exact wh rfl (AVLE.refl _) (AVLE.refl _)) (by simp)
set_option maxHeartbeats 2000000 in
theorem zcK (bits : Int) : Spec Tryz.prog 257 [.t (.str eS), .t (.int .i64 16), .t (.int .i64 bits)] [] (.tup [.t (.int .u64 0), .t (.ifi 269 .i64 2)]) [] := by
  refine wI Tryz.func257 ?_
  repeat' (first | refine wC ?_ | refine wK ?_ | ((with_reducible refine xr ?_); refine zfC rfl rfl rfl rfl rfl ?_))
  all_goals exact zp (zD rfl rfl rfl rfl rfl) (by simp)
set_option maxHeartbeats 2000000 in
theorem zcB {oS oR : Obj} (G : EOk oS oR) (s : ByteArray) (hs : s.size ≤ 1000000000) :
    Spec Tryz.prog 212 [.t (.str s), .t (.int .i64 16), .t (.int .i64 8)] [(.par 103, .dat (.fix 3 oS)), (.par 104, .dat (.fix 4 oR))] (.tup [.t (.int .u64 (pu8 s).1), .t (eT (pu8 s).2)]) [(.par 103, .dat (.fix 3 oS)), (.par 104, .dat (.fix 4 oR))] := by
  unfold pu8
  have hE2 := zgZ G ⟨#[80, 97, 114, 115, 101, 85, 105, 110, 116]⟩ s (by omega) 16 8
  have hE1 := zg4 G ⟨#[80, 97, 114, 115, 101, 85, 105, 110, 116]⟩ s (by omega) 16 8
  by_cases h0 : s = eS
  · subst h0
    rw [if_pos rfl]
    have h := zcK 8
    refine wI Tryz.func212 ?_
    repeat' (first | refine wC ?_ | refine wK ?_ | ((with_reducible refine ze ?_); first | refine wL h ?_ | refine wN ((.t .iface)) [] hE2 ?_) | ((with_reducible refine zM ?_); refine xt rfl rfl rfl rfl rfl rfl ?_))
    exact zp (zD rfl rfl rfl rfl rfl) (zc ⟨rfl, rfl, trivial⟩)
  rw [if_neg h0]
  have h := zbO s hs h0 8 255 (by omega) (by omega) (by decide)
  have hk := zkb 255 s.data.toList 0
  generalize pgo 255 s.data.toList 0 = R at *
  cases R with
  | ok n =>
    simp only [pAV] at h
    refine wI Tryz.func212 ?_
    repeat' (first | refine wC ?_ | refine wK ?_ | ((with_reducible refine ze ?_); refine wL h ?_) | ((with_reducible refine zM ?_); refine xt rfl rfl rfl rfl rfl rfl ?_))
    exact zp (zD rfl rfl rfl rfl rfl) (zc ⟨rfl, rfl, trivial⟩)
  | error k =>
    simp only [pAV] at h
    rcases hk k rfl with rfl | rfl
    · rw [zkY] at h
      refine wI Tryz.func212 ?_
      repeat' (first | refine wC ?_ | refine wK ?_ | ((with_reducible refine ze ?_); first | refine wL h ?_ | refine wN ((.t .iface)) [] hE1 ?_) | ((with_reducible refine zM ?_); refine xt rfl rfl rfl rfl rfl rfl ?_))
      exact zp (zD rfl rfl rfl rfl rfl) (zc ⟨rfl, rfl, trivial⟩)
    · rw [zjc] at h
      refine wI Tryz.func212 ?_
      repeat' (first | refine wC ?_ | refine wK ?_ | ((with_reducible refine ze ?_); first | refine wL h ?_ | refine wN ((.t .iface)) [] hE2 ?_) | ((with_reducible refine zM ?_); refine xt rfl rfl rfl rfl rfl rfl ?_))
      exact zp (zD rfl rfl rfl rfl rfl) (zc ⟨rfl, rfl, trivial⟩)
set_option maxHeartbeats 2000000 in
theorem jv (n : Nat) (hn : n < 18446744073709551616) (k : Nat) (hk1 : 1 ≤ k) (hk : k ≤ 8) : Spec Tryz.prog 250 [.t (.int .u64 (n : Int)), .t (.int .i64 (k : Int))] [] (.t (.str (ofL (yr k n)))) [] := by
  refine wI Tryz.func250 ?_
  repeat' (first | refine wC ?_ | refine wK ?_ | fail)
  refine zl (kz 5 (.loc 900) 5 1 rfl rfl rfl) ?_
  refine zl (za [0, 5, 6] [.loc 900] rfl rfl) ?_
  refine zz (fun p env st => ∃ (c : Nat) (xs : List T), c ≤ 8 ∧ p = c ∧ xs.length + c = k ∧ xs ++ u8L (yr c n) = u8L (yr k n) ∧
      env = EnvL.get [(0, .t (.int .u64 (n : Int))), (5, .row (.loc 900)), (6, .t (.int .i64 ((c : Int) - 1)))] ∧ st = StO.get [(.loc 900, some (.slt 5 1 xs))])
    ?_ (n := k) ⟨k, [], hk, rfl, by simp, by simp, ?_, rfl⟩
  rotate_left
  · rw [zr (by omega) (by omega)]; rfl
  rintro p env st ⟨c, xs, hc8, rfl, hlen, hi, rfl, rfl⟩
  repeat' (first | refine wC ?_ | refine wK ?_ | ((with_reducible refine zM ?_); refine je rfl rfl rfl rfl rfl rfl ?_ ?_) | ((with_reducible refine yJ ?_); refine z6 rfl rfl rfl rfl rfl rfl ?_ ?_) | ((with_reducible refine zw ?_); refine zh rfl rfl rfl rfl rfl rfl rfl rfl rfl rfl ?_ ?_ ?_) | refine zd rfl ?_ ?_ <;> intro hc)
  · rw [zr (by omega) (by omega), ye (by omega) (by omega)]; omega
  · simp; omega
  · simp; omega
  · obtain ⟨c, rfl⟩ : ∃ c, p = c + 1 := ⟨p - 1, by omega⟩
    refine zI (n' := c) (by omega) ((za [0, 5, 6] [.loc 21] rfl rfl).trans (zg (.loc 21) (.loc 900) rfl rfl rfl rfl)) ⟨c, _, by omega, rfl, ?_, ?_, ?_, rfl⟩
    · simp; omega
    · rw [← hi, List.append_assoc]
      congr 1
      have e : (min (IntKind.u64.wrap (IntKind.i64.wrap (8 * ((c + 1 : Nat) - 1 : Int)))).toNat IntKind.u64.bits) = 8 * c := by
        rw [zr (by omega) (by omega), ye (by omega) (by omega)]
        have : IntKind.u64.bits = 64 := rfl
        omega
      rw [e, zes]
      rfl
    · rw [zr (by omega) (by omega)]
      rw [show ((c + 1 : Nat) : Int) - 1 - 1 = (c : Int) - 1 by omega]
      rfl
  · obtain rfl : p = 0 := by omega
    simp only [yr, u8L, List.map_nil, List.append_nil] at hi
    rw [hi]
    exact vt _
  · obtain rfl : p = 0 := by omega
    simp only [yr, u8L, List.map_nil, List.append_nil] at hi
    subst hi
    exact zp (zo rfl rfl (congrArg T.str (xU _))) (by simp)
theorem zhu (x : Int) : znU [T.int .u8 x] := by
  intro e he
  simp only [List.mem_singleton] at he
  subst he; rfl
theorem zog {m b : Nat} (hm : m ≤ 7) (hb : b < 32) : zbi [T.int .u8 (IntKind.u8.wrap ((BitVec.ofInt IntKind.u8.bits (IntKind.u8.wrap (IntKind.i64.wrap ((m : Int) * 2 ^ min (Int.toNat 5) IntKind.i64.bits))) ||| BitVec.ofInt IntKind.u8.bits (b : Int)).toNat : Int))] = ofL [UInt8.ofNat (32 * m + b)] := by
  rw [zbg hm hb]
  exact xU [UInt8.ofNat (32 * m + b)]
theorem z7 (a b : List UInt8) : ofL a ++ ofL b = ofL (a ++ b) := by
  have h : (ofL a ++ ofL b).data.toList = (ofL (a ++ b)).data.toList := by
    rw [ByteArray.data_append, Array.toList_append, yV, yV, yV]
  have := congrArg ofL h
  rwa [vI, vI] at this
set_option maxHeartbeats 4000000 in
theorem vQ (m : Nat) (hm : m ≤ 7) (n : Nat) (hn : n < 18446744073709551616) : Spec Tryz.prog 173 [.t (.int .i64 (m : Int)), .t (.int .u64 (n : Int))] [] (.t (.str (ofL (hdL m n)))) [] := by
  have b1 : Spec Tryz.prog 250 [.t (.int .u64 (n : Int)), .t (.int .i64 1)] [] (.t (.str (ofL (yr 1 n)))) [] := jv n hn 1 (by omega) (by omega)
  have b2 : Spec Tryz.prog 250 [.t (.int .u64 (n : Int)), .t (.int .i64 2)] [] (.t (.str (ofL (yr 2 n)))) [] := jv n hn 2 (by omega) (by omega)
  have b4 : Spec Tryz.prog 250 [.t (.int .u64 (n : Int)), .t (.int .i64 4)] [] (.t (.str (ofL (yr 4 n)))) [] := jv n hn 4 (by omega) (by omega)
  have b8 : Spec Tryz.prog 250 [.t (.int .u64 (n : Int)), .t (.int .i64 8)] [] (.t (.str (ofL (yr 8 n)))) [] := jv n hn 8 (by omega) (by omega)
  obtain ⟨B1, e1⟩ : ∃ B, B = ofL (yr 1 n) := ⟨_, rfl⟩
  obtain ⟨B2, e2⟩ : ∃ B, B = ofL (yr 2 n) := ⟨_, rfl⟩
  obtain ⟨B4, e4⟩ : ∃ B, B = ofL (yr 4 n) := ⟨_, rfl⟩
  obtain ⟨B8, e8⟩ : ∃ B, B = ofL (yr 8 n) := ⟨_, rfl⟩
  obtain ⟨R, eR⟩ : ∃ B, B = ofL (hdL m n) := ⟨_, rfl⟩
  rw [← e1] at b1
  rw [← e2] at b2
  rw [← e4] at b4
  rw [← e8] at b8
  rw [← eR]
  have o24 := zog hm (b := 24) (by omega)
  rw [show ((24 : Nat) : Int) = 24 from rfl] at o24
  have o25 := zog hm (b := 25) (by omega)
  rw [show ((25 : Nat) : Int) = 25 from rfl] at o25
  have o26 := zog hm (b := 26) (by omega)
  rw [show ((26 : Nat) : Int) = 26 from rfl] at o26
  have o27 := zog hm (b := 27) (by omega)
  rw [show ((27 : Nat) : Int) = 27 from rfl] at o27
  obtain ⟨N, hN⟩ : ∃ N : Int, N = (n : Int) := ⟨_, rfl⟩
  rw [← hN] at b1 b2 b4 b8 ⊢
  refine wI Tryz.func173 ?_
  repeat' (first | refine wC ?_ | refine wK ?_ | ((with_reducible refine zM ?_); refine yj rfl rfl rfl rfl rfl rfl ?_ ?_) | ((with_reducible refine yJ ?_); refine z6 rfl rfl rfl rfl rfl rfl ?_ ?_) | ((with_reducible refine ze ?_); first | refine wL b1 ?_ | refine wL b2 ?_ | refine wL b4 ?_ | refine wL b8 ?_) | refine zd rfl ?_ ?_ <;> intro hc)
  all_goals try exact zhu _
  · refine zp (zo rfl rfl (congrArg T.str ?_)) (by simp)
    have hw : IntKind.u8.wrap N = N := xo (by omega) (by omega)
    have oN := zog hm (b := n) (by omega)
    rw [← hN] at oN
    rw [hw, oN, eR, zeV (by omega)]
  · rw [o24, e1, zx, zx, zO]; simp
  · refine zp (zo rfl rfl (congrArg T.str ?_)) (by simp)
    rw [o24, e1, z7, eR]
    unfold hdL
    rw [if_neg (by omega), if_pos (by omega)]; rfl
  · rw [o25, e2, zx, zx, zO]; simp
  · refine zp (zo rfl rfl (congrArg T.str ?_)) (by simp)
    rw [o25, e2, z7, eR]
    unfold hdL
    rw [if_neg (by omega), if_neg (by omega), if_pos (by omega)]; rfl
  · rw [o26, e4, zx, zx, zO]; simp
  · refine zp (zo rfl rfl (congrArg T.str ?_)) (by simp)
    rw [o26, e4, z7, eR]
    unfold hdL
    rw [if_neg (by omega), if_neg (by omega), if_neg (by omega), if_pos (by omega)]; rfl
  · rw [o27, e8, zx, zx, zO]; simp
  · refine zp (zo rfl rfl (congrArg T.str ?_)) (by simp)
    rw [o27, e8, z7, eR]
    unfold hdL
    rw [if_neg (by omega), if_neg (by omega), if_neg (by omega), if_neg (by omega)]; rfl
end Go.AL
