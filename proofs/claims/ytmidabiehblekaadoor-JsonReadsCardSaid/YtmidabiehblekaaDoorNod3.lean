/- What the document's reader of the third serialisation takes, and that both readers take the same; no program in sight. -/
import Derived.Test.YtmidabiehblekaaDoorNod1
import Derived.Test.YtmidabiehblekaaDoorNod2
set_option linter.unusedVariables false
namespace Go.AL
open Go Go.RowKit

def PGood (s : ByteArray) (p : Nat) (r : Nd × Int) : Prop := r.1.Ok ∧ -1 ≤ r.2 ∧ (r.2 ≠ -1 → (p : Int) < r.2 ∧ r.2 ≤ s.size ∧ (r.1.pb.length : Int) + p ≤ r.2 ∧ r.1.In)
theorem PGood.fail (s : ByteArray) (p : Nat) : PGood s p (Nd.zero, -1) := ⟨zero_ok, by decide, fun h => absurd rfl h⟩
theorem numb_ok (n : Int) : (qNumb n).Ok := .mk (by simp) (by simp) (by simp)
theorem numb_in {n : Int} (h0 : -9223372036854775808 ≤ n) (h1 : n ≤ 9223372036854775807) : (qNumb n).In := .mk h0 h1 (by simp)
def qDec (V : ByteArray → Bool) (s : ByteArray) : Nd × Int :=
  if 65536 < s.size then (Nd.zero, 4)
  else if (qVal s (s.size + 1) 8 0).2 = s.size ∧ (qVal s (s.size + 1) 8 0).1.validB V 8 = true ∧ ofL (qVal s (s.size + 1) 8 0).1.pb = s then ((qVal s (s.size + 1) 8 0).1, 0) else (Nd.zero, 4)
end Go.AL
/- The document's reader of the first serialisation as plain functions, and that it reads what was written; no program in sight. -/
set_option linter.unusedVariables false
namespace Go.AL
open Go Go.RowKit

def jHas (s : ByteArray) (p : Nat) (t : ByteArray) : Bool := decide ((t.size : Int) ≤ (s.size : Int) - p) && decide (s.extract p (p + t.size) = t)
def isDig (b : UInt8) : Bool := decide (48 ≤ b.toNat) && decide (b.toNat ≤ 57)
def dVal : List UInt8 → Nat → Nat
  | [], u => u
  | c :: l, u => dVal l (10 * u + (c.toNat - 48))
def digs (s : ByteArray) (q : Nat) : List UInt8 := (s.data.toList.drop q).takeWhile isDig
def sgnP (s : ByteArray) (p : Nat) : Nat := if bAt s (p : Nat) = 45 then p + 1 else p
def jqNumb (s : ByteArray) (p : Nat) : Nd × Int :=
  if 19 < (digs s (sgnP s p)).length ∨ (digs s (sgnP s p)).length = 0 then (Nd.zero, -1)
  else if (bAt s (p : Nat) ≠ 45 ∧ 9223372036854775807 < dVal (digs s (sgnP s p)) 0) ∨ 9223372036854775808 < dVal (digs s (sgnP s p)) 0 then (Nd.zero, -1)
  else (qNumb (if bAt s (p : Nat) = 45 then -(dVal (digs s (sgnP s p)) 0 : Int) else dVal (digs s (sgnP s p)) 0), ((sgnP s p + (digs s (sgnP s p)).length : Nat) : Int))
def letD (c : Int) : Int := if c = 98 then 8 else if c = 116 then 9 else if c = 110 then 10 else if c = 102 then 12 else if c = 114 then 13 else -1
def hexD (c : Int) : Int := if 48 ≤ c ∧ c ≤ 57 then c - 48 else if 97 ≤ c ∧ c ≤ 102 then c - 87 else -1
def uS : ByteArray := ⟨#[117, 48, 48]⟩
def jqQuo (s : ByteArray) : Nat → List UInt8 → Nat → ByteArray × Int
  | 0, out, p => (eS, -1)
  | f + 1, out, p =>
    if s.size ≤ p then (eS, -1)
    else if bAt s (p : Nat) = 34 then (ofL out, (p : Int) + 1)
    else if bAt s (p : Nat) ≠ 92 then jqQuo s f (out ++ [UInt8.ofNat (bAt s (p : Nat)).toNat]) (p + 1)
    else if jHas s (p + 1) uS = true ∧ p + 5 < s.size then
      (if hexD (bAt s ((p + 4 : Nat) : Int)) < 0 ∨ hexD (bAt s ((p + 5 : Nat) : Int)) < 0 then (eS, -1)
       else jqQuo s f (out ++ [UInt8.ofNat (16 * hexD (bAt s ((p + 4 : Nat) : Int)) + hexD (bAt s ((p + 5 : Nat) : Int))).toNat]) (p + 6))
    else if p + 1 < s.size ∧ (bAt s ((p + 1 : Nat) : Int) = 34 ∨ bAt s ((p + 1 : Nat) : Int) = 92) then jqQuo s f (out ++ [UInt8.ofNat (bAt s ((p + 1 : Nat) : Int)).toNat]) (p + 2)
    else if p + 1 < s.size ∧ 0 ≤ letD (bAt s ((p + 1 : Nat) : Int)) then jqQuo s f (out ++ [UInt8.ofNat (letD (bAt s ((p + 1 : Nat) : Int))).toNat]) (p + 2)
    else (eS, -1)
def jqQuoted (s : ByteArray) (p : Nat) : ByteArray × Int := jqQuo s (s.size + 1) [] (p + 1)
/-- An item of a list or a map, and what follows it. -/
def jqItem (val : Nat → Nd × Int) (s : ByteArray) (k e : Int) (go : List Nd → Nat → Nd × Int) (ns : List ByteArray) (is : List Nd) (p : Nat) : Nd × Int :=
  if (val p).2 < 0 ∨ (s.size : Int) ≤ (val p).2 then (Nd.zero, -1)
  else if bAt s (val p).2 = e then (.mk k false 0 eS ns (is ++ [(val p).1]), (val p).2 + 1)
  else if bAt s (val p).2 ≠ 44 ∨ 256 < (is.length : Int) + 1 then (Nd.zero, -1)
  else go (is ++ [(val p).1]) ((val p).2.toNat + 1)
def jqList (val : Nat → Nd × Int) (s : ByteArray) (k e : Int) : Nat → List ByteArray → List Nd → Nat → Nd × Int
  | 0, ns, is, p => (Nd.zero, -1)
  | c + 1, ns, is, p =>
    if p < s.size ∧ bAt s (p : Nat) = e ∧ is.length = 0 then (.mk k false 0 eS ns is, (p : Int) + 1)
    else if k = 5 then
      (if s.size ≤ p ∨ bAt s (p : Nat) ≠ 34 then (Nd.zero, -1)
       else if (jqQuoted s p).2 < 0 ∨ (s.size : Int) ≤ (jqQuoted s p).2 ∨ bAt s (jqQuoted s p).2 ≠ 58 then (Nd.zero, -1)
       else jqItem val s k e (jqList val s k e c (ns ++ [(jqQuoted s p).1])) (ns ++ [(jqQuoted s p).1]) is ((jqQuoted s p).2.toNat + 1))
    else jqItem val s k e (jqList val s k e c ns) ns is p
def jqVal (s : ByteArray) : Nat → Nat → Nd × Int
  | 0, p => (Nd.zero, -1)
  | d + 1, p =>
    if s.size ≤ p then (Nd.zero, -1)
    else if jHas s p nullS = true then (Nd.zero, (p : Int) + 4)
    else if jHas s p trueS = true then (.mk 1 true 0 eS [] [], (p : Int) + 4)
    else if jHas s p falseS = true then (.mk 1 false 0 eS [] [], (p : Int) + 5)
    else if bAt s (p : Nat) = 34 then (.mk 3 false 0 (jqQuoted s p).1 [] [], (jqQuoted s p).2)
    else if bAt s (p : Nat) = 91 then jqList (jqVal s d) s 4 93 258 [] [] (p + 1)
    else if bAt s (p : Nat) = 123 then jqList (jqVal s d) s 5 125 258 [] [] (p + 1)
    else jqNumb s p

/-! ### it reads what was written -/
theorem jHas_back (a t b : List UInt8) : jHas (ofL (a ++ (t ++ b))) a.length (ofL t) = true := by
  unfold jHas
  simp only [ofL_size, ofL_extract, List.length_append, Bool.and_eq_true, decide_eq_true_eq]
  refine ⟨by omega, ?_⟩
  rw [List.drop_left]
  rw [show a.length + t.length - a.length = t.length by omega, List.take_left]
theorem jHas_not {s : ByteArray} {p : Nat} {d : UInt8} {t : List UInt8} (h : bAt s (p : Nat) ≠ (d.toNat : Int)) : jHas s p (ofL (d :: t)) = false := by
  unfold jHas
  simp only [Bool.and_eq_false_iff, decide_eq_false_iff_not]
  by_cases h1 : (((ofL (d :: t)).size : Int) ≤ (s.size : Int) - p)
  · right
    intro h2
    apply h
    have h3 : bAt (s.extract p (p + (ofL (d :: t)).size)) 0 = bAt (ofL (d :: t)) 0 := by rw [h2]
    have h4 : bAt (ofL (d :: t)) 0 = (d.toNat : Int) := rfl
    rw [h4] at h3
    rw [← h3]
    have hz : (ofL (d :: t)).size = t.length + 1 := by rw [ofL_size]; rfl
    have hs : s.data.toList.length = s.size := by rw [Array.length_toList]; rfl
    have e : s.extract p (p + (ofL (d :: t)).size) = ofL ((s.data.toList.drop p).take (t.length + 1)) := by
      have : s = ofL s.data.toList := by simp [ofL]
      conv => lhs; rw [this]
      rw [ofL_extract, hz]
      congr 2
      omega
    rw [e]
    unfold bAt
    show ((s.data.toList.getD p default).toNat : Int) = ((((s.data.toList.drop p).take (t.length + 1)).getD 0 default).toNat : Int)
    congr 2
    simp only [List.getD_eq_getElem?_getD]
    rw [List.getElem?_take_of_lt (by omega), List.getElem?_drop, Nat.add_zero]
  · left; exact h1
theorem bAt_at (a : List UInt8) (x : UInt8) (b : List UInt8) (n : Nat) (h : n = a.length) : bAt (ofL (a ++ x :: b)) (n : Nat) = (x.toNat : Int) := by
  subst h; exact bAt_mid a x b
theorem letD_esc (l c : UInt8) (h : escO c = some l) : l.toNat ≠ 117 ∧ ((l = 34 ∨ l = 92) ∧ l = c ∨ ¬ (l = 34 ∨ l = 92) ∧ letD (l.toNat : Int) = (c.toNat : Int)) := by
  have key : ∀ x ∈ escL, x.2.toNat ≠ 117 ∧ ((x.2 = 34 ∨ x.2 = 92) ∧ x.2 = x.1 ∨ ¬ (x.2 = 34 ∨ x.2 = 92) ∧ letD (x.2.toNat : Int) = (x.1.toNat : Int)) := by decide
  have hm : ∀ (L : List (UInt8 × UInt8)), L.lookup c = some l → (c, l) ∈ L := by
    intro L
    induction L with
    | nil => simp
    | cons x L ih =>
      obtain ⟨a, b⟩ := x
      intro h
      simp only [List.lookup] at h
      split at h
      · rename_i he
        have : c = a := by simpa using he
        cases h; subst this; simp
      · exact List.mem_cons_of_mem _ (ih h)
  exact key _ (hm _ h)
theorem hexD_hexB (n : Nat) (h : n < 16) : hexD ((hexB n).toNat : Int) = (n : Int) := by
  have key : ∀ n : Fin 16, hexD ((hexB n.val).toNat : Int) = (n.val : Int) := by decide
  exact key ⟨n, h⟩
theorem toNat_eq {c d : UInt8} : ((c.toNat : Int) = (d.toNat : Int)) ↔ c = d := by
  constructor
  · intro h; exact UInt8.toNat_inj.1 (by omega)
  · rintro rfl; rfl
theorem jqQuo_back (s : ByteArray) : ∀ (l : List UInt8) (f : Nat) (out a b : List UInt8), l.length + 1 ≤ f → s = ofL (a ++ (jEscs l ++ 34 :: b)) → jqQuo s f out a.length = (ofL (out ++ l), ((a ++ jEscs l).length : Int) + 1)
  | [], f, out, a, b, hf, hs => by
    obtain ⟨f, rfl⟩ : ∃ g, f = g + 1 := ⟨f - 1, by simp at hf; omega⟩
    have hz : s.size = a.length + (b.length + 1) := by rw [hs, ofL_size]; simp [jEscs]
    have hb : bAt s (a.length : Nat) = 34 := by rw [hs]; exact bAt_mid a 34 b
    rw [jqQuo, if_neg (by omega), if_pos hb]
    simp [jEscs]
  | c :: l, f, out, a, b, hf, hs => by
    obtain ⟨f, rfl⟩ : ∃ g, f = g + 1 := ⟨f - 1, by simp at hf; omega⟩
    have hf' : l.length + 1 ≤ f := by simp at hf; omega
    have ih := fun (m : Nat) (w : List UInt8) (hw : jEsc c = w) (hm : m = (a ++ w).length) => show jqQuo s f (out ++ [c]) m = (ofL (out ++ c :: l), ((a ++ jEscs (c :: l)).length : Int) + 1) by
      have := jqQuo_back s l f (out ++ [c]) (a ++ w) b hf' (by rw [hs, ← hw]; simp [jEscs])
      rw [hm, this, ← hw]
      simp [jEscs]
    have hz : s.size = a.length + ((jEsc c).length + ((jEscs l).length + (b.length + 1))) := by rw [hs, ofL_size]; simp [jEscs]
    have hs2 : s = ofL (a ++ (jEsc c ++ (jEscs l ++ 34 :: b))) := by rw [hs]; simp [jEscs]
    cases hO : escO c with
    | some x =>
      have hE : jEsc c = [92, x] := by unfold jEsc; rw [hO]
      rw [hE] at hz hs2
      simp only [List.length_cons, List.length_nil] at hz
      have b0 : bAt s (a.length : Nat) = 92 := by rw [hs2]; exact bAt_mid a 92 _
      have b1 : bAt s ((a.length + 1 : Nat) : Int) = (x.toNat : Int) := by
        rw [hs2, show a ++ ([92, x] ++ (jEscs l ++ 34 :: b)) = (a ++ [92]) ++ x :: (jEscs l ++ 34 :: b) by simp]
        exact bAt_at _ x _ _ (by simp)
      obtain ⟨h117, hx⟩ := letD_esc x c hO
      have hn : jHas s (a.length + 1) uS = false := jHas_not (d := 117) (t := [48, 48]) (by rw [b1]; intro h; exact h117 (by have : (x.toNat : Int) = 117 := h; omega))
      rw [jqQuo, if_neg (by omega), if_neg (by rw [b0]; decide), if_neg (by rw [b0]; decide), if_neg (by rw [hn]; simp)]
      rcases hx with ⟨h1, h2⟩ | ⟨h1, h2⟩
      · rw [if_pos ⟨by omega, by rw [b1]; rcases h1 with rfl | rfl <;> decide⟩, b1, h2]
        rw [show UInt8.ofNat ((c.toNat : Int)).toNat = c by simp]
        exact ih _ _ hE (by simp)
      · have hn2 : ¬ (bAt s ((a.length + 1 : Nat) : Int) = 34 ∨ bAt s ((a.length + 1 : Nat) : Int) = 92) := by
          rw [b1]
          rintro (h | h)
          · exact h1 (.inl (toNat_eq.1 h))
          · exact h1 (.inr (toNat_eq.1 h))
        rw [if_neg (fun h => hn2 h.2), b1, h2, if_pos ⟨by omega, by omega⟩]
        rw [show UInt8.ofNat ((c.toNat : Int)).toNat = c by simp]
        exact ih _ _ hE (by simp)
    | none =>
      by_cases h32 : c.toNat < 32
      · have hE : jEsc c = [92, 117, 48, 48, hexB (c.toNat / 16), hexB (c.toNat % 16)] := by unfold jEsc; rw [hO]; simp only; rw [if_pos h32]
        rw [hE] at hz hs2
        simp only [List.length_cons, List.length_nil] at hz
        have b0 : bAt s (a.length : Nat) = 92 := by rw [hs2]; exact bAt_mid a 92 _
        have hH : jHas s (a.length + 1) uS = true := by
          rw [hs2, show a ++ ([92, 117, 48, 48, hexB (c.toNat / 16), hexB (c.toNat % 16)] ++ (jEscs l ++ 34 :: b)) = (a ++ [92]) ++ ([117, 48, 48] ++ (hexB (c.toNat / 16) :: hexB (c.toNat % 16) :: (jEscs l ++ 34 :: b))) by simp, show a.length + 1 = (a ++ [92]).length by simp]
          exact jHas_back _ _ _
        have b4 : bAt s ((a.length + 4 : Nat) : Int) = ((hexB (c.toNat / 16)).toNat : Int) := by
          rw [hs2, show a ++ ([92, 117, 48, 48, hexB (c.toNat / 16), hexB (c.toNat % 16)] ++ (jEscs l ++ 34 :: b)) = (a ++ [92, 117, 48, 48]) ++ hexB (c.toNat / 16) :: (hexB (c.toNat % 16) :: (jEscs l ++ 34 :: b)) by simp]
          exact bAt_at _ _ _ _ (by simp)
        have b5 : bAt s ((a.length + 5 : Nat) : Int) = ((hexB (c.toNat % 16)).toNat : Int) := by
          rw [hs2, show a ++ ([92, 117, 48, 48, hexB (c.toNat / 16), hexB (c.toNat % 16)] ++ (jEscs l ++ 34 :: b)) = (a ++ [92, 117, 48, 48, hexB (c.toNat / 16)]) ++ hexB (c.toNat % 16) :: (jEscs l ++ 34 :: b) by simp]
          exact bAt_at _ _ _ _ (by simp)
        rw [jqQuo, if_neg (by omega), if_neg (by rw [b0]; decide), if_neg (by rw [b0]; decide), if_pos ⟨hH, by omega⟩, b4, b5, hexD_hexB _ (by omega), hexD_hexB _ (by omega), if_neg (by omega), show (16 * ((c.toNat / 16 : Nat) : Int) + ((c.toNat % 16 : Nat) : Int)).toNat = c.toNat by omega, show UInt8.ofNat c.toNat = c by simp]
        exact ih _ _ hE (by simp)
      · have hE : jEsc c = [c] := by unfold jEsc; rw [hO]; simp only; rw [if_neg h32]
        rw [hE] at hz hs2
        obtain ⟨h1, h2⟩ := escO_none hO
        have b0 : bAt s (a.length : Nat) = (c.toNat : Int) := by rw [hs2]; exact bAt_mid a c _
        rw [jqQuo, if_neg (by simp at hz; omega), if_neg (by rw [b0]; intro h; exact h1 (toNat_eq.1 h)), if_pos (by rw [b0]; intro h; exact h2 (toNat_eq.1 h)), b0]
        rw [show UInt8.ofNat ((c.toNat : Int)).toNat = c by simp]
        exact ih _ _ hE (by simp)
theorem jEscs_len1 : ∀ l : List UInt8, l.length ≤ (jEscs l).length
  | [] => by simp
  | c :: l => by
    have := jEsc_len c
    have := jEscs_len1 l
    simp only [jEscs, List.length_append, List.length_cons]; omega
theorem jqQuoted_back (a : List UInt8) (t : ByteArray) (b : List UInt8) : jqQuoted (ofL (a ++ (jQ t ++ b))) a.length = (t, ((a ++ jQ t).length : Int)) := by
  unfold jqQuoted
  have e : ofL (a ++ (jQ t ++ b)) = ofL ((a ++ [34]) ++ (jEscs t.data.toList ++ 34 :: b)) := by simp [jQ]
  have hl := jEscs_len1 t.data.toList
  have hd : t.data.toList.length = t.size := by rw [Array.length_toList]; rfl
  have := jqQuo_back (ofL (a ++ (jQ t ++ b))) t.data.toList ((ofL (a ++ (jQ t ++ b))).size + 1) [] (a ++ [34]) b (by rw [ofL_size]; simp [jQ]; omega) e
  rw [show a.length + 1 = (a ++ [34]).length by simp, this]
  refine Prod.ext (by simp [ofL]) ?_
  simp [jQ]; omega
end Go.AL
/- The document's reader of the first serialisation reads what was written: numbers, lists, maps; no program in sight. -/
set_option linter.unusedVariables false
namespace Go.AL
open Go Go.RowKit Go.Lib

theorem dVal_app : ∀ (a b : List UInt8) (u : Nat), dVal (a ++ b) u = dVal b (dVal a u)
  | [], b, u => rfl
  | c :: a, b, u => by simp only [List.cons_append, dVal, dVal_app a b]
theorem dVal_digits : ∀ u : Nat, dVal (decDigits u) 0 = u := by
  intro u
  induction u using Nat.strongRecOn with
  | ind u ih =>
    by_cases h : u < 10
    · rw [decDigits, dif_pos h]
      simp only [dVal, dig_nat u h]; omega
    · rw [decDigits, dif_neg h, dVal_app, ih (u / 10) (by omega)]
      simp only [dVal, dig_nat (u % 10) (by omega)]; omega
theorem digits_le : ∀ (k u : Nat), u < 10 ^ (k + 1) → (decDigits u).length ≤ k + 1
  | 0, u, h => by rw [decDigits, dif_pos (by simpa using h)]; simp
  | k + 1, u, h => by
    by_cases h1 : u < 10
    · rw [decDigits, dif_pos h1]; simp
    · rw [decDigits, dif_neg h1, List.length_append]
      have := digits_le k (u / 10) (by rw [Nat.pow_succ] at h; omega)
      simp only [List.length_singleton]; omega
theorem takeDig_end (l t : List UInt8) (h : ∀ c ∈ l, isDig c = true) (ht : numEnd t) : (l ++ t).takeWhile isDig = l := by
  induction l with
  | nil =>
    cases t with
    | nil => rfl
    | cons c t =>
      have := ht c rfl
      have h2 : isDig c = false := by
        unfold isNumC at this
        simp only [Bool.or_eq_false_iff] at this
        exact this.2
      simp [List.takeWhile_cons, h2]
  | cons c l ih =>
    rw [List.cons_append, List.takeWhile_cons, h c (by simp), if_pos rfl, ih fun c hc => h c (by simp [hc])]
theorem dig_isDig (u : Nat) : ∀ c ∈ decDigits u, isDig c = true := fun c hc => by
  have := dig_num u c hc
  unfold isDig
  simp [this]
theorem digs_back (a : List UInt8) (u : Nat) (t : List UInt8) (ht : numEnd t) (n : Nat) (hn : n = a.length) : digs (ofL (a ++ (decDigits u ++ t))) n = decDigits u := by
  subst hn
  unfold digs
  rw [ofL_toList, List.drop_left]
  exact takeDig_end _ _ (dig_isDig u) ht
theorem jqNumb_back (a : List UInt8) (n : Int) (t : List UInt8) (h0 : -9223372036854775808 ≤ n) (h1 : n ≤ 9223372036854775807) (ht : numEnd t) : jqNumb (ofL (a ++ (itoa n ++ t))) a.length = (qNumb n, ((a ++ itoa n).length : Int)) := by
  by_cases hn : n < 0
  · have e : itoa n = 45 :: decDigits n.natAbs := by unfold itoa; rw [if_pos hn]
    rw [e]
    have hb : bAt (ofL (a ++ (45 :: decDigits n.natAbs ++ t))) (a.length : Nat) = 45 := by rw [List.cons_append]; exact bAt_mid a 45 _
    have hd : digs (ofL (a ++ (45 :: decDigits n.natAbs ++ t))) (sgnP (ofL (a ++ (45 :: decDigits n.natAbs ++ t))) a.length) = decDigits n.natAbs := by
      unfold sgnP
      rw [if_pos hb, show a ++ (45 :: decDigits n.natAbs ++ t) = (a ++ [45]) ++ (decDigits n.natAbs ++ t) by simp]
      exact digs_back _ _ _ ht _ (by simp)
    have hl := digits_le 18 n.natAbs (by omega)
    have hp := List.length_pos_iff.2 (dig_ne n.natAbs)
    unfold jqNumb
    rw [hd, dVal_digits, if_neg (by omega), if_neg (by rw [hb]; omega), if_pos hb]
    unfold sgnP
    rw [if_pos hb]
    refine Prod.ext ?_ ?_
    · show qNumb (-((n.natAbs : Nat) : Int)) = qNumb n
      congr 1; omega
    · simp; omega
  · have e : itoa n = decDigits n.toNat := by unfold itoa; rw [if_neg hn]
    rw [e]
    obtain ⟨c, l, hcl⟩ : ∃ c l, decDigits n.toNat = c :: l := by
      cases h : decDigits n.toNat with
      | nil => exact absurd h (dig_ne _)
      | cons c l => exact ⟨c, l, rfl⟩
    have hc := dig_num n.toNat c (by rw [hcl]; simp)
    have hb : ¬ bAt (ofL (a ++ (decDigits n.toNat ++ t))) (a.length : Nat) = 45 := by
      rw [hcl, List.cons_append, bAt_mid]; omega
    have hd : digs (ofL (a ++ (decDigits n.toNat ++ t))) (sgnP (ofL (a ++ (decDigits n.toNat ++ t))) a.length) = decDigits n.toNat := by
      unfold sgnP
      rw [if_neg hb]
      exact digs_back _ _ _ ht _ rfl
    have hl := digits_le 18 n.toNat (by omega)
    have hp := List.length_pos_iff.2 (dig_ne n.toNat)
    unfold jqNumb
    rw [hd, dVal_digits, if_neg (by omega), if_neg (by omega), if_neg hb]
    unfold sgnP
    rw [if_neg hb]
    refine Prod.ext ?_ ?_
    · show qNumb ((n.toNat : Nat) : Int) = qNumb n
      congr 1; omega
    · simp
/-- What reads a node at its place. -/
def jqAt (s : ByteArray) (val : Nat → Nd × Int) (x : Nd) : Prop := ∀ a t : List UInt8, numEnd t → s = ofL (a ++ (x.jb ++ t)) → val a.length = (x, ((a ++ x.jb).length : Int))
theorem jqList_4 (s : ByteArray) (val : Nat → Nd × Int) : ∀ (xs : List Nd) (c : Nat) (ns : List ByteArray) (acc : List Nd) (a t : List UInt8), xs ≠ [] → xs.length ≤ c → acc.length + xs.length ≤ 256 → (∀ x ∈ xs, (∃ c l, x.jb = c :: l ∧ c ≠ 93 ∧ c ≠ 44) ∧ jqAt s val x) →
    s = ofL (a ++ (Nd.jbs true xs ++ 93 :: t)) → jqList val s 4 93 c ns acc a.length = (.mk 4 false 0 eS ns (acc ++ xs), ((a ++ Nd.jbs true xs).length : Int) + 1)
  | [], c, ns, acc, a, t, h, _, _, _, _ => absurd rfl h
  | x :: xs, c, ns, acc, a, t, _, hc, hacc, h, hs => by
    obtain ⟨c, rfl⟩ : ∃ g, c = g + 1 := ⟨c - 1, by simp at hc; omega⟩
    obtain ⟨⟨d, l, hdl, hd1, hd2⟩, hx⟩ := h x (by simp)
    have hs1 : s = ofL (a ++ (x.jb ++ (Nd.jbs false xs ++ 93 :: t))) := by rw [hs]; simp [Nd.jbs]
    have hX := hx a (Nd.jbs false xs ++ 93 :: t) (numEnd_sep true xs 93 rfl t) hs1
    have hb : ¬ bAt s (a.length : Nat) = 93 := by
      rw [hs1, hdl, List.cons_append, bAt_mid]
      intro h; exact hd1 (toNat_eq.1 h)
    have hz : s.size = (a ++ x.jb).length + (Nd.jbs false xs ++ 93 :: t).length := by rw [hs1, ofL_size]; simp; omega
    rw [jqList, if_neg (fun h => hb h.2.1), if_neg (by decide)]
    unfold jqItem
    rw [hX]
    simp only
    cases xs with
    | nil =>
      have hb2 : bAt s (((a ++ x.jb).length : Nat) : Int) = 93 := by
        rw [hs1, show a ++ (x.jb ++ (Nd.jbs false [] ++ 93 :: t)) = (a ++ x.jb) ++ 93 :: t by simp [Nd.jbs]]
        exact bAt_mid _ 93 _
      rw [if_neg (by simp [Nd.jbs] at hz ⊢; omega), if_pos hb2]
      simp [Nd.jbs]
    | cons y ys =>
      have hb2 : bAt s (((a ++ x.jb).length : Nat) : Int) = 44 := by
        rw [hs1, show a ++ (x.jb ++ (Nd.jbs false (y :: ys) ++ 93 :: t)) = (a ++ x.jb) ++ 44 :: (Nd.jbs true (y :: ys) ++ 93 :: t) by simp [Nd.jbs]]
        exact bAt_mid _ 44 _
      have ih := jqList_4 s val (y :: ys) c ns (acc ++ [x]) (a ++ x.jb ++ [44]) t (by simp) (by simp at hc ⊢; omega) (by simp at hacc ⊢; omega) (fun z hz => h z (by simp at hz ⊢; right; exact hz)) (by rw [hs1]; simp [Nd.jbs])
      rw [if_neg (by simp [Nd.jbs] at hz ⊢; omega), if_neg (by rw [hb2]; decide), if_neg (by rw [hb2]; simp at hacc ⊢; omega)]
      rw [show (((a ++ x.jb).length : Nat) : Int).toNat + 1 = (a ++ x.jb ++ [44]).length by simp; omega, ih]
      simp [Nd.jbs] <;> omega
theorem jqList_5 (s : ByteArray) (val : Nat → Nd × Int) : ∀ (ss : List ByteArray) (xs : List Nd) (c : Nat) (ns : List ByteArray) (acc : List Nd) (a t : List UInt8), xs ≠ [] → ss.length = xs.length → xs.length ≤ c → acc.length + xs.length ≤ 256 → (∀ x ∈ xs, jqAt s val x) →
    s = ofL (a ++ (Nd.jbm true ss xs ++ 125 :: t)) → jqList val s 5 125 c ns acc a.length = (.mk 5 false 0 eS (ns ++ ss) (acc ++ xs), ((a ++ Nd.jbm true ss xs).length : Int) + 1)
  | ss, [], c, ns, acc, a, t, h, _, _, _, _, _ => absurd rfl h
  | [], x :: xs, c, ns, acc, a, t, _, hl, _, _, _, _ => by simp at hl
  | n :: ss, x :: xs, c, ns, acc, a, t, _, hl, hc, hacc, h, hs => by
    obtain ⟨c, rfl⟩ : ∃ g, c = g + 1 := ⟨c - 1, by simp at hc; omega⟩
    have hx := h x (by simp)
    have hs1 : s = ofL ((a ++ jQ n ++ [58]) ++ (x.jb ++ (Nd.jbm false ss xs ++ 125 :: t))) := by rw [hs]; simp [Nd.jbm]
    have hs0 : s = ofL (a ++ (jQ n ++ (58 :: (x.jb ++ (Nd.jbm false ss xs ++ 125 :: t))))) := by rw [hs]; simp [Nd.jbm]
    have hX := hx (a ++ jQ n ++ [58]) (Nd.jbm false ss xs ++ 125 :: t) (numEnd_sepm ss xs 125 rfl t) hs1
    have hQ : jqQuoted s a.length = (n, ((a ++ jQ n).length : Int)) := by rw [hs0]; exact jqQuoted_back a n _
    have hb : bAt s (a.length : Nat) = 34 := by
      rw [hs0, show a ++ (jQ n ++ (58 :: (x.jb ++ (Nd.jbm false ss xs ++ 125 :: t)))) = a ++ 34 :: (jEscs n.data.toList ++ [34] ++ (58 :: (x.jb ++ (Nd.jbm false ss xs ++ 125 :: t)))) by simp [jQ]]
      exact bAt_mid a 34 _
    have hb58 : bAt s (((a ++ jQ n).length : Nat) : Int) = 58 := by
      rw [hs0, show a ++ (jQ n ++ (58 :: (x.jb ++ (Nd.jbm false ss xs ++ 125 :: t)))) = (a ++ jQ n) ++ 58 :: (x.jb ++ (Nd.jbm false ss xs ++ 125 :: t)) by simp]
      exact bAt_mid _ 58 _
    have hz : s.size = (a ++ jQ n ++ [58] ++ x.jb).length + (Nd.jbm false ss xs ++ 125 :: t).length := by rw [hs1, ofL_size]; simp; omega
    have hz1 : a.length < s.size := by rw [hz]; simp; omega
    have hz2 : (a ++ jQ n).length < s.size := by rw [hz]; simp; omega
    rw [jqList, if_neg (fun h => by rw [hb] at h; exact absurd h.2.1 (by decide)), if_pos rfl, if_neg (by rw [hb]; simp; omega), hQ]
    simp only
    rw [if_neg (by rw [hb58]; omega)]
    unfold jqItem
    rw [show (((a ++ jQ n).length : Nat) : Int).toNat + 1 = (a ++ jQ n ++ [58]).length by simp; omega, hX]
    simp only
    cases xs with
    | nil =>
      have : ss = [] := List.eq_nil_of_length_eq_zero (by simpa using hl)
      subst this
      have hb2 : bAt s (((a ++ jQ n ++ [58] ++ x.jb).length : Nat) : Int) = 125 := by
        rw [hs1, show (a ++ jQ n ++ [58]) ++ (x.jb ++ (Nd.jbm false [] [] ++ 125 :: t)) = (a ++ jQ n ++ [58] ++ x.jb) ++ 125 :: t by simp [Nd.jbm]]
        exact bAt_mid _ 125 _
      have hz3 : (a ++ jQ n ++ [58] ++ x.jb).length < s.size := by rw [hz, @List.length_append _ (Nd.jbm false [] []) _]; simp only [List.length_cons]; omega
      rw [if_neg (by omega), if_pos hb2]
      simp [Nd.jbm] <;> omega
    | cons y ys =>
      obtain ⟨m, ms, rfl⟩ : ∃ m ms, ss = m :: ms := by
        cases ss with
        | nil => simp at hl
        | cons m ms => exact ⟨m, ms, rfl⟩
      have hb2 : bAt s (((a ++ jQ n ++ [58] ++ x.jb).length : Nat) : Int) = 44 := by
        rw [hs1, show (a ++ jQ n ++ [58]) ++ (x.jb ++ (Nd.jbm false (m :: ms) (y :: ys) ++ 125 :: t)) = (a ++ jQ n ++ [58] ++ x.jb) ++ 44 :: (Nd.jbm true (m :: ms) (y :: ys) ++ 125 :: t) by simp [Nd.jbm]]
        exact bAt_mid _ 44 _
      have hz3 : (a ++ jQ n ++ [58] ++ x.jb).length < s.size := by rw [hz]; simp [Nd.jbm]
      have ih := jqList_5 s val (m :: ms) (y :: ys) c (ns ++ [n]) (acc ++ [x]) (a ++ jQ n ++ [58] ++ x.jb ++ [44]) t (by simp) (by simpa using hl) (by simp at hc ⊢; omega) (by simp at hacc ⊢; omega) (fun z hz => h z (by simp at hz ⊢; right; exact hz)) (by rw [hs1]; simp [Nd.jbm])
      rw [if_neg (by omega), if_neg (by rw [hb2]; decide), if_neg (by rw [hb2]; simp at hacc ⊢; omega)]
      have hm : (((a ++ jQ n ++ [58] ++ x.jb).length : Nat) : Int).toNat + 1 = (a ++ jQ n ++ [58] ++ x.jb ++ [44]).length := by
        rw [Int.toNat_natCast, @List.length_append _ (a ++ jQ n ++ [58] ++ x.jb) _]; rfl
      rw [hm, ih]
      simp [Nd.jbm] <;> omega
end Go.AL
/- The document's reader of the first serialisation: what it takes, and that it decodes what the program decodes; no program in sight. -/
set_option linter.unusedVariables false
namespace Go.AL
open Go Go.RowKit

theorem jqVal_hd {s : ByteArray} {p d : Nat} {c : UInt8} (hp : p < s.size) (hb : bAt s (p : Nat) = (c.toNat : Int)) (h1 : c ≠ 110) (h2 : c ≠ 116) (h3 : c ≠ 102) : jqVal s (d + 1) p =
    if c = 34 then (.mk 3 false 0 (jqQuoted s p).1 [] [], (jqQuoted s p).2)
    else if c = 91 then jqList (jqVal s d) s 4 93 258 [] [] (p + 1)
    else if c = 123 then jqList (jqVal s d) s 5 125 258 [] [] (p + 1)
    else jqNumb s p := by
  have n1 : jHas s p nullS = false := jHas_not (d := 110) (t := [117, 108, 108]) (by rw [hb]; exact fun h => h1 (toNat_eq.1 h))
  have n2 : jHas s p trueS = false := jHas_not (d := 116) (t := [114, 117, 101]) (by rw [hb]; exact fun h => h2 (toNat_eq.1 h))
  have n3 : jHas s p falseS = false := jHas_not (d := 102) (t := [97, 108, 115, 101]) (by rw [hb]; exact fun h => h3 (toNat_eq.1 h))
  have e (k : UInt8) : ((c.toNat : Int) = (k.toNat : Int)) = (c = k) := propext toNat_eq
  rw [jqVal, if_neg (by omega), n1, n2, n3, hb]
  simp only [Bool.false_eq_true, if_false]
  have e34 := e 34
  have e91 := e 91
  have e123 := e 123
  simp only [show ((34 : UInt8).toNat : Int) = 34 from rfl, show ((91 : UInt8).toNat : Int) = 91 from rfl, show ((123 : UInt8).toNat : Int) = 123 from rfl] at e34 e91 e123
  simp only [e34, e91, e123]
theorem jqVal_back {V : ByteArray → Bool} : ∀ (x : Nd) (d : Nat), x.validB V d = true → x.In → ∀ s : ByteArray, jqAt s (jqVal s d) x
  | .mk k b n t ns is, d, hv, hin, s => by
    intro a u hu hs
    rw [valid_mk] at hv
    obtain ⟨h1, h2, h3, h4, h5, h6, h7, h8⟩ := hv
    cases hin with
    | mk i1 i2 i3 =>
    obtain ⟨d, rfl⟩ : ∃ e, d = e + 1 := ⟨d - 1, by omega⟩
    have e8 : (((d + 1 : Nat) : Int) - 1) = (d : Int) := by omega
    rw [e8] at h8
    have fld := h4
    simp only [Nd.fieldsOK, Bool.and_eq_true, Bool.or_eq_true, decide_eq_true_eq, Bool.not_eq_true'] at fld
    have hb : ¬ k = 1 → b = false := fun h => by rcases fld.1.1.1.1 with q | q <;> simp_all
    have hn : ¬ k = 2 → n = 0 := fun h => by rcases fld.1.1.1.2 with q | q <;> simp_all
    have ht : ¬ k = 3 → t = eS := fun h => by
      rcases fld.1.1.2 with q | q
      · exact absurd q h
      · cases t with
        | mk a => simp_all [eS]
    have hns : ¬ k = 5 → ns = [] := fun h => by
      rcases fld.2 with q | q
      · exact absurd q h
      · exact List.eq_nil_of_length_eq_zero (by omega)
    have his : ¬ (k = 4 ∨ k = 5) → is = [] := fun h => by
      rcases fld.1.2 with q | q
      · exact absurd q h
      · exact List.eq_nil_of_length_eq_zero (by omega)
    have hk : k = 0 ∨ k = 1 ∨ k = 2 ∨ k = 3 ∨ k = 4 ∨ k = 5 := by omega
    rcases hk with rfl | rfl | rfl | rfl | rfl | rfl
    · rw [hb (by decide), hn (by decide), ht (by decide), hns (by decide), his (by decide)] at hs ⊢
      rw [show (Nd.mk 0 false 0 eS [] []).jb = jNull by simp [Nd.jb]] at hs ⊢
      have hz : a.length < s.size := by rw [hs, ofL_size]; simp [jNull]
      have hh : jHas s a.length nullS = true := by rw [hs]; exact jHas_back a jNull u
      rw [jqVal, if_neg (by omega), if_pos hh]
      simp [jNull, Nd.zero]
      rfl
    · rw [hn (by decide), ht (by decide), hns (by decide), his (by decide)] at hs ⊢
      cases b with
      | true =>
        rw [show (Nd.mk 1 true 0 eS [] []).jb = jTrue by simp [Nd.jb]] at hs ⊢
        have hz : a.length < s.size := by rw [hs, ofL_size]; simp [jTrue]
        have hb0 : bAt s (a.length : Nat) = 116 := by rw [hs]; exact bAt_mid a 116 _
        have hh : jHas s a.length trueS = true := by rw [hs]; exact jHas_back a jTrue u
        have hn0 : jHas s a.length nullS = false := jHas_not (d := 110) (t := [117, 108, 108]) (by rw [hb0]; decide)
        rw [jqVal, if_neg (by omega), if_neg (by rw [hn0]; simp), if_pos hh]
        simp [jTrue]
      | false =>
        rw [show (Nd.mk 1 false 0 eS [] []).jb = jFalse by simp [Nd.jb]] at hs ⊢
        have hz : a.length < s.size := by rw [hs, ofL_size]; simp [jFalse]
        have hb0 : bAt s (a.length : Nat) = 102 := by rw [hs]; exact bAt_mid a 102 _
        have hh : jHas s a.length falseS = true := by rw [hs]; exact jHas_back a jFalse u
        have hn0 : jHas s a.length nullS = false := jHas_not (d := 110) (t := [117, 108, 108]) (by rw [hb0]; decide)
        have hn1 : jHas s a.length trueS = false := jHas_not (d := 116) (t := [114, 117, 101]) (by rw [hb0]; decide)
        rw [jqVal, if_neg (by omega), if_neg (by rw [hn0]; simp), if_neg (by rw [hn1]; simp), if_pos hh]
        simp [jFalse]
    · rw [hb (by decide), ht (by decide), hns (by decide), his (by decide)] at hs ⊢
      rw [show (Nd.mk 2 false n eS [] []).jb = Lib.itoa n by simp [Nd.jb]] at hs ⊢
      obtain ⟨c, l, hc⟩ : ∃ c l, Lib.itoa n = c :: l := by
        have := (itoa_len n i1 i2).1
        cases h : Lib.itoa n with
        | nil => rw [h] at this; simp at this
        | cons c l => exact ⟨c, l, rfl⟩
      have hnum := itoa_num n c (by rw [hc]; simp)
      have ne : ∀ a : UInt8, isNumC a = false → c ≠ a := fun a ha e => by subst e; rw [ha] at hnum; cases hnum
      have hz : a.length < s.size := by rw [hs, ofL_size, hc]; simp
      have hb0 : bAt s (a.length : Nat) = (c.toNat : Int) := by rw [hs, hc, List.cons_append]; exact bAt_mid a c _
      rw [jqVal_hd hz hb0 (ne _ rfl) (ne _ rfl) (ne _ rfl), if_neg (ne _ rfl), if_neg (ne _ rfl), if_neg (ne _ rfl), hs]
      exact jqNumb_back a n u i1 i2 hu
    · rw [hb (by decide), hn (by decide), hns (by decide), his (by decide)] at hs ⊢
      rw [show (Nd.mk 3 false 0 t [] []).jb = jQ t by simp [Nd.jb]] at hs ⊢
      have hz : a.length < s.size := by rw [hs, ofL_size]; simp [jQ]
      have hb0 : bAt s (a.length : Nat) = ((34 : UInt8).toNat : Int) := by rw [hs]; exact bAt_mid a 34 _
      rw [jqVal_hd hz hb0 (by decide) (by decide) (by decide), if_pos rfl, hs, jqQuoted_back]
    · rw [hb (by decide), hn (by decide), ht (by decide), hns (by decide)] at hs ⊢
      have e : (Nd.mk 4 false 0 eS [] is).jb = 91 :: (Nd.jbs true is ++ [93]) := by simp [Nd.jb]
      rw [e] at hs ⊢
      have hz : a.length < s.size := by rw [hs, ofL_size]; simp
      have hb0 : bAt s (a.length : Nat) = ((91 : UInt8).toNat : Int) := by rw [hs]; exact bAt_mid a 91 _
      rw [jqVal_hd hz hb0 (by decide) (by decide) (by decide), if_neg (by decide), if_pos rfl]
      have hj : ∀ x ∈ is, ∃ c l, x.jb = c :: l ∧ c ≠ 93 ∧ c ≠ 44 := fun x hx => jb_head x _ (h8 x hx)
      have hs1 : s = ofL ((a ++ [91]) ++ (Nd.jbs true is ++ 93 :: u)) := by rw [hs]; simp
      rw [show a.length + 1 = (a ++ [91]).length by simp]
      by_cases hnil : is = []
      · subst hnil
        have hb1 : bAt s (((a ++ [91]).length : Nat) : Int) = 93 := by rw [hs1]; exact bAt_mid (a ++ [91]) 93 _
        rw [jqList, if_pos ⟨by rw [hs1, ofL_size]; simp; omega, hb1, rfl⟩]
        simp [Nd.jbs]
        omega
      · rw [jqList_4 s (jqVal s d) is 258 [] [] (a ++ [91]) u hnil (by omega) (by simp; omega) (fun x hx => ⟨hj x hx, jqVal_back x d (h8 x hx) (i3 x hx) s⟩) hs1]
        simp <;> omega
    · rw [hb (by decide), hn (by decide), ht (by decide)] at hs ⊢
      have e : (Nd.mk 5 false 0 eS ns is).jb = 123 :: (Nd.jbm true ns is ++ [125]) := by simp [Nd.jb]
      have hl5 := (h7 rfl).2
      rw [e] at hs ⊢
      have hz : a.length < s.size := by rw [hs, ofL_size]; simp
      have hb0 : bAt s (a.length : Nat) = ((123 : UInt8).toNat : Int) := by rw [hs]; exact bAt_mid a 123 _
      rw [jqVal_hd hz hb0 (by decide) (by decide) (by decide), if_neg (by decide), if_neg (by decide), if_pos rfl]
      have hs1 : s = ofL ((a ++ [123]) ++ (Nd.jbm true ns is ++ 125 :: u)) := by rw [hs]; simp
      rw [show a.length + 1 = (a ++ [123]).length by simp]
      by_cases hnil : is = []
      · subst hnil
        have : ns = [] := List.eq_nil_of_length_eq_zero (by simpa using hl5)
        subst this
        have hb1 : bAt s (((a ++ [123]).length : Nat) : Int) = 125 := by rw [hs1]; exact bAt_mid (a ++ [123]) 125 _
        rw [jqList, if_pos ⟨by rw [hs1, ofL_size]; simp; omega, hb1, rfl⟩]
        simp [Nd.jbm]
        omega
      · rw [jqList_5 s (jqVal s d) ns is 258 [] [] (a ++ [123]) u hnil hl5 (by omega) (by simp; omega) (fun x hx => jqVal_back x d (h8 x hx) (i3 x hx) s) hs1]
        simp <;> omega
termination_by x => SizeOf.sizeOf x
decreasing_by
  all_goals
    have := List.sizeOf_lt_of_mem hx
    simp only [Nd.mk.sizeOf_spec]
    omega
end Go.AL
/- What the document's reader of the first serialisation takes, and that it decodes what the program decodes; no program in sight. -/
set_option linter.unusedVariables false
namespace Go.AL
open Go Go.RowKit

/-- What was read from a place on: it is not large, and where it did not fail its text is not much longer than what was taken. -/
def LG (s : ByteArray) (p : Nat) (W : Int) (y : Nd × Int) : Prop := y.1.Ok ∧ -1 ≤ y.2 ∧ (y.2 ≠ -1 → (p : Int) < y.2 ∧ y.2 ≤ s.size ∧ (y.1.jb.length : Int) ≤ W + 21 * (y.2 - p) ∧ y.1.In)
theorem LG.fail (s : ByteArray) (p : Nat) (W : Int) : LG s p W (Nd.zero, -1) := ⟨zero_ok, by decide, fun h => absurd rfl h⟩
theorem jqQuo_good (s : ByteArray) : ∀ (f : Nat) (out : List UInt8) (p : Nat), -1 ≤ (jqQuo s f out p).2 ∧ ((jqQuo s f out p).2 ≠ -1 → (p : Int) < (jqQuo s f out p).2 ∧ (jqQuo s f out p).2 ≤ s.size ∧ ((jqQuo s f out p).1.size : Int) + p + 1 ≤ out.length + (jqQuo s f out p).2)
  | 0, out, p => ⟨by simp [jqQuo], fun h => absurd rfl h⟩
  | f + 1, out, p => by
    have fail : -1 ≤ ((eS, (-1 : Int)) : ByteArray × Int).2 := by decide
    rw [jqQuo]
    split
    · exact ⟨fail, fun h => absurd rfl h⟩
    rename_i h1
    split
    · exact ⟨by simp only; omega, fun _ => ⟨by simp only; omega, by simp only; omega, by simp only [ofL_size]; omega⟩⟩
    have step : ∀ (b : UInt8) (m : Nat), p < m → -1 ≤ (jqQuo s f (out ++ [b]) m).2 ∧ ((jqQuo s f (out ++ [b]) m).2 ≠ -1 → (p : Int) < (jqQuo s f (out ++ [b]) m).2 ∧ (jqQuo s f (out ++ [b]) m).2 ≤ s.size ∧ ((jqQuo s f (out ++ [b]) m).1.size : Int) + p + 1 ≤ out.length + (jqQuo s f (out ++ [b]) m).2) := fun b m hm => by
      obtain ⟨i1, i2⟩ := jqQuo_good s f (out ++ [b]) m
      refine ⟨i1, fun h => ?_⟩
      obtain ⟨j1, j2, j3⟩ := i2 h
      simp only [List.length_append, List.length_singleton] at j3
      exact ⟨by omega, j2, by omega⟩
    split
    · exact step _ _ (by omega)
    split
    · split
      · exact ⟨fail, fun h => absurd rfl h⟩
      · exact step _ _ (by omega)
    split
    · exact step _ _ (by omega)
    split
    · exact step _ _ (by omega)
    · exact ⟨fail, fun h => absurd rfl h⟩
theorem jqQuoted_good (s : ByteArray) (p : Nat) : -1 ≤ (jqQuoted s p).2 ∧ ((jqQuoted s p).2 ≠ -1 → (p : Int) < (jqQuoted s p).2 ∧ (jqQuoted s p).2 ≤ s.size ∧ ((jqQuoted s p).1.size : Int) + 2 + p ≤ (jqQuoted s p).2) := by
  obtain ⟨h1, h2⟩ := jqQuo_good s (s.size + 1) [] (p + 1)
  refine ⟨h1, fun h => ?_⟩
  obtain ⟨j1, j2, j3⟩ := h2 h
  simp only [List.length_nil] at j3
  unfold jqQuoted at *
  exact ⟨by omega, j2, by omega⟩
theorem digs_len (s : ByteArray) (q : Nat) : (digs s q).length ≤ s.size - q := by
  unfold digs
  have h : ∀ (l : List UInt8), (l.takeWhile isDig).length ≤ l.length := by
    intro l
    induction l with
    | nil => simp
    | cons c l ih =>
      rw [List.takeWhile_cons]
      split <;> simp <;> omega
  have := h (s.data.toList.drop q)
  rw [List.length_drop, Array.length_toList] at this
  exact this
theorem numbJ_jb (n : Int) : (qNumb n).jb = Lib.itoa n := by simp [qNumb, Nd.jb]
theorem jqNumb_good (s : ByteArray) (p : Nat) : LG s p 0 (jqNumb s p) := by
  have hd := digs_len s (sgnP s p)
  have hs : p ≤ sgnP s p := by unfold sgnP; split <;> omega
  unfold jqNumb
  split
  · exact LG.fail ..
  rename_i h1
  split
  · exact LG.fail ..
  rename_i h2
  generalize digs s (sgnP s p) = ds at *
  generalize dVal ds 0 = v at *
  generalize sgnP s p = q at *
  have hr : -9223372036854775808 ≤ (if bAt s (p : Nat) = 45 then -(v : Int) else v) ∧ (if bAt s (p : Nat) = 45 then -(v : Int) else v) ≤ 9223372036854775807 := by
    split <;> omega
  refine ⟨numb_ok _, by simp only; omega, fun _ => ⟨by simp only; omega, by simp only; omega, ?_, numb_in hr.1 hr.2⟩⟩
  simp only [numbJ_jb]
  have := (itoa_len _ hr.1 hr.2).2
  omega
/-- The bytes of what was read so far. -/
def jW (k : Int) (ns : List ByteArray) (is : List Nd) : Int := 2 + (if k = 5 then (Nd.jbm true ns is).length else (Nd.jbs true is).length : Nat)
theorem jW_jb (k : Int) (hk : k = 4 ∨ k = 5) (ns : List ByteArray) (is : List Nd) : ((Nd.mk k false 0 eS ns is).jb.length : Int) = jW k ns is := by
  rcases hk with rfl | rfl
  · simp [Nd.jb, jW]; omega
  · simp [Nd.jb, jW]; omega
theorem jqItem_good (val : Nat → Nd × Int) (s : ByteArray) (k e : Int) (hk : k = 4 ∨ k = 5) (go : List Nd → Nat → Nd × Int) (ns : List ByteArray) (is : List Nd) (p : Nat) (W : Int)
    (hv : LG s p 0 (val p)) (hW : ∀ x : Nd, jW k ns (is ++ [x]) ≤ W + x.jb.length) (hok : ∀ x ∈ is, x.Ok) (hin : ∀ x ∈ is, x.In) (hl : is.length ≤ 1000) (hnl : ns.length ≤ 1000)
    (hg : ∀ x : Nd, x.Ok → x.In → is.length + 1 ≤ 256 → ∀ q : Nat, LG s q (jW k ns (is ++ [x])) (go (is ++ [x]) q)) : LG s p (W - 21) (jqItem val s k e go ns is p) := by
  unfold jqItem
  split
  · exact LG.fail ..
  rename_i h1
  obtain ⟨v1, v2, v3⟩ := hv
  obtain ⟨v4, v5, v6, v7⟩ := v3 (by omega)
  have key : ∀ {P : Nd → Prop}, (∀ x ∈ is, P x) → P (val p).1 → ∀ x ∈ is ++ [(val p).1], P x := fun h hy x hx => by
    rcases List.mem_append.1 hx with h' | h'
    · exact h x h'
    · rw [List.mem_singleton.1 h']; exact hy
  have hw := hW (val p).1
  split
  · refine ⟨.mk (by omega) (by simp; omega) (key hok v1), by simp only; omega, fun _ => ⟨by simp only; omega, by simp only; omega, ?_, .mk (by decide) (by decide) (key hin v7)⟩⟩
    simp only
    rw [jW_jb k hk]; omega
  rename_i h2
  split
  · exact LG.fail ..
  rename_i h3
  obtain ⟨g1, g2, g3⟩ := hg (val p).1 v1 v7 (by omega) ((val p).2.toNat + 1)
  refine ⟨g1, g2, fun h => ?_⟩
  obtain ⟨g4, g5, g6, g7⟩ := g3 h
  exact ⟨by omega, g5, by omega, g7⟩
theorem jqList_good (val : Nat → Nd × Int) (s : ByteArray) (k e : Int) (hk : k = 4 ∨ k = 5) (hv : ∀ p, LG s p 0 (val p)) : ∀ (c : Nat) (ns : List ByteArray) (is : List Nd) (p : Nat), c ≤ 258 → is.length + c = 258 → (k = 5 → ns.length = is.length) → (k = 4 → ns = []) → (∀ x ∈ is, x.Ok) → (∀ x ∈ is, x.In) → LG s p (jW k ns is) (jqList val s k e c ns is p)
  | 0, ns, is, p, _, _, _, _, _, _ => LG.fail ..
  | c + 1, ns, is, p, hc, hl, h5, h4, hok, hin => by
    have hnl : ns.length ≤ 1000 := by
      rcases hk with rfl | rfl
      · rw [h4 rfl]; simp
      · rw [h5 rfl]; omega
    have key : ∀ {P : Nd → Prop} {y : Nd}, (∀ x ∈ is, P x) → P y → ∀ x ∈ is ++ [y], P x := fun h hy x hx => by
      rcases List.mem_append.1 hx with h' | h'
      · exact h x h'
      · rw [List.mem_singleton.1 h']; exact hy
    rw [jqList]
    split
    · rename_i hh
      refine ⟨.mk (by omega) (by omega) hok, by simp only; omega, fun _ => ⟨by simp only; omega, by simp only; omega, ?_, .mk (by decide) (by decide) hin⟩⟩
      simp only
      rw [jW_jb k hk]; omega
    split
    · rename_i hk5
      subst hk5
      split
      · exact LG.fail ..
      rename_i hq1
      split
      · exact LG.fail ..
      rename_i hq
      obtain ⟨q1, q2⟩ := jqQuoted_good s p
      obtain ⟨q3, q4, q5⟩ := q2 (by omega)
      have hlen := h5 rfl
      have := jqItem_good val s 5 e hk (jqList val s 5 e c (ns ++ [(jqQuoted s p).1])) (ns ++ [(jqQuoted s p).1]) is ((jqQuoted s p).2.toNat + 1) (jW 5 ns is + (jQ (jqQuoted s p).1).length + 2) (hv _) (fun x => by
        unfold jW
        rw [if_pos rfl, if_pos rfl, jbm_snoc true ns is _ x hlen]
        simp only [List.length_append, List.length_cons]
        split <;> simp <;> omega) hok hin (by omega) (by simp; omega) (fun x ox ix h256 q => jqList_good val s 5 e hk hv c _ _ q (by omega) (by simp; omega) (fun _ => by simp [hlen]) (fun h => by omega) (key hok ox) (key hin ix))
      obtain ⟨g1, g2, g3⟩ := this
      refine ⟨g1, g2, fun h => ?_⟩
      obtain ⟨g4, g5, g6, g7⟩ := g3 h
      have hj := (jQ_len (jqQuoted s p).1).2
      exact ⟨by omega, g5, by omega, g7⟩
    · rename_i hk5
      have hk4 : k = 4 := by omega
      subst hk4
      have hns := h4 rfl
      have := jqItem_good val s 4 e hk (jqList val s 4 e c ns) ns is p (jW 4 ns is + 1) (hv _) (fun x => by
        unfold jW
        rw [if_neg (by decide), if_neg (by decide), jbs_snoc]
        simp only [List.length_append]
        split <;> simp <;> omega) hok hin (by omega) hnl (fun x ox ix h256 q => jqList_good val s 4 e hk hv c _ _ q (by omega) (by simp; omega) (fun h => by omega) (fun _ => hns) (key hok ox) (key hin ix))
      obtain ⟨g1, g2, g3⟩ := this
      refine ⟨g1, g2, fun h => ?_⟩
      obtain ⟨g4, g5, g6, g7⟩ := g3 h
      exact ⟨by omega, g5, by omega, g7⟩
theorem jHas_le {s : ByteArray} {p : Nat} {t : ByteArray} (h : jHas s p t = true) : (p : Int) + t.size ≤ s.size := by
  unfold jHas at h
  simp only [Bool.and_eq_true, decide_eq_true_eq] at h
  omega
theorem jqVal_good (s : ByteArray) : ∀ (d p : Nat), LG s p 0 (jqVal s d p)
  | 0, p => LG.fail ..
  | d + 1, p => by
    have ih := jqVal_good s d
    rw [jqVal]
    split
    · exact LG.fail ..
    rename_i h0
    split
    · rename_i h
      have := jHas_le h
      have hz : nullS.size = 4 := rfl
      refine ⟨zero_ok, by simp only; omega, fun _ => ⟨by simp only; omega, by simp only; omega, ?_, zero_in⟩⟩
      simp [Nd.zero, Nd.jb, jNull]; omega
    split
    · rename_i h
      have := jHas_le h
      have hz : trueS.size = 4 := rfl
      refine ⟨.mk (by simp) (by simp) (by simp), by simp only; omega, fun _ => ⟨by simp only; omega, by simp only; omega, ?_, .mk (by decide) (by decide) (by simp)⟩⟩
      simp [Nd.jb, jTrue]; omega
    split
    · rename_i h
      have := jHas_le h
      have hz : falseS.size = 5 := rfl
      refine ⟨.mk (by simp) (by simp) (by simp), by simp only; omega, fun _ => ⟨by simp only; omega, by simp only; omega, ?_, .mk (by decide) (by decide) (by simp)⟩⟩
      simp [Nd.jb, jFalse]; omega
    split
    · obtain ⟨q1, q2⟩ := jqQuoted_good s p
      refine ⟨.mk (by simp) (by simp) (by simp), q1, fun h => ?_⟩
      obtain ⟨q3, q4, q5⟩ := q2 h
      refine ⟨q3, q4, ?_, .mk (by decide) (by decide) (by simp)⟩
      rw [show (Nd.mk 3 false 0 (jqQuoted s p).1 [] []).jb = jQ (jqQuoted s p).1 by simp [Nd.jb]]
      have := (jQ_len (jqQuoted s p).1).2
      simp only
      omega
    split
    · obtain ⟨g1, g2, g3⟩ := jqList_good (jqVal s d) s 4 93 (.inl rfl) ih 258 [] [] (p + 1) (by omega) (by simp) (fun h => by omega) (fun _ => rfl) (by simp) (by simp)
      refine ⟨g1, g2, fun h => ?_⟩
      obtain ⟨g4, g5, g6, g7⟩ := g3 h
      have hw : jW 4 [] [] = 2 := by simp [jW, Nd.jbs]
      exact ⟨by omega, g5, by omega, g7⟩
    split
    · obtain ⟨g1, g2, g3⟩ := jqList_good (jqVal s d) s 5 125 (.inr rfl) ih 258 [] [] (p + 1) (by omega) (by simp) (fun _ => rfl) (fun h => by omega) (by simp) (by simp)
      refine ⟨g1, g2, fun h => ?_⟩
      obtain ⟨g4, g5, g6, g7⟩ := g3 h
      have hw : jW 5 [] [] = 2 := by simp [jW, Nd.jbm]
      exact ⟨by omega, g5, by omega, g7⟩
    · exact jqNumb_good s p
def jqDec (V : ByteArray → Bool) (s : ByteArray) : Nd × Int :=
  if 65536 < s.size then (Nd.zero, 4)
  else if (jqVal s 8 0).2 = s.size ∧ (jqVal s 8 0).1.validB V 8 = true ∧ ofL (jqVal s 8 0).1.jb = s then ((jqVal s 8 0).1, 0) else (Nd.zero, 4)
theorem jqDec_eq (V : ByteArray → Bool) (s : ByteArray) : jqDec V s = gDec jsC V s := by
  unfold jqDec
  by_cases hg : gGood jsC V s
  · obtain ⟨x, h1, h2, h3, h4⟩ := gDec_iff.1 hg
    have hD : gDec jsC V s = (x, 0) := by rw [h4]; exact gDec_back h1 h2 h3
    have h3' : x.jb.length ≤ 65536 := h3
    have h4' : s = ofL x.jb := h4
    have hz : s.size = x.jb.length := by rw [h4', ofL_size]
    have hr := jqVal_back x 8 h1 h2 s [] [] (by simp [numEnd]) (by rw [h4']; simp)
    simp only [List.nil_append, List.length_nil] at hr
    rw [hD, if_neg (by omega), hr]
    simp only
    rw [if_pos ⟨by rw [hz], h1, h4'.symm⟩]
  · rw [gDec_zero hg]
    split
    · rfl
    · rename_i hs
      rw [if_neg]
      rintro ⟨h1, h2, h3⟩
      obtain ⟨g1, g2, g3⟩ := jqVal_good s 8 0
      obtain ⟨_, _, g5, g6⟩ := g3 (by omega)
      have hz : s.size = (jqVal s 8 0).1.jb.length := by rw [← h3, ofL_size, h3]
      have g5' : (jsC.E (jqVal s 8 0).1).length ≤ 65536 := by
        show (jqVal s 8 0).1.jb.length ≤ 65536
        omega
      exact hg (gDec_iff.2 ⟨_, h2, g6, g5', h3.symm⟩)
end Go.AL
