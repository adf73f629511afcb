/- What functions of the program and of the document answer, and the plain laws behind it; each under the conditions that its own theorem names. -/
import Derived.Test.YtmidabiehblekaaGreatDoorTk
import Derived.Test.YtmidabiehblekaaGreatDoorAl3
import Derived.Test.YtmidabiehblekaaGreatDoorTj
set_option linter.unusedVariables false
namespace Go.AL
open Go Go.RowKit
theorem zbd {s : ByteArray} {p d : Nat} {c : UInt8} (hp : p < s.size) (hb : bAt s (p : Nat) = (c.toNat : Int)) (h1 : c ≠ 110) (h2 : c ≠ 116) (h3 : c ≠ 102) : y5 s (d + 1) p =
    if c = 34 then (.mk 3 false 0 (zW s p).1 [] [], (zW s p).2)
    else if c = 91 then xv (y5 s d) s 4 93 258 [] [] (p + 1)
    else if c = 123 then xv (y5 s d) s 5 125 258 [] [] (p + 1)
    else qE s p := by
  have n1 : kZ s p vA = false := qy (d := 110) (t := [117, 108, 108]) (by rw [hb]; exact fun h => h1 (wZ.1 h))
  have n2 : kZ s p qo = false := qy (d := 116) (t := [114, 117, 101]) (by rw [hb]; exact fun h => h2 (wZ.1 h))
  have n3 : kZ s p wO = false := qy (d := 102) (t := [97, 108, 115, 101]) (by rw [hb]; exact fun h => h3 (wZ.1 h))
  have e (k : UInt8) : ((c.toNat : Int) = (k.toNat : Int)) = (c = k) := propext wZ
  rw [y5, if_neg (by omega), n1, n2, n3, hb]
  simp only [Bool.false_eq_true, if_false]
  have e34 := e 34
  have e91 := e 91
  have e123 := e 123
  simp only [show ((34 : UInt8).toNat : Int) = 34 from rfl, show ((91 : UInt8).toNat : Int) = 91 from rfl, show ((123 : UInt8).toNat : Int) = 123 from rfl] at e34 e91 e123
  simp only [e34, e91, e123]
theorem zai {V : ByteArray → Bool} : ∀ (x : Nd) (d : Nat), x.validB V d = true → x.In → ∀ s : ByteArray, zos s (y5 s d) x
  | .mk k b n t ns is, d, hv, hin, s => by
    intro a u hu hs
    rw [yo] at hv
    obtain ⟨h1, h2, h3, h4, h5, h6, h7, h8⟩ := hv
    cases hin with
    | mk i1 i2 i3 =>
    obtain ⟨d, rfl⟩ : ∃ e, d = e + 1 := ⟨d - 1, by omega⟩
    have e8 : (((d + 1 : Nat) : Int) - 1) = (d : Int) := by omega
    rw [e8] at h8
    have fld := h4
    simp only [Nd.fieldsOK, Bool.and_eq_true, Bool.or_eq_true, decide_eq_true_eq, Bool.not_eq_true'] at fld
    have hb : ¬ k = 1 → b = false := fun h => by rcases fld.1.1.1.1 with q | q <;> simp_all
    have hn : ¬ k = 2 → n = 0 := fun h => by rcases fld.1.1.1.2 with q | q <;> simp_all
    have ht : ¬ k = 3 → t = eS := fun h => by
      rcases fld.1.1.2 with q | q
      · exact absurd q h
      · cases t with
        | mk a => simp_all [eS]
    have hns : ¬ k = 5 → ns = [] := fun h => by
      rcases fld.2 with q | q
      · exact absurd q h
      · exact List.eq_nil_of_length_eq_zero (by omega)
    have his : ¬ (k = 4 ∨ k = 5) → is = [] := fun h => by
      rcases fld.1.2 with q | q
      · exact absurd q h
      · exact List.eq_nil_of_length_eq_zero (by omega)
    have hk : k = 0 ∨ k = 1 ∨ k = 2 ∨ k = 3 ∨ k = 4 ∨ k = 5 := by omega
    rcases hk with rfl | rfl | rfl | rfl | rfl | rfl
    · rw [hb (by decide), hn (by decide), ht (by decide), hns (by decide), his (by decide)] at hs ⊢
      rw [show (Nd.mk 0 false 0 eS [] []).jb = kE by simp [Nd.jb]] at hs ⊢
      have hz : a.length < s.size := by rw [hs, zx]; simp [kE]
      have hh : kZ s a.length vA = true := by rw [hs]; exact jn a kE u
      rw [y5, if_neg (by omega), if_pos hh]
      simp [kE, Nd.zero]
      rfl
    · rw [hn (by decide), ht (by decide), hns (by decide), his (by decide)] at hs ⊢
      cases b with
      | true =>
        rw [show (Nd.mk 1 true 0 eS [] []).jb = w7 by simp [Nd.jb]] at hs ⊢
        have hz : a.length < s.size := by rw [hs, zx]; simp [w7]
        have hb0 : bAt s (a.length : Nat) = 116 := by rw [hs]; exact yD a 116 _
        have hh : kZ s a.length qo = true := by rw [hs]; exact jn a w7 u
        have hn0 : kZ s a.length vA = false := qy (d := 110) (t := [117, 108, 108]) (by rw [hb0]; decide)
        rw [y5, if_neg (by omega), if_neg (by rw [hn0]; simp), if_pos hh]
        simp [w7]
      | false =>
        rw [show (Nd.mk 1 false 0 eS [] []).jb = xm by simp [Nd.jb]] at hs ⊢
        have hz : a.length < s.size := by rw [hs, zx]; simp [xm]
        have hb0 : bAt s (a.length : Nat) = 102 := by rw [hs]; exact yD a 102 _
        have hh : kZ s a.length wO = true := by rw [hs]; exact jn a xm u
        have hn0 : kZ s a.length vA = false := qy (d := 110) (t := [117, 108, 108]) (by rw [hb0]; decide)
        have hn1 : kZ s a.length qo = false := qy (d := 116) (t := [114, 117, 101]) (by rw [hb0]; decide)
        rw [y5, if_neg (by omega), if_neg (by rw [hn0]; simp), if_neg (by rw [hn1]; simp), if_pos hh]
        simp [xm]
    · rw [hb (by decide), ht (by decide), hns (by decide), his (by decide)] at hs ⊢
      rw [show (Nd.mk 2 false n eS [] []).jb = Lib.itoa n by simp [Nd.jb]] at hs ⊢
      obtain ⟨c, l, hc⟩ : ∃ c l, Lib.itoa n = c :: l := by
        have := (kj n i1 i2).1
        cases h : Lib.itoa n with
        | nil => rw [h] at this; simp at this
        | cons c l => exact ⟨c, l, rfl⟩
      have hnum := zex n c (by rw [hc]; simp)
      have ne : ∀ a : UInt8, xY a = false → c ≠ a := fun a ha e => by subst e; rw [ha] at hnum; cases hnum
      have hz : a.length < s.size := by rw [hs, zx, hc]; simp
      have hb0 : bAt s (a.length : Nat) = (c.toNat : Int) := by rw [hs, hc, List.cons_append]; exact yD a c _
      rw [zbd hz hb0 (ne _ rfl) (ne _ rfl) (ne _ rfl), if_neg (ne _ rfl), if_neg (ne _ rfl), if_neg (ne _ rfl), hs]
      exact zgK a n u i1 i2 hu
    · rw [hb (by decide), hn (by decide), hns (by decide), his (by decide)] at hs ⊢
      rw [show (Nd.mk 3 false 0 t [] []).jb = jQ t by simp [Nd.jb]] at hs ⊢
      have hz : a.length < s.size := by rw [hs, zx]; simp [jQ]
      have hb0 : bAt s (a.length : Nat) = ((34 : UInt8).toNat : Int) := by rw [hs]; exact yD a 34 _
      rw [zbd hz hb0 (by decide) (by decide) (by decide), if_pos rfl, hs, jE]
    · rw [hb (by decide), hn (by decide), ht (by decide), hns (by decide)] at hs ⊢
      have e : (Nd.mk 4 false 0 eS [] is).jb = 91 :: (Nd.jbs true is ++ [93]) := by simp [Nd.jb]
      rw [e] at hs ⊢
      have hz : a.length < s.size := by rw [hs, zx]; simp
      have hb0 : bAt s (a.length : Nat) = ((91 : UInt8).toNat : Int) := by rw [hs]; exact yD a 91 _
      rw [zbd hz hb0 (by decide) (by decide) (by decide), if_neg (by decide), if_pos rfl]
      have hj : ∀ x ∈ is, ∃ c l, x.jb = c :: l ∧ c ≠ 93 ∧ c ≠ 44 := fun x hx => zkh x _ (h8 x hx)
      have hs1 : s = ofL ((a ++ [91]) ++ (Nd.jbs true is ++ 93 :: u)) := by rw [hs]; simp
      rw [show a.length + 1 = (a ++ [91]).length by simp]
      by_cases hnil : is = []
      · subst hnil
        have hb1 : bAt s (((a ++ [91]).length : Nat) : Int) = 93 := by rw [hs1]; exact yD (a ++ [91]) 93 _
        rw [xv, if_pos ⟨by rw [hs1, zx]; simp; omega, hb1, rfl⟩]
        simp [Nd.jbs]
        omega
      · rw [zhN s (y5 s d) is 258 [] [] (a ++ [91]) u hnil (by omega) (by simp; omega) (fun x hx => ⟨hj x hx, zai x d (h8 x hx) (i3 x hx) s⟩) hs1]
        simp <;> omega
    · rw [hb (by decide), hn (by decide), ht (by decide)] at hs ⊢
      have e : (Nd.mk 5 false 0 eS ns is).jb = 123 :: (Nd.jbm true ns is ++ [125]) := by simp [Nd.jb]
      have hl5 := (h7 rfl).2
      rw [e] at hs ⊢
      have hz : a.length < s.size := by rw [hs, zx]; simp
      have hb0 : bAt s (a.length : Nat) = ((123 : UInt8).toNat : Int) := by rw [hs]; exact yD a 123 _
      rw [zbd hz hb0 (by decide) (by decide) (by decide), if_neg (by decide), if_neg (by decide), if_pos rfl]
      have hs1 : s = ofL ((a ++ [123]) ++ (Nd.jbm true ns is ++ 125 :: u)) := by rw [hs]; simp
      rw [show a.length + 1 = (a ++ [123]).length by simp]
      by_cases hnil : is = []
      · subst hnil
        have : ns = [] := List.eq_nil_of_length_eq_zero (by simpa using hl5)
        subst this
        have hb1 : bAt s (((a ++ [123]).length : Nat) : Int) = 125 := by rw [hs1]; exact yD (a ++ [123]) 125 _
        rw [xv, if_pos ⟨by rw [hs1, zx]; simp; omega, hb1, rfl⟩]
        simp [Nd.jbm]
        omega
      · rw [zhf s (y5 s d) ns is 258 [] [] (a ++ [123]) u hnil hl5 (by omega) (by simp; omega) (fun x hx => zai x d (h8 x hx) (i3 x hx) s) hs1]
        simp <;> omega
termination_by x => SizeOf.sizeOf x
decreasing_by
  all_goals
    have := List.sizeOf_lt_of_mem hx
    simp only [Nd.mk.sizeOf_spec]
    omega
def LG (s : ByteArray) (p : Nat) (W : Int) (y : Nd × Int) : Prop := y.1.Ok ∧ -1 ≤ y.2 ∧ (y.2 ≠ -1 → (p : Int) < y.2 ∧ y.2 ≤ s.size ∧ (y.1.jb.length : Int) ≤ W + 21 * (y.2 - p) ∧ y.1.In)
theorem LG.fail (s : ByteArray) (p : Nat) (W : Int) : LG s p W (Nd.zero, -1) := ⟨xw, by decide, fun h => absurd rfl h⟩
theorem zdz (s : ByteArray) : ∀ (f : Nat) (out : List UInt8) (p : Nat), -1 ≤ (xT s f out p).2 ∧ ((xT s f out p).2 ≠ -1 → (p : Int) < (xT s f out p).2 ∧ (xT s f out p).2 ≤ s.size ∧ ((xT s f out p).1.size : Int) + p + 1 ≤ out.length + (xT s f out p).2)
  | 0, out, p => ⟨by simp [xT], fun h => absurd rfl h⟩
  | f + 1, out, p => by
    have fail : -1 ≤ ((eS, (-1 : Int)) : ByteArray × Int).2 := by decide
    rw [xT]
    split
    · exact ⟨fail, fun h => absurd rfl h⟩
    rename_i h1
    split
    · exact ⟨by simp only; omega, fun _ => ⟨by simp only; omega, by simp only; omega, by simp only [zx]; omega⟩⟩
    have step : ∀ (b : UInt8) (m : Nat), p < m → -1 ≤ (xT s f (out ++ [b]) m).2 ∧ ((xT s f (out ++ [b]) m).2 ≠ -1 → (p : Int) < (xT s f (out ++ [b]) m).2 ∧ (xT s f (out ++ [b]) m).2 ≤ s.size ∧ ((xT s f (out ++ [b]) m).1.size : Int) + p + 1 ≤ out.length + (xT s f (out ++ [b]) m).2) := fun b m hm => by
      obtain ⟨i1, i2⟩ := zdz s f (out ++ [b]) m
      refine ⟨i1, fun h => ?_⟩
      obtain ⟨j1, j2, j3⟩ := i2 h
      simp only [List.length_append, List.length_singleton] at j3
      exact ⟨by omega, j2, by omega⟩
    split
    · exact step _ _ (by omega)
    split
    · split
      · exact ⟨fail, fun h => absurd rfl h⟩
      · exact step _ _ (by omega)
    split
    · exact step _ _ (by omega)
    split
    · exact step _ _ (by omega)
    · exact ⟨fail, fun h => absurd rfl h⟩
theorem qn (s : ByteArray) (p : Nat) : -1 ≤ (zW s p).2 ∧ ((zW s p).2 ≠ -1 → (p : Int) < (zW s p).2 ∧ (zW s p).2 ≤ s.size ∧ ((zW s p).1.size : Int) + 2 + p ≤ (zW s p).2) := by
  obtain ⟨h1, h2⟩ := zdz s (s.size + 1) [] (p + 1)
  refine ⟨h1, fun h => ?_⟩
  obtain ⟨j1, j2, j3⟩ := h2 h
  simp only [List.length_nil] at j3
  unfold zW at *
  exact ⟨by omega, j2, by omega⟩
theorem zhA (s : ByteArray) (q : Nat) : (kC s q).length ≤ s.size - q := by
  unfold kC
  have h : ∀ (l : List UInt8), (l.takeWhile jm).length ≤ l.length := by
    intro l
    induction l with
    | nil => simp
    | cons c l ih =>
      rw [List.takeWhile_cons]
      split <;> simp <;> omega
  have := h (s.data.toList.drop q)
  rw [List.length_drop, Array.length_toList] at this
  exact this
theorem zl4 (n : Int) : (wV n).jb = Lib.itoa n := by simp [wV, Nd.jb]
theorem zgY (s : ByteArray) (p : Nat) : LG s p 0 (qE s p) := by
  have hd := zhA s (zcG s p)
  have hs : p ≤ zcG s p := by unfold zcG; split <;> omega
  unfold qE
  split
  · exact LG.fail ..
  rename_i h1
  split
  · exact LG.fail ..
  rename_i h2
  generalize kC s (zcG s p) = ds at *
  generalize zax ds 0 = v at *
  generalize zcG s p = q at *
  have hr : -9223372036854775808 ≤ (if bAt s (p : Nat) = 45 then -(v : Int) else v) ∧ (if bAt s (p : Nat) = 45 then -(v : Int) else v) ≤ 9223372036854775807 := by
    split <;> omega
  refine ⟨zcl _, by simp only; omega, fun _ => ⟨by simp only; omega, by simp only; omega, ?_, zb0 hr.1 hr.2⟩⟩
  simp only [zl4]
  have := (kj _ hr.1 hr.2).2
  omega
def jW (k : Int) (ns : List ByteArray) (is : List Nd) : Int := 2 + (if k = 5 then (Nd.jbm true ns is).length else (Nd.jbs true is).length : Nat)
theorem znQ (k : Int) (hk : k = 4 ∨ k = 5) (ns : List ByteArray) (is : List Nd) : ((Nd.mk k false 0 eS ns is).jb.length : Int) = jW k ns is := by
  rcases hk with rfl | rfl
  · simp [Nd.jb, jW]; omega
  · simp [Nd.jb, jW]; omega
theorem zcr (val : Nat → Nd × Int) (s : ByteArray) (k e : Int) (hk : k = 4 ∨ k = 5) (go : List Nd → Nat → Nd × Int) (ns : List ByteArray) (is : List Nd) (p : Nat) (W : Int)
    (hv : LG s p 0 (val p)) (hW : ∀ x : Nd, jW k ns (is ++ [x]) ≤ W + x.jb.length) (hok : ∀ x ∈ is, x.Ok) (hin : ∀ x ∈ is, x.In) (hl : is.length ≤ 1000) (hnl : ns.length ≤ 1000)
    (hg : ∀ x : Nd, x.Ok → x.In → is.length + 1 ≤ 256 → ∀ q : Nat, LG s q (jW k ns (is ++ [x])) (go (is ++ [x]) q)) : LG s p (W - 21) (zaz val s k e go ns is p) := by
  unfold zaz
  split
  · exact LG.fail ..
  rename_i h1
  obtain ⟨v1, v2, v3⟩ := hv
  obtain ⟨v4, v5, v6, v7⟩ := v3 (by omega)
  have key : ∀ {P : Nd → Prop}, (∀ x ∈ is, P x) → P (val p).1 → ∀ x ∈ is ++ [(val p).1], P x := fun h hy x hx => by
    rcases List.mem_append.1 hx with h' | h'
    · exact h x h'
    · rw [List.mem_singleton.1 h']; exact hy
  have hw := hW (val p).1
  split
  · refine ⟨.mk (by omega) (by simp; omega) (key hok v1), by simp only; omega, fun _ => ⟨by simp only; omega, by simp only; omega, ?_, .mk (by decide) (by decide) (key hin v7)⟩⟩
    simp only
    rw [znQ k hk]; omega
  rename_i h2
  split
  · exact LG.fail ..
  rename_i h3
  obtain ⟨g1, g2, g3⟩ := hg (val p).1 v1 v7 (by omega) ((val p).2.toNat + 1)
  refine ⟨g1, g2, fun h => ?_⟩
  obtain ⟨g4, g5, g6, g7⟩ := g3 h
  exact ⟨by omega, g5, by omega, g7⟩
theorem qm (val : Nat → Nd × Int) (s : ByteArray) (k e : Int) (hk : k = 4 ∨ k = 5) (hv : ∀ p, LG s p 0 (val p)) : ∀ (c : Nat) (ns : List ByteArray) (is : List Nd) (p : Nat), c ≤ 258 → is.length + c = 258 → (k = 5 → ns.length = is.length) → (k = 4 → ns = []) → (∀ x ∈ is, x.Ok) → (∀ x ∈ is, x.In) → LG s p (jW k ns is) (xv val s k e c ns is p)
  | 0, ns, is, p, _, _, _, _, _, _ => LG.fail ..
  | c + 1, ns, is, p, hc, hl, h5, h4, hok, hin => by
    have hnl : ns.length ≤ 1000 := by
      rcases hk with rfl | rfl
      · rw [h4 rfl]; simp
      · rw [h5 rfl]; omega
    have key : ∀ {P : Nd → Prop} {y : Nd}, (∀ x ∈ is, P x) → P y → ∀ x ∈ is ++ [y], P x := fun h hy x hx => by
      rcases List.mem_append.1 hx with h' | h'
      · exact h x h'
      · rw [List.mem_singleton.1 h']; exact hy
    rw [xv]
    split
    · rename_i hh
      refine ⟨.mk (by omega) (by omega) hok, by simp only; omega, fun _ => ⟨by simp only; omega, by simp only; omega, ?_, .mk (by decide) (by decide) hin⟩⟩
      simp only
      rw [znQ k hk]; omega
    split
    · rename_i hk5
      subst hk5
      split
      · exact LG.fail ..
      rename_i hq1
      split
      · exact LG.fail ..
      rename_i hq
      obtain ⟨q1, q2⟩ := qn s p
      obtain ⟨q3, q4, q5⟩ := q2 (by omega)
      have hlen := h5 rfl
      have := zcr val s 5 e hk (xv val s 5 e c (ns ++ [(zW s p).1])) (ns ++ [(zW s p).1]) is ((zW s p).2.toNat + 1) (jW 5 ns is + (jQ (zW s p).1).length + 2) (hv _) (fun x => by
        unfold jW
        rw [if_pos rfl, if_pos rfl, zbb true ns is _ x hlen]
        simp only [List.length_append, List.length_cons]
        split <;> simp <;> omega) hok hin (by omega) (by simp; omega) (fun x ox ix h256 q => qm val s 5 e hk hv c _ _ q (by omega) (by simp; omega) (fun _ => by simp [hlen]) (fun h => by omega) (key hok ox) (key hin ix))
      obtain ⟨g1, g2, g3⟩ := this
      refine ⟨g1, g2, fun h => ?_⟩
      obtain ⟨g4, g5, g6, g7⟩ := g3 h
      have hj := (zaH (zW s p).1).2
      exact ⟨by omega, g5, by omega, g7⟩
    · rename_i hk5
      have hk4 : k = 4 := by omega
      subst hk4
      have hns := h4 rfl
      have := zcr val s 4 e hk (xv val s 4 e c ns) ns is p (jW 4 ns is + 1) (hv _) (fun x => by
        unfold jW
        rw [if_neg (by decide), if_neg (by decide), zbk]
        simp only [List.length_append]
        split <;> simp <;> omega) hok hin (by omega) hnl (fun x ox ix h256 q => qm val s 4 e hk hv c _ _ q (by omega) (by simp; omega) (fun h => by omega) (fun _ => hns) (key hok ox) (key hin ix))
      obtain ⟨g1, g2, g3⟩ := this
      refine ⟨g1, g2, fun h => ?_⟩
      obtain ⟨g4, g5, g6, g7⟩ := g3 h
      exact ⟨by omega, g5, by omega, g7⟩
theorem zer {s : ByteArray} {p : Nat} {t : ByteArray} (h : kZ s p t = true) : (p : Int) + t.size ≤ s.size := by
  unfold kZ at h
  simp only [Bool.and_eq_true, decide_eq_true_eq] at h
  omega
theorem kp (s : ByteArray) : ∀ (d p : Nat), LG s p 0 (y5 s d p)
  | 0, p => LG.fail ..
  | d + 1, p => by
    have ih := kp s d
    rw [y5]
    split
    · exact LG.fail ..
    rename_i h0
    split
    · rename_i h
      have := zer h
      have hz : vA.size = 4 := rfl
      refine ⟨xw, by simp only; omega, fun _ => ⟨by simp only; omega, by simp only; omega, ?_, kX⟩⟩
      simp [Nd.zero, Nd.jb, kE]; omega
    split
    · rename_i h
      have := zer h
      have hz : qo.size = 4 := rfl
      refine ⟨.mk (by simp) (by simp) (by simp), by simp only; omega, fun _ => ⟨by simp only; omega, by simp only; omega, ?_, .mk (by decide) (by decide) (by simp)⟩⟩
      simp [Nd.jb, w7]; omega
    split
    · rename_i h
      have := zer h
      have hz : wO.size = 5 := rfl
      refine ⟨.mk (by simp) (by simp) (by simp), by simp only; omega, fun _ => ⟨by simp only; omega, by simp only; omega, ?_, .mk (by decide) (by decide) (by simp)⟩⟩
      simp [Nd.jb, xm]; omega
    split
    · obtain ⟨q1, q2⟩ := qn s p
      refine ⟨.mk (by simp) (by simp) (by simp), q1, fun h => ?_⟩
      obtain ⟨q3, q4, q5⟩ := q2 h
      refine ⟨q3, q4, ?_, .mk (by decide) (by decide) (by simp)⟩
      rw [show (Nd.mk 3 false 0 (zW s p).1 [] []).jb = jQ (zW s p).1 by simp [Nd.jb]]
      have := (zaH (zW s p).1).2
      simp only
      omega
    split
    · obtain ⟨g1, g2, g3⟩ := qm (y5 s d) s 4 93 (.inl rfl) ih 258 [] [] (p + 1) (by omega) (by simp) (fun h => by omega) (fun _ => rfl) (by simp) (by simp)
      refine ⟨g1, g2, fun h => ?_⟩
      obtain ⟨g4, g5, g6, g7⟩ := g3 h
      have hw : jW 4 [] [] = 2 := by simp [jW, Nd.jbs]
      exact ⟨by omega, g5, by omega, g7⟩
    split
    · obtain ⟨g1, g2, g3⟩ := qm (y5 s d) s 5 125 (.inr rfl) ih 258 [] [] (p + 1) (by omega) (by simp) (fun _ => rfl) (fun h => by omega) (by simp) (by simp)
      refine ⟨g1, g2, fun h => ?_⟩
      obtain ⟨g4, g5, g6, g7⟩ := g3 h
      have hw : jW 5 [] [] = 2 := by simp [jW, Nd.jbm]
      exact ⟨by omega, g5, by omega, g7⟩
    · exact zgY s p
def zm0 (V : ByteArray → Bool) (s : ByteArray) : Nd × Int :=
  if 65536 < s.size then (Nd.zero, 4)
  else if (y5 s 8 0).2 = s.size ∧ (y5 s 8 0).1.validB V 8 = true ∧ ofL (y5 s 8 0).1.jb = s then ((y5 s 8 0).1, 0) else (Nd.zero, 4)
theorem zl3 (V : ByteArray → Bool) (s : ByteArray) : zm0 V s = kH jsC V s := by
  unfold zm0
  by_cases hg : zcQ jsC V s
  · obtain ⟨x, h1, h2, h3, h4⟩ := zbj.1 hg
    have hD : kH jsC V s = (x, 0) := by rw [h4]; exact zbC h1 h2 h3
    have h3' : x.jb.length ≤ 65536 := h3
    have h4' : s = ofL x.jb := h4
    have hz : s.size = x.jb.length := by rw [h4', zx]
    have hr := zai x 8 h1 h2 s [] [] (by simp [vV]) (by rw [h4']; simp)
    simp only [List.nil_append, List.length_nil] at hr
    rw [hD, if_neg (by omega), hr]
    simp only
    rw [if_pos ⟨by rw [hz], h1, h4'.symm⟩]
  · rw [zfz hg]
    split
    · rfl
    · rename_i hs
      rw [if_neg]
      rintro ⟨h1, h2, h3⟩
      obtain ⟨g1, g2, g3⟩ := kp s 8 0
      obtain ⟨_, _, g5, g6⟩ := g3 (by omega)
      have hz : s.size = (y5 s 8 0).1.jb.length := by rw [← h3, zx, h3]
      have g5' : (jsC.E (y5 s 8 0).1).length ≤ 65536 := by
        show (y5 s 8 0).1.jb.length ≤ 65536
        omega
      exact hg (zbj.2 ⟨_, h2, g6, g5', h3.symm⟩)
end Go.AL
namespace Go.AL
open Go Go.Proofs Go.RowKit
set_option maxHeartbeats 2000000 in
theorem jS (s : ByteArray) (p : Nat) (t : ByteArray) (hs : s.size ≤ 1000000000) (hp : p ≤ 1000000000) (ht : t.size ≤ 1000) : Spec Tryz.prog 178 [.t (.str s), .t (.int .i64 (p : Int)), .t (.str t)] [] (.t (.bool (kZ s p t))) [] := by
  unfold kZ
  have w1 : IntKind.i64.wrap ((s.size : Int) - (p : Int)) = (s.size : Int) - p := zr (by omega) (by omega)
  have w2 : IntKind.i64.wrap ((p : Int) + (t.size : Int)) = ((p + t.size : Nat) : Int) := by rw [zr (by omega) (by omega)]; omega
  by_cases h : (t.size : Int) ≤ (s.size : Int) - p
  · rw [decide_eq_true h, Bool.true_and]
    refine wI Tryz.func178 ?_
    repeat' (first | refine wC ?_ | (exfalso; omega) | refine wK ?_ | ((with_reducible refine vB ?_); refine yx rfl rfl ⟨_, rfl⟩ ⟨_, rfl⟩ rfl rfl rfl ?_ ?_ ?_ ?_) | refine zj rfl ?_ ?_ <;> intro hc)
    all_goals try (rw [w2]; omega)
    all_goals try omega
    all_goals exact zp (zo rfl rfl (by rw [w2]; rfl)) (by simp)
  · rw [decide_eq_false h, Bool.false_and]
    refine wI Tryz.func178 ?_
    repeat' (first | refine wC ?_ | (exfalso; omega) | refine wK ?_ | refine zj rfl ?_ ?_ <;> intro hc)
    all_goals try (rw [w2]; omega)
    all_goals try omega
    all_goals exact zp (zo rfl rfl rfl) (by simp)
theorem zoE (i : Fin 16) (a : Fin 256) : (bAt ⟨#[48, 49, 50, 51, 52, 53, 54, 55, 56, 57, 97, 98, 99, 100, 101, 102]⟩ (i.val : Int) = (a.val : Int)) ↔ qF (a.val : Int) = (i.val : Int) := by
  revert i a; decide +kernel
theorem vP (a : Int) : -1 ≤ qF a ∧ qF a < 16 := by
  unfold qF; repeat' split
  all_goals omega
def ziC (a : Int) (i : Nat) : Int := if qF a < i then qF a else -1
theorem zfa (a : Int) (i : Nat) : ziC a (i + 1) = if qF a = i then (i : Int) else ziC a i := by
  have := vP a
  unfold ziC
  repeat' split
  all_goals omega
set_option maxHeartbeats 4000000 in
theorem zjp (a b : Int) (ha : 0 ≤ a ∧ a < 256) (hb : 0 ≤ b ∧ b < 256) : Spec Tryz.prog 251 [.t (.int .u8 a), .t (.int .u8 b)] [] (.tup [.t (.int .u8 (IntKind.u8.wrap (16 * qF a + qF b))), .t (.bool (decide (0 ≤ qF a) && decide (0 ≤ qF b)))]) [] := by
  have ra := vP a
  have rb := vP b
  obtain ⟨na, hna⟩ : ∃ na : Nat, (na : Int) = a := ⟨a.toNat, by omega⟩
  obtain ⟨nb, hnb⟩ : ∃ nb : Nat, (nb : Int) = b := ⟨b.toNat, by omega⟩
  refine wI Tryz.func251 ?_
  repeat' (first | refine wC ?_ | refine wK ?_ | fail)
  refine zl (za [0, 1, 6, 7, 9] [] rfl rfl) ?_
  refine zz (fun p env st => ∃ (i : Nat), i ≤ 16 ∧ p = 16 - i ∧
      env = EnvL.get [(0, .t (.int .u8 a)), (1, .t (.int .u8 b)), (6, .t (.int .i64 (ziC a i))), (7, .t (.int .i64 (ziC b i))), (9, .t (.int .i64 (i : Int)))] ∧ st = StO.get [])
    ?_ (n := 16) ⟨0, by omega, rfl, by rw [show ziC a 0 = -1 by unfold ziC; split <;> omega, show ziC b 0 = -1 by unfold ziC; split <;> omega]; rfl, rfl⟩
  rintro p env st ⟨i, hi, rfl, rfl, rfl⟩
  by_cases hlt : i < 16
  · have ea := zoE ⟨i, hlt⟩ ⟨na, by omega⟩
    have eb := zoE ⟨i, hlt⟩ ⟨nb, by omega⟩
    simp only [hna, hnb] at ea eb
    have sa := zfa a i
    have sb := zfa b i
    have wi : IntKind.i64.wrap ((i : Int) + 1) = ((i + 1 : Nat) : Int) := by rw [zr (by omega) (by omega)]; omega
    by_cases h1 : qF a = i <;> by_cases h2 : qF b = i
    · rw [if_pos h1] at sa
      rw [if_pos h2] at sb
      have e1 := ea.2 h1
      have e2 := eb.2 h2
      repeat' (first | refine wC ?_ | (exfalso; omega) | refine wK ?_ | ((with_reducible refine zy ?_); refine zf rfl rfl rfl rfl rfl rfl ?_ ?_ ?_) | refine zd rfl ?_ ?_ <;> intro hc)
      all_goals try (show (i : Int) < 16; omega)
      all_goals try omega
      exact zI (n' := 16 - (i + 1)) (by omega) (za [0, 1, 6, 7, 9] [] rfl rfl) ⟨i + 1, by omega, rfl, by rw [sa, sb, wi]; rfl, rfl⟩
    · rw [if_pos h1] at sa
      rw [if_neg h2] at sb
      have e1 := ea.2 h1
      have e2 : ¬ _ := fun h => h2 (eb.1 h)
      repeat' (first | refine wC ?_ | (exfalso; omega) | refine wK ?_ | ((with_reducible refine zy ?_); refine zf rfl rfl rfl rfl rfl rfl ?_ ?_ ?_) | refine zd rfl ?_ ?_ <;> intro hc)
      all_goals try (show (i : Int) < 16; omega)
      all_goals try omega
      exact zI (n' := 16 - (i + 1)) (by omega) (za [0, 1, 6, 7, 9] [] rfl rfl) ⟨i + 1, by omega, rfl, by rw [sa, sb, wi]; rfl, rfl⟩
    · rw [if_neg h1] at sa
      rw [if_pos h2] at sb
      have e1 : ¬ _ := fun h => h1 (ea.1 h)
      have e2 := eb.2 h2
      repeat' (first | refine wC ?_ | (exfalso; omega) | refine wK ?_ | ((with_reducible refine zy ?_); refine zf rfl rfl rfl rfl rfl rfl ?_ ?_ ?_) | refine zd rfl ?_ ?_ <;> intro hc)
      all_goals try (show (i : Int) < 16; omega)
      all_goals try omega
      exact zI (n' := 16 - (i + 1)) (by omega) (za [0, 1, 6, 7, 9] [] rfl rfl) ⟨i + 1, by omega, rfl, by rw [sa, sb, wi]; rfl, rfl⟩
    · rw [if_neg h1] at sa
      rw [if_neg h2] at sb
      have e1 : ¬ _ := fun h => h1 (ea.1 h)
      have e2 : ¬ _ := fun h => h2 (eb.1 h)
      repeat' (first | refine wC ?_ | (exfalso; omega) | refine wK ?_ | ((with_reducible refine zy ?_); refine zf rfl rfl rfl rfl rfl rfl ?_ ?_ ?_) | refine zd rfl ?_ ?_ <;> intro hc)
      all_goals try (show (i : Int) < 16; omega)
      all_goals try omega
      exact zI (n' := 16 - (i + 1)) (by omega) (za [0, 1, 6, 7, 9] [] rfl rfl) ⟨i + 1, by omega, rfl, by rw [sa, sb, wi]; rfl, rfl⟩
  · obtain rfl : i = 16 := by omega
    have e1 : ziC a 16 = qF a := by unfold ziC; rw [if_pos (by omega)]
    have e2 : ziC b 16 = qF b := by unfold ziC; rw [if_pos (by omega)]
    rw [e1, e2]
    generalize qF a = x at *
    generalize qF b = y at *
    have w : IntKind.i64.wrap (IntKind.i64.wrap (16 * x) + y) = 16 * x + y := by rw [zr (n := 16 * x) (by omega) (by omega), zr (by omega) (by omega)]
    repeat' (first | refine wC ?_ | refine wK ?_ | refine zj rfl ?_ ?_ <;> intro hc)
    all_goals try omega
    all_goals exact zp (zD rfl rfl rfl (by rw [w]) (by first | (simp; intros; omega) | (simp; omega) | (simp_all; done))) (by simp)
theorem zoK (i : Fin 6) (a : Fin 256) : (bAt ⟨#[98, 116, 110, 63, 102, 114]⟩ (i.val : Int) = (a.val : Int) ∧ i.val ≠ 3) ↔ zeJ (a.val : Int) = 8 + (i.val : Int) := by
  revert i a; decide +kernel
theorem zdP (a : Int) : zeJ a = -1 ∨ (8 ≤ zeJ a ∧ zeJ a ≤ 13) := by
  unfold zeJ; repeat' split
  all_goals omega
def zg2 (a : Int) (i : Nat) : Int := if zeJ a < 8 + i then zeJ a else -1
theorem zeX (a : Int) (i : Nat) : zg2 a (i + 1) = if zeJ a = 8 + i then 8 + (i : Int) else zg2 a i := by
  have := zdP a
  unfold zg2
  repeat' split
  all_goals omega
theorem zkA (s : ByteArray) (f : Nat) (out : List UInt8) (p : Nat) (h : s.size ≤ p) : xT s f out p = (eS, -1) := by
  cases f with
  | zero => rfl
  | succ f => rw [xT, if_pos h]
set_option maxHeartbeats 16000000 in
theorem zaG (s : ByteArray) (p : Nat) (hs : s.size ≤ 1000000) (hp : p ≤ 1000000) : Spec Tryz.prog 179 [.t (.str s), .t (.int .i64 (p : Int))] [] (.tup [.t (.str (zW s p).1), .t (.int .i64 (zW s p).2)]) [] := by
  obtain ⟨res, hres⟩ : ∃ res, res = zW s p := ⟨_, rfl⟩
  rw [← hres]
  unfold zW at hres
  have wp : IntKind.i64.wrap ((p : Int) + 1) = ((p + 1 : Nat) : Int) := by rw [zr (by omega) (by omega)]; omega
  refine wIG Tryz.func179 ?_
  repeat' (first | refine wC ?_ | refine wK ?_ | fail)
  refine zl (kz 6 (.loc 1000) 5 1 rfl rfl rfl) ?_
  rw [wp]
  refine zl (za [0, 1, 6] [.loc 1000] rfl rfl) ?_
  refine zz (fun m env st => ∃ (out : List UInt8) (q : Nat), q ≤ 1000010 ∧ s.size + 2 ≤ m + q ∧ out.length ≤ q ∧ res = xT s m out q ∧
      env = EnvL.get [(0, .t (.str s)), (1, .t (.int .i64 (q : Int))), (6, .row (.loc 1000))] ∧
      st = StO.get [(.loc 1000, some (.slt 5 1 (u8L out)))])
    ?_ (n := s.size + 1) ⟨[], p + 1, by omega, by omega, by simp, hres, rfl, rfl⟩
  rintro m env st ⟨out, q, hq, hm, hol, hi, rfl, rfl⟩
  clear hres wp
  by_cases hlt : q < s.size
  · obtain ⟨m, rfl⟩ : ∃ k, m = k + 1 := ⟨m - 1, by omega⟩
    have W1 : IntKind.i64.wrap ((q : Int) + 1) = ((q + 1 : Nat) : Int) := by rw [zr (by omega) (by omega)]; omega
    have W2 : IntKind.i64.wrap (IntKind.i64.wrap ((q : Int) + 1) + 1) = ((q + 2 : Nat) : Int) := by rw [W1, zr (by omega) (by omega)]; omega
    have W4 : IntKind.i64.wrap (IntKind.i64.wrap ((q : Int) + 1) + 3) = ((q + 4 : Nat) : Int) := by rw [W1, zr (by omega) (by omega)]; omega
    have W5 : IntKind.i64.wrap (IntKind.i64.wrap ((q : Int) + 1) + 4) = ((q + 5 : Nat) : Int) := by rw [W1, zr (by omega) (by omega)]; omega
    have W6 : IntKind.i64.wrap (IntKind.i64.wrap (IntKind.i64.wrap ((q : Int) + 1) + 4) + 1) = ((q + 6 : Nat) : Int) := by rw [W5, zr (by omega) (by omega)]; omega
    have r0 := xj s (q : Nat)
    rw [xT, if_neg (by omega)] at hi
    by_cases h34 : bAt s (q : Nat) = 34
    · rw [if_pos h34] at hi
      repeat' (first | refine wC ?_ | (exfalso; omega) | refine wK ?_ | ((with_reducible refine zy ?_); refine zf rfl rfl rfl rfl rfl rfl ?_ ?_ ?_) | ((with_reducible refine yJ ?_); refine z6 rfl rfl rfl rfl rfl rfl ?_ ?_) | refine zd rfl ?_ ?_ <;> intro hc)
      all_goals try omega
      all_goals try exact vt _
      all_goals exact zL (zp (zD rfl rfl rfl (by rw [hi, xU]) (by rw [hi, W1]; simp)) (by simp))
    rw [if_neg h34] at hi
    by_cases h92 : bAt s (q : Nat) = 92
    · rw [if_neg (fun h => h h92)] at hi
      have hH := jS s (q + 1) uS (by omega) (by omega) (by decide)
      have hle : kZ s (q + 1) uS = true → q + 4 ≤ s.size := fun h => by
        have h1 := zer h
        have h2 : uS.size = 3 := rfl
        omega
      generalize kZ s (q + 1) uS = hu at *
      rw [← W1] at hH
      rw [← W4, ← W5] at hi
      rw [← W1] at hi
      obtain ⟨A1, hA1⟩ : ∃ A1, A1 = IntKind.i64.wrap ((q : Int) + 1) := ⟨_, rfl⟩
      obtain ⟨A4, hA4⟩ : ∃ A4, A4 = IntKind.i64.wrap (IntKind.i64.wrap ((q : Int) + 1) + 3) := ⟨_, rfl⟩
      obtain ⟨A5, hA5⟩ : ∃ A5, A5 = IntKind.i64.wrap (IntKind.i64.wrap ((q : Int) + 1) + 4) := ⟨_, rfl⟩
      have r1 := xj s A1
      have r4 := xj s A4
      have r5 := xj s A5
      have d1 := zdP (bAt s A1)
      have d4 := vP (bAt s A4)
      have d5 := vP (bAt s A5)
      have hX := zjp (bAt s A4) (bAt s A5) r4 r5
      have hL := fun (i : Nat) (hi : i < 6) => zoK ⟨i, hi⟩ ⟨(bAt s A1).toNat, by omega⟩
      simp only [Int.toNat_of_nonneg r1.1] at hL
      rw [← hA4, ← hA5, ← hA1] at hi
      by_cases hux : hu = true ∧ q + 5 < s.size
      · rw [if_pos hux] at hi
        obtain ⟨rfl, h5⟩ := hux
        have h16 : qF (bAt s A4) ≥ 0 → qF (bAt s A5) ≥ 0 → IntKind.u8.wrap (16 * qF (bAt s A4) + qF (bAt s A5)) = 16 * qF (bAt s A4) + qF (bAt s A5) := fun a b => xo (by omega) (by omega)
        by_cases hbad : qF (bAt s A4) < 0 ∨ qF (bAt s A5) < 0
        · rw [if_pos hbad] at hi
          have eb : (decide (0 ≤ qF (bAt s A4)) && decide (0 ≤ qF (bAt s A5))) = false := by simp; omega
          rw [eb] at hX
          rw [hi]
          clear h16 hL
          subst hA4 hA5
          repeat' (first | refine wC ?_ | (exfalso; omega) | refine wK ?_ | ((with_reducible refine zy ?_); refine zf rfl rfl rfl rfl rfl rfl ?_ ?_ ?_) | ((with_reducible refine ze ?_); first | refine wL hH ?_ | refine wL hX ?_) | refine zd rfl ?_ ?_ <;> intro hc | refine zS rfl ?_ ?_ <;> intro hc)
          all_goals try omega
          all_goals exact zL (zp (zD rfl rfl rfl rfl rfl) (by simp))
        · rw [if_neg hbad] at hi
          have eb : (decide (0 ≤ qF (bAt s A4)) && decide (0 ≤ qF (bAt s A5))) = true := by simp; omega
          rw [eb, h16 (by omega) (by omega)] at hX
          clear h16 hL
          generalize hv : 16 * qF (bAt s A4) + qF (bAt s A5) = v at hi hX
          have rv : 0 ≤ v ∧ v < 256 := by omega
          clear hv hbad eb
          subst hA4 hA5
          repeat' (first | refine wC ?_ | (exfalso; omega) | refine wK ?_ | ((with_reducible refine zy ?_); refine zf rfl rfl rfl rfl rfl rfl ?_ ?_ ?_) | ((with_reducible refine zw ?_); refine zh rfl rfl rfl rfl rfl rfl rfl rfl rfl rfl ?_ ?_ ?_) | ((with_reducible refine ze ?_); first | refine wL hH ?_ | refine wL hX ?_) | refine zd rfl ?_ ?_ <;> intro hc | refine zS rfl ?_ ?_ <;> intro hc)
          all_goals try (simp only [zZ, List.length_singleton]; omega)
          all_goals try omega
          all_goals exact zI (n' := m) (by omega) ((za [0, 1, 6] [.loc 96] rfl rfl).trans (zg (.loc 96) (.loc 1000) rfl rfl rfl rfl)) ⟨_, q + 6, by omega, by omega, by simp; omega, hi, by rw [W6]; rfl, by rw [← wF out _ rv.1 rv.2]; rfl⟩
      · rw [if_neg hux] at hi
        clear hX d4 d5 r4 r5
        by_cases hq : q + 1 < s.size ∧ (bAt s A1 = 34 ∨ bAt s A1 = 92)
        · rw [if_pos hq] at hi
          clear hL
          subst hA1
          cases hu with
          | true =>
            have h5 : ¬ q + 5 < s.size := fun h => hux ⟨rfl, h⟩
            repeat' (first | refine wC ?_ | (exfalso; omega) | refine wK ?_ | ((with_reducible refine zy ?_); refine zf rfl rfl rfl rfl rfl rfl ?_ ?_ ?_) | ((with_reducible refine zw ?_); refine zh rfl rfl rfl rfl rfl rfl rfl rfl rfl rfl ?_ ?_ ?_) | ((with_reducible refine ze ?_); refine wL hH ?_) | refine zd rfl ?_ ?_ <;> intro hc | refine zS rfl ?_ ?_ <;> intro hc | refine zj rfl ?_ ?_ <;> intro hc)
            all_goals try (simp only [zZ, List.length_singleton]; omega)
            all_goals try omega
            all_goals exact zI (n' := m) (by omega) ((za [0, 1, 6] [.loc 121] rfl rfl).trans (zg (.loc 121) (.loc 1000) rfl rfl rfl rfl)) ⟨_, q + 2, by omega, by omega, by simp; omega, hi, by rw [W2]; rfl, by rw [← wF out _ r1.1 r1.2]; rfl⟩
          | false =>
            repeat' (first | refine wC ?_ | (exfalso; omega) | refine wK ?_ | ((with_reducible refine zy ?_); refine zf rfl rfl rfl rfl rfl rfl ?_ ?_ ?_) | ((with_reducible refine zw ?_); refine zh rfl rfl rfl rfl rfl rfl rfl rfl rfl rfl ?_ ?_ ?_) | ((with_reducible refine ze ?_); refine wL hH ?_) | refine zd rfl ?_ ?_ <;> intro hc | refine zS rfl ?_ ?_ <;> intro hc | refine zj rfl ?_ ?_ <;> intro hc)
            all_goals try (simp only [zZ, List.length_singleton]; omega)
            all_goals try omega
            all_goals exact zI (n' := m) (by omega) ((za [0, 1, 6] [.loc 121] rfl rfl).trans (zg (.loc 121) (.loc 1000) rfl rfl rfl rfl)) ⟨_, q + 2, by omega, by omega, by simp; omega, hi, by rw [W2]; rfl, by rw [← wF out _ r1.1 r1.2]; rfl⟩
        · rw [if_neg hq] at hi
          subst hA1
          cases hu with
          | true =>
            have h5 : ¬ q + 5 < s.size := fun h => hux ⟨rfl, h⟩
            repeat' (first | refine wC ?_ | (exfalso; omega) | refine wK ?_ | ((with_reducible refine zy ?_); refine zf rfl rfl rfl rfl rfl rfl ?_ ?_ ?_) | ((with_reducible refine ze ?_); refine wL hH ?_) | refine zd rfl ?_ ?_ <;> intro hc | refine zS rfl ?_ ?_ <;> intro hc | refine zj rfl ?_ ?_ <;> intro hc)
            all_goals try omega
            all_goals
              refine zl (za [0, 1, 6, 10, 39] [.loc 1000] rfl rfl) ?_
              refine zz (fun p env st => ∃ (i : Nat), i ≤ 6 ∧ p = 6 - i ∧
                  env = EnvL.get [(0, .t (.str s)), (1, .t (.int .i64 (IntKind.i64.wrap ((q : Int) + 1)))), (6, .row (.loc 1000)), (10, .t (.int .i64 (if q + 1 < s.size then zg2 (bAt s (IntKind.i64.wrap ((q : Int) + 1))) i else -1))), (39, .t (.int .i64 (i : Int)))] ∧ st = StO.get [(.loc 1000, some (.slt 5 1 (u8L out)))])
                ?_ (n := 6) ⟨0, by omega, rfl, by rw [show (if q + 1 < s.size then zg2 (bAt s (IntKind.i64.wrap ((q : Int) + 1))) 0 else -1) = -1 by unfold zg2; repeat' split; all_goals omega]; rfl, rfl⟩
              rintro p env st ⟨i, hi6, rfl, rfl, rfl⟩
              by_cases hlt6 : i < 6
              · have wi : IntKind.i64.wrap ((i : Int) + 1) = ((i + 1 : Nat) : Int) := by rw [zr (by omega) (by omega)]; omega
                have w8 : IntKind.i64.wrap (8 + (i : Int)) = 8 + (i : Int) := zr (by omega) (by omega)
                by_cases hs1 : q + 1 < s.size
                · have hLi := hL i hlt6
                  have hsu := zeX (bAt s (IntKind.i64.wrap ((q : Int) + 1))) i
                  rw [if_pos hs1]
                  generalize zg2 (bAt s (IntKind.i64.wrap ((q : Int) + 1))) i = du at *
                  by_cases hm : zeJ (bAt s (IntKind.i64.wrap ((q : Int) + 1))) = 8 + (i : Int)
                  · rw [if_pos hm] at hsu
                    obtain ⟨e1, e2⟩ := hLi.2 hm
                    have e1' := e1.symm
                    clear hLi hm hL e1
                    repeat' (first | refine wC ?_ | (exfalso; omega) | refine wK ?_ | ((with_reducible refine zy ?_); refine zf rfl rfl rfl rfl rfl rfl ?_ ?_ ?_) | refine zd rfl ?_ ?_ <;> intro hc | refine zS rfl ?_ ?_ <;> intro hc | refine zj rfl ?_ ?_ <;> intro hc)
                    all_goals try (show (i : Int) < 6; omega)
                    all_goals try omega
                    all_goals exact zI (n' := 6 - (i + 1)) (by omega) (za [0, 1, 6, 10, 39] [.loc 1000] rfl rfl) ⟨i + 1, by omega, rfl, by rw [if_pos hs1, hsu, wi, w8]; rfl, rfl⟩
                  · rw [if_neg hm] at hsu
                    have e1 : ¬ (bAt ⟨#[98, 116, 110, 63, 102, 114]⟩ (i : Int) = bAt s (IntKind.i64.wrap ((q : Int) + 1)) ∧ i ≠ 3) := fun h => hm (hLi.1 h)
                    have e1' : ¬ (i = 3) → ¬ (bAt s (IntKind.i64.wrap ((q : Int) + 1)) = bAt ⟨#[98, 116, 110, 63, 102, 114]⟩ (i : Int)) := fun h h2 => e1 ⟨h2.symm, h⟩
                    clear hLi hm hL e1
                    repeat' (first | refine wC ?_ | (exfalso; omega) | refine wK ?_ | ((with_reducible refine zy ?_); refine zf rfl rfl rfl rfl rfl rfl ?_ ?_ ?_) | refine zd rfl ?_ ?_ <;> intro hc | refine zS rfl ?_ ?_ <;> intro hc | refine zj rfl ?_ ?_ <;> intro hc)
                    all_goals try (show (i : Int) < 6; omega)
                    all_goals try (exact absurd ‹_› (e1' (by omega)))
                    all_goals try omega
                    all_goals exact zI (n' := 6 - (i + 1)) (by omega) (za [0, 1, 6, 10, 39] [.loc 1000] rfl rfl) ⟨i + 1, by omega, rfl, by rw [if_pos hs1, hsu, wi]; rfl, rfl⟩
                · rw [if_neg hs1]
                  clear hL
                  repeat' (first | refine wC ?_ | (exfalso; omega) | refine wK ?_ | refine zd rfl ?_ ?_ <;> intro hc | refine zj rfl ?_ ?_ <;> intro hc)
                  all_goals try omega
                  all_goals exact zI (n' := 6 - (i + 1)) (by omega) (za [0, 1, 6, 10, 39] [.loc 1000] rfl rfl) ⟨i + 1, by omega, rfl, by rw [if_neg hs1, wi]; rfl, rfl⟩
              · obtain rfl : i = 6 := by omega
                clear hL
                by_cases hs1 : q + 1 < s.size
                · rw [if_pos hs1, show zg2 (bAt s (IntKind.i64.wrap ((q : Int) + 1))) 6 = zeJ (bAt s (IntKind.i64.wrap ((q : Int) + 1))) by unfold zg2; rw [if_pos (by omega)]]
                  generalize zeJ (bAt s (IntKind.i64.wrap ((q : Int) + 1))) = dd at *
                  by_cases hdd : 0 ≤ dd
                  · rw [if_pos ⟨hs1, hdd⟩] at hi
                    have wd : IntKind.u8.wrap dd = dd := xo (by omega) (by omega)
                    repeat' (first | refine wC ?_ | (exfalso; omega) | refine wK ?_ | ((with_reducible refine zw ?_); refine zh rfl rfl rfl rfl rfl rfl rfl rfl rfl rfl ?_ ?_ ?_) | refine zd rfl ?_ ?_ <;> intro hc)
                    all_goals try (simp only [zZ, List.length_singleton]; omega)
                    all_goals try omega
                    all_goals exact zI (n' := m) (by omega) ((za [0, 1, 6] [.loc 67] rfl rfl).trans (zg (.loc 67) (.loc 1000) rfl rfl rfl rfl)) ⟨_, q + 2, by omega, by omega, by simp; omega, hi, by rw [W2]; rfl, by rw [← wF out _ (by omega) (by omega), wd]; rfl⟩
                  · rw [if_neg (fun h => hdd h.2)] at hi
                    rw [hi]
                    repeat' (first | refine wC ?_ | (exfalso; omega) | refine wK ?_ | refine zd rfl ?_ ?_ <;> intro hc)
                    all_goals try omega
                    all_goals exact zL (zp (zD rfl rfl rfl rfl rfl) (by simp))
                · rw [if_neg hs1]
                  rw [if_neg (fun h => hs1 h.1)] at hi
                  rw [hi]
                  repeat' (first | refine wC ?_ | (exfalso; omega) | refine wK ?_ | fail)
                  all_goals try omega
                  all_goals exact zL (zp (zD rfl rfl rfl rfl rfl) (by simp))
          | false =>
            repeat' (first | refine wC ?_ | (exfalso; omega) | refine wK ?_ | ((with_reducible refine zy ?_); refine zf rfl rfl rfl rfl rfl rfl ?_ ?_ ?_) | ((with_reducible refine ze ?_); refine wL hH ?_) | refine zd rfl ?_ ?_ <;> intro hc | refine zS rfl ?_ ?_ <;> intro hc | refine zj rfl ?_ ?_ <;> intro hc)
            all_goals try omega
            all_goals
              refine zl (za [0, 1, 6, 10, 39] [.loc 1000] rfl rfl) ?_
              refine zz (fun p env st => ∃ (i : Nat), i ≤ 6 ∧ p = 6 - i ∧
                  env = EnvL.get [(0, .t (.str s)), (1, .t (.int .i64 (IntKind.i64.wrap ((q : Int) + 1)))), (6, .row (.loc 1000)), (10, .t (.int .i64 (if q + 1 < s.size then zg2 (bAt s (IntKind.i64.wrap ((q : Int) + 1))) i else -1))), (39, .t (.int .i64 (i : Int)))] ∧ st = StO.get [(.loc 1000, some (.slt 5 1 (u8L out)))])
                ?_ (n := 6) ⟨0, by omega, rfl, by rw [show (if q + 1 < s.size then zg2 (bAt s (IntKind.i64.wrap ((q : Int) + 1))) 0 else -1) = -1 by unfold zg2; repeat' split; all_goals omega]; rfl, rfl⟩
              rintro p env st ⟨i, hi6, rfl, rfl, rfl⟩
              by_cases hlt6 : i < 6
              · have wi : IntKind.i64.wrap ((i : Int) + 1) = ((i + 1 : Nat) : Int) := by rw [zr (by omega) (by omega)]; omega
                have w8 : IntKind.i64.wrap (8 + (i : Int)) = 8 + (i : Int) := zr (by omega) (by omega)
                by_cases hs1 : q + 1 < s.size
                · have hLi := hL i hlt6
                  have hsu := zeX (bAt s (IntKind.i64.wrap ((q : Int) + 1))) i
                  rw [if_pos hs1]
                  generalize zg2 (bAt s (IntKind.i64.wrap ((q : Int) + 1))) i = du at *
                  by_cases hm : zeJ (bAt s (IntKind.i64.wrap ((q : Int) + 1))) = 8 + (i : Int)
                  · rw [if_pos hm] at hsu
                    obtain ⟨e1, e2⟩ := hLi.2 hm
                    have e1' := e1.symm
                    clear hLi hm hL e1
                    repeat' (first | refine wC ?_ | (exfalso; omega) | refine wK ?_ | ((with_reducible refine zy ?_); refine zf rfl rfl rfl rfl rfl rfl ?_ ?_ ?_) | refine zd rfl ?_ ?_ <;> intro hc | refine zS rfl ?_ ?_ <;> intro hc | refine zj rfl ?_ ?_ <;> intro hc)
                    all_goals try (show (i : Int) < 6; omega)
                    all_goals try omega
                    all_goals exact zI (n' := 6 - (i + 1)) (by omega) (za [0, 1, 6, 10, 39] [.loc 1000] rfl rfl) ⟨i + 1, by omega, rfl, by rw [if_pos hs1, hsu, wi, w8]; rfl, rfl⟩
                  · rw [if_neg hm] at hsu
                    have e1 : ¬ (bAt ⟨#[98, 116, 110, 63, 102, 114]⟩ (i : Int) = bAt s (IntKind.i64.wrap ((q : Int) + 1)) ∧ i ≠ 3) := fun h => hm (hLi.1 h)
                    have e1' : ¬ (i = 3) → ¬ (bAt s (IntKind.i64.wrap ((q : Int) + 1)) = bAt ⟨#[98, 116, 110, 63, 102, 114]⟩ (i : Int)) := fun h h2 => e1 ⟨h2.symm, h⟩
                    clear hLi hm hL e1
                    repeat' (first | refine wC ?_ | (exfalso; omega) | refine wK ?_ | ((with_reducible refine zy ?_); refine zf rfl rfl rfl rfl rfl rfl ?_ ?_ ?_) | refine zd rfl ?_ ?_ <;> intro hc | refine zS rfl ?_ ?_ <;> intro hc | refine zj rfl ?_ ?_ <;> intro hc)
                    all_goals try (show (i : Int) < 6; omega)
                    all_goals try (exact absurd ‹_› (e1' (by omega)))
                    all_goals try omega
                    all_goals exact zI (n' := 6 - (i + 1)) (by omega) (za [0, 1, 6, 10, 39] [.loc 1000] rfl rfl) ⟨i + 1, by omega, rfl, by rw [if_pos hs1, hsu, wi]; rfl, rfl⟩
                · rw [if_neg hs1]
                  clear hL
                  repeat' (first | refine wC ?_ | (exfalso; omega) | refine wK ?_ | refine zd rfl ?_ ?_ <;> intro hc | refine zj rfl ?_ ?_ <;> intro hc)
                  all_goals try omega
                  all_goals exact zI (n' := 6 - (i + 1)) (by omega) (za [0, 1, 6, 10, 39] [.loc 1000] rfl rfl) ⟨i + 1, by omega, rfl, by rw [if_neg hs1, wi]; rfl, rfl⟩
              · obtain rfl : i = 6 := by omega
                clear hL
                by_cases hs1 : q + 1 < s.size
                · rw [if_pos hs1, show zg2 (bAt s (IntKind.i64.wrap ((q : Int) + 1))) 6 = zeJ (bAt s (IntKind.i64.wrap ((q : Int) + 1))) by unfold zg2; rw [if_pos (by omega)]]
                  generalize zeJ (bAt s (IntKind.i64.wrap ((q : Int) + 1))) = dd at *
                  by_cases hdd : 0 ≤ dd
                  · rw [if_pos ⟨hs1, hdd⟩] at hi
                    have wd : IntKind.u8.wrap dd = dd := xo (by omega) (by omega)
                    repeat' (first | refine wC ?_ | (exfalso; omega) | refine wK ?_ | ((with_reducible refine zw ?_); refine zh rfl rfl rfl rfl rfl rfl rfl rfl rfl rfl ?_ ?_ ?_) | refine zd rfl ?_ ?_ <;> intro hc)
                    all_goals try (simp only [zZ, List.length_singleton]; omega)
                    all_goals try omega
                    all_goals exact zI (n' := m) (by omega) ((za [0, 1, 6] [.loc 67] rfl rfl).trans (zg (.loc 67) (.loc 1000) rfl rfl rfl rfl)) ⟨_, q + 2, by omega, by omega, by simp; omega, hi, by rw [W2]; rfl, by rw [← wF out _ (by omega) (by omega), wd]; rfl⟩
                  · rw [if_neg (fun h => hdd h.2)] at hi
                    rw [hi]
                    repeat' (first | refine wC ?_ | (exfalso; omega) | refine wK ?_ | refine zd rfl ?_ ?_ <;> intro hc)
                    all_goals try omega
                    all_goals exact zL (zp (zD rfl rfl rfl rfl rfl) (by simp))
                · rw [if_neg hs1]
                  rw [if_neg (fun h => hs1 h.1)] at hi
                  rw [hi]
                  repeat' (first | refine wC ?_ | (exfalso; omega) | refine wK ?_ | fail)
                  all_goals try omega
                  all_goals exact zL (zp (zD rfl rfl rfl rfl rfl) (by simp))
    · rw [if_pos h92] at hi
      repeat' (first | refine wC ?_ | (exfalso; omega) | refine wK ?_ | ((with_reducible refine zy ?_); refine zf rfl rfl rfl rfl rfl rfl ?_ ?_ ?_) | ((with_reducible refine zw ?_); refine zh rfl rfl rfl rfl rfl rfl rfl rfl rfl rfl ?_ ?_ ?_) | refine zd rfl ?_ ?_ <;> intro hc | refine zS rfl ?_ ?_ <;> intro hc)
      all_goals try (simp only [zZ, List.length_singleton]; omega)
      all_goals try omega
      all_goals exact zI (n' := m) (by omega) ((za [0, 1, 6] [.loc 36] rfl rfl).trans (zg (.loc 36) (.loc 1000) rfl rfl rfl rfl)) ⟨out ++ [UInt8.ofNat (bAt s (q : Nat)).toNat], q + 1, by omega, by omega, by simp; omega, hi, by rw [W1]; rfl, by rw [← wF out _ r0.1 r0.2]; rfl⟩
  · rw [zkA s m out q (by omega)] at hi
    rw [hi]
    repeat' (first | refine wC ?_ | (exfalso; omega) | refine wK ?_ | refine zd rfl ?_ ?_ <;> intro hc)
    all_goals exact zL (zp (zD rfl rfl rfl rfl rfl) (by simp))
theorem zkW (s : ByteArray) (q j : Nat) (h : j < (kC s q).length) : q + j < s.size ∧ 48 ≤ bAt s ((q + j : Nat) : Int) ∧ bAt s ((q + j : Nat) : Int) ≤ 57 ∧ ((kC s q).getD j default).toNat = (bAt s ((q + j : Nat) : Int)).toNat := by
  have h1 := zm6 jm (s.data.toList.drop q) j h
  have hl : s.data.toList.length = s.size := by rw [Array.length_toList]; rfl
  rw [List.length_drop, hl] at h1
  have e : (s.data.toList.drop q).getD j default = s.data.toList.getD (q + j) default := by
    simp only [List.getD_eq_getElem?_getD, List.getElem?_drop]
  have hb : bAt s ((q + j : Nat) : Int) = ((s.data.toList.getD (q + j) default).toNat : Int) := rfl
  have h2 := h1.2
  rw [e] at h2
  unfold jm at h2
  simp only [Bool.and_eq_true, decide_eq_true_eq] at h2
  have e2 : (kC s q).getD j default = s.data.toList.getD (q + j) default := by
    rw [← e]
    unfold kC at h ⊢
    have key : ∀ (l : List UInt8) (j : Nat), j < (l.takeWhile jm).length → (l.takeWhile jm).getD j default = l.getD j default := by
      intro l
      induction l with
      | nil => intro j h; simp at h
      | cons c l ih =>
        intro j h
        rw [List.takeWhile_cons] at h ⊢
        split at h
        · rename_i hc
          rw [if_pos hc]
          cases j with
          | zero => rfl
          | succ j => simpa using ih j (by simpa using h)
        · simp at h
    exact key _ _ h
  rw [hb, e2]
  exact ⟨by omega, by omega, by omega, by omega⟩
theorem zlK (s : ByteArray) (q : Nat) (h : q + (kC s q).length < s.size) : ¬ (48 ≤ bAt s ((q + (kC s q).length : Nat) : Int) ∧ bAt s ((q + (kC s q).length : Nat) : Int) ≤ 57) := by
  have hl : s.data.toList.length = s.size := by rw [Array.length_toList]; rfl
  have h1 := zk0 jm (s.data.toList.drop q) (by rw [List.length_drop, hl]; unfold kC at h; omega)
  have e : (s.data.toList.drop q).getD (kC s q).length default = s.data.toList.getD (q + (kC s q).length) default := by
    simp only [List.getD_eq_getElem?_getD, List.getElem?_drop]
  rw [show (List.takeWhile jm (List.drop q s.data.toList)).length = (kC s q).length from rfl, e] at h1
  have hb : bAt s ((q + (kC s q).length : Nat) : Int) = ((s.data.toList.getD (q + (kC s q).length) default).toNat : Int) := rfl
  unfold jm at h1
  simp only [Bool.and_eq_false_iff, decide_eq_false_iff_not] at h1
  rw [hb]
  omega
theorem zfy (l : List UInt8) (j : Nat) (h : j < l.length) : zax (l.take (j + 1)) 0 = 10 * zax (l.take j) 0 + ((l.getD j default).toNat - 48) := by
  rw [jz l j h, zd0]
  rfl
theorem zki (l : List UInt8) (h : ∀ j, j < l.length → (l.getD j default).toNat ≤ 57) : ∀ j, j ≤ l.length → zax (l.take j) 0 < 10 ^ j
  | 0, _ => by simp [zax]
  | j + 1, hj => by
    have := zki l h j (by omega)
    have h2 := h j (by omega)
    rw [zfy l j (by omega), Nat.pow_succ]
    omega
theorem ze8 (n : Int) : (wV n).toT = .agg [.int .i64 2, .bool false, .int .i64 n, .str ⟨#[]⟩, .sl 1 [], .sl 6 []] := (wV n).toT_full
theorem zoN (u : Nat) (h : u ≤ 9223372036854775808) : IntKind.i64.wrap (IntKind.u64.wrap (0 - (u : Int))) = -(u : Int) := by
  simp only [IntKind.wrap, IntKind.bits, IntKind.signed, Bool.false_and, Bool.true_and, Bool.false_eq_true, if_false, decide_eq_true_eq]
  split <;> omega
set_option maxHeartbeats 16000000 in
theorem ziE (s : ByteArray) (p : Nat) (hs : s.size ≤ 1000000) (hp : p < s.size) : Spec Tryz.prog 181 [.t (.str s), .t (.int .i64 (p : Int))] [] (.tup [.t (qE s p).1.toT, .t (.int .i64 (qE s p).2)]) [] := by
  obtain ⟨res, hres⟩ : ∃ res, res = qE s p := ⟨_, rfl⟩
  rw [← hres]
  have hN := y6
  have wp : IntKind.i64.wrap ((p : Int) + 1) = ((p + 1 : Nat) : Int) := by rw [zr (by omega) (by omega)]; omega
  have rp := xj s (p : Nat)
  unfold qE at hres
  obtain ⟨q0, hq0⟩ : ∃ q0, q0 = zcG s p := ⟨_, rfl⟩
  rw [← hq0] at hres
  have hlt := zkW s q0
  have hend := zlK s q0
  have hq0' := hq0
  unfold zcG at hq0'
  have hst := zfy (kC s q0)
  have hbd := zki (kC s q0) (fun j hj => by have := zkW s q0 j hj; omega)
  have hfull : (kC s q0).take (kC s q0).length = kC s q0 := List.take_length
  have hdl := zhA s q0
  generalize kC s q0 = ds at *
  have hz : Nd.zero.toT = .agg [.int .i64 0, .bool false, .int .i64 0, .str ⟨#[]⟩, .sl 1 [], .sl 6 []] := zJ
  have p18 : ∀ j, j ≤ 19 → j ≤ ds.length → zax (ds.take j) 0 < 10000000000000000000 ∧ (j ≤ 18 → zax (ds.take j) 0 < 1000000000000000000) := fun j hj hj2 => by
    have h1 := hbd j hj2
    refine ⟨Nat.lt_of_lt_of_le h1 (Nat.le_trans (Nat.pow_le_pow_right (by omega) hj) (by decide)), fun h => Nat.lt_of_lt_of_le h1 (Nat.le_trans (Nat.pow_le_pow_right (by omega) h) (by decide))⟩
  clear hbd
  have main : ∀ (env0 : EnvL), True := fun _ => trivial
  by_cases h45 : bAt s (p : Nat) = 45
  · rw [if_pos h45] at hq0'
    refine wI Tryz.func181 ?_
    repeat' (first | refine wC ?_ | (exfalso; omega) | refine wK ?_ | ((with_reducible refine zy ?_); refine zf rfl rfl rfl rfl rfl rfl ?_ ?_ ?_) | refine zd rfl ?_ ?_ <;> intro hc | refine zj rfl ?_ ?_ <;> intro hc)
    all_goals try omega
    refine zl (za [0, 1, 4, 6, 7, 8] [.loc 4] rfl rfl) ?_
    refine zz (fun m env st => ∃ (j : Nat), j ≤ ds.length ∧ j ≤ 19 ∧ m = ds.length - j ∧
        env = EnvL.get [(0, .t (.str s)), (1, .t (.int .i64 (p : Int))), (4, .ref (.loc 4) 0 0 0), (6, .t (.int .i64 ((q0 + j : Nat) : Int))), (7, .t (.int .u64 (zax (ds.take j) 0 : Int))), (8, .t (.int .i64 (j : Int)))] ∧
        st = StO.get [(.loc 4, some (.var 30 [.t (.int .i64 0), .t (.bool false), .t (.int .i64 0), .t (.str ⟨#[]⟩), .t .nilsl, .t .nilsl]))])
      ?_ (n := ds.length) ⟨0, by omega, by omega, by omega, by rw [hq0']; rw [wp]; rfl, rfl⟩
    rintro m env st ⟨j, hj, hj19, rfl, rfl, rfl⟩
    have hp18 := p18 j hj19 hj
    by_cases hlj : j < ds.length
    · obtain ⟨l1, l2, l3, l4⟩ := hlt j hlj
      have hs1 := hst j hlj
      have wj : IntKind.i64.wrap ((j : Int) + 1) = ((j + 1 : Nat) : Int) := by rw [zr (by omega) (by omega)]; omega
      have wq : IntKind.i64.wrap (((q0 + j : Nat) : Int) + 1) = ((q0 + (j + 1) : Nat) : Int) := by rw [zr (by omega) (by omega)]; omega
      clear hlt hend hst
      by_cases h19 : j = 19
      · rw [if_pos (.inl (by omega))] at hres
        rw [hres]
        simp only
        rw [hz]
        repeat' (first | refine wC ?_ | (exfalso; omega) | refine wK ?_ | ((with_reducible refine zy ?_); refine zf rfl rfl rfl rfl rfl rfl ?_ ?_ ?_) | refine zd rfl ?_ ?_ <;> intro hc | refine zj rfl ?_ ?_ <;> intro hc)
        all_goals try omega
        all_goals exact wE
      · have hp' := hp18.2 (by omega)
        generalize hu : zax (ds.take j) 0 = u at *
        have hu1 : ((zax (ds.take (j + 1)) 0 : Nat) : Int) = 10 * u + (bAt s ((q0 + j : Nat) : Int) - 48) := by rw [hs1]; omega
        have e1 : IntKind.u8.wrap (bAt s ((q0 + j : Nat) : Int) - 48) = bAt s ((q0 + j : Nat) : Int) - 48 := xo (by omega) (by omega)
        have e2 : IntKind.u64.wrap (bAt s ((q0 + j : Nat) : Int) - 48) = bAt s ((q0 + j : Nat) : Int) - 48 := ye (by omega) (by omega)
        have e3 : IntKind.u64.wrap (10 * (u : Int)) = 10 * (u : Int) := ye (by omega) (by omega)
        have e4 : IntKind.u64.wrap (10 * (u : Int) + (bAt s ((q0 + j : Nat) : Int) - 48)) = 10 * (u : Int) + (bAt s ((q0 + j : Nat) : Int) - 48) := ye (by omega) (by omega)
        clear hs1 hp18 p18
        repeat' (first | refine wC ?_ | (exfalso; omega) | refine wK ?_ | ((with_reducible refine zy ?_); refine zf rfl rfl rfl rfl rfl rfl ?_ ?_ ?_) | refine zd rfl ?_ ?_ <;> intro hc | refine zj rfl ?_ ?_ <;> intro hc)
        all_goals try omega
        all_goals exact zI (n' := ds.length - (j + 1)) (by omega) (za [0, 1, 4, 6, 7, 8] [.loc 4] rfl rfl) ⟨j + 1, by omega, by omega, rfl, by rw [hu1, wj, wq, e1, e2, e3, e4]; rfl, rfl⟩
    · obtain rfl : j = ds.length := by omega
      have hv := hp18.1
      rw [hfull] at hv ⊢
      clear hp18 p18 hst hlt hfull
      generalize zax ds 0 = v at *
      by_cases h0 : ds.length = 0
      · rw [if_pos (.inr h0)] at hres
        rw [hres]
        simp only
        rw [hz]
        repeat' (first | refine wC ?_ | (exfalso; omega) | refine wK ?_ | ((with_reducible refine zy ?_); refine zf rfl rfl rfl rfl rfl rfl ?_ ?_ ?_) | refine zd rfl ?_ ?_ <;> intro hc | refine zj rfl ?_ ?_ <;> intro hc)
        all_goals try omega
        all_goals exact wE
      rw [if_neg (by omega)] at hres
      by_cases hbig : (bAt s (p : Nat) ≠ 45 ∧ 9223372036854775807 < v) ∨ 9223372036854775808 < v
      · rw [if_pos hbig] at hres
        rw [hres]
        simp only
        rw [hz]
        repeat' (first | refine wC ?_ | (exfalso; omega) | refine wK ?_ | ((with_reducible refine zy ?_); refine zf rfl rfl rfl rfl rfl rfl ?_ ?_ ?_) | refine zd rfl ?_ ?_ <;> intro hc | refine zj rfl ?_ ?_ <;> intro hc | refine zN rfl ?_ ?_ <;> intro hc)
        all_goals try omega
        all_goals exact wE
      · rw [if_neg hbig, if_pos h45] at hres
        rw [show (-(v : Int)) = IntKind.i64.wrap (IntKind.u64.wrap (0 - (v : Int))) from (zoN v (by omega)).symm] at hres
        rw [hres]
        simp only
        rw [ze8]
        have hN2 := y6 (IntKind.i64.wrap (IntKind.u64.wrap (0 - (v : Int))))
        repeat' (first | refine wC ?_ | (exfalso; omega) | refine wK ?_ | ((with_reducible refine zy ?_); refine zf rfl rfl rfl rfl rfl rfl ?_ ?_ ?_) | ((with_reducible refine ze ?_); refine wL hN2 ?_) | refine zd rfl ?_ ?_ <;> intro hc | refine zj rfl ?_ ?_ <;> intro hc | refine zN rfl ?_ ?_ <;> intro hc)
        all_goals try omega
        all_goals exact wE
  · rw [if_neg h45] at hq0'
    refine wI Tryz.func181 ?_
    repeat' (first | refine wC ?_ | (exfalso; omega) | refine wK ?_ | ((with_reducible refine zy ?_); refine zf rfl rfl rfl rfl rfl rfl ?_ ?_ ?_) | refine zd rfl ?_ ?_ <;> intro hc | refine zj rfl ?_ ?_ <;> intro hc)
    all_goals try omega
    refine zl (za [0, 1, 4, 6, 7, 8] [.loc 4] rfl rfl) ?_
    refine zz (fun m env st => ∃ (j : Nat), j ≤ ds.length ∧ j ≤ 19 ∧ m = ds.length - j ∧
        env = EnvL.get [(0, .t (.str s)), (1, .t (.int .i64 (p : Int))), (4, .ref (.loc 4) 0 0 0), (6, .t (.int .i64 ((q0 + j : Nat) : Int))), (7, .t (.int .u64 (zax (ds.take j) 0 : Int))), (8, .t (.int .i64 (j : Int)))] ∧
        st = StO.get [(.loc 4, some (.var 30 [.t (.int .i64 0), .t (.bool false), .t (.int .i64 0), .t (.str ⟨#[]⟩), .t .nilsl, .t .nilsl]))])
      ?_ (n := ds.length) ⟨0, by omega, by omega, by omega, by rw [hq0']; rfl, rfl⟩
    rintro m env st ⟨j, hj, hj19, rfl, rfl, rfl⟩
    have hp18 := p18 j hj19 hj
    by_cases hlj : j < ds.length
    · obtain ⟨l1, l2, l3, l4⟩ := hlt j hlj
      have hs1 := hst j hlj
      have wj : IntKind.i64.wrap ((j : Int) + 1) = ((j + 1 : Nat) : Int) := by rw [zr (by omega) (by omega)]; omega
      have wq : IntKind.i64.wrap (((q0 + j : Nat) : Int) + 1) = ((q0 + (j + 1) : Nat) : Int) := by rw [zr (by omega) (by omega)]; omega
      clear hlt hend hst
      by_cases h19 : j = 19
      · rw [if_pos (.inl (by omega))] at hres
        rw [hres]
        simp only
        rw [hz]
        repeat' (first | refine wC ?_ | (exfalso; omega) | refine wK ?_ | ((with_reducible refine zy ?_); refine zf rfl rfl rfl rfl rfl rfl ?_ ?_ ?_) | refine zd rfl ?_ ?_ <;> intro hc | refine zj rfl ?_ ?_ <;> intro hc)
        all_goals try omega
        all_goals exact wE
      · have hp' := hp18.2 (by omega)
        generalize hu : zax (ds.take j) 0 = u at *
        have hu1 : ((zax (ds.take (j + 1)) 0 : Nat) : Int) = 10 * u + (bAt s ((q0 + j : Nat) : Int) - 48) := by rw [hs1]; omega
        have e1 : IntKind.u8.wrap (bAt s ((q0 + j : Nat) : Int) - 48) = bAt s ((q0 + j : Nat) : Int) - 48 := xo (by omega) (by omega)
        have e2 : IntKind.u64.wrap (bAt s ((q0 + j : Nat) : Int) - 48) = bAt s ((q0 + j : Nat) : Int) - 48 := ye (by omega) (by omega)
        have e3 : IntKind.u64.wrap (10 * (u : Int)) = 10 * (u : Int) := ye (by omega) (by omega)
        have e4 : IntKind.u64.wrap (10 * (u : Int) + (bAt s ((q0 + j : Nat) : Int) - 48)) = 10 * (u : Int) + (bAt s ((q0 + j : Nat) : Int) - 48) := ye (by omega) (by omega)
        clear hs1 hp18 p18
        repeat' (first | refine wC ?_ | (exfalso; omega) | refine wK ?_ | ((with_reducible refine zy ?_); refine zf rfl rfl rfl rfl rfl rfl ?_ ?_ ?_) | refine zd rfl ?_ ?_ <;> intro hc | refine zj rfl ?_ ?_ <;> intro hc)
        all_goals try omega
        all_goals exact zI (n' := ds.length - (j + 1)) (by omega) (za [0, 1, 4, 6, 7, 8] [.loc 4] rfl rfl) ⟨j + 1, by omega, by omega, rfl, by rw [hu1, wj, wq, e1, e2, e3, e4]; rfl, rfl⟩
    · obtain rfl : j = ds.length := by omega
      have hv := hp18.1
      rw [hfull] at hv ⊢
      clear hp18 p18 hst hlt hfull
      generalize zax ds 0 = v at *
      by_cases h0 : ds.length = 0
      · rw [if_pos (.inr h0)] at hres
        rw [hres]
        simp only
        rw [hz]
        repeat' (first | refine wC ?_ | (exfalso; omega) | refine wK ?_ | ((with_reducible refine zy ?_); refine zf rfl rfl rfl rfl rfl rfl ?_ ?_ ?_) | refine zd rfl ?_ ?_ <;> intro hc | refine zj rfl ?_ ?_ <;> intro hc)
        all_goals try omega
        all_goals exact wE
      rw [if_neg (by omega)] at hres
      by_cases hbig : (bAt s (p : Nat) ≠ 45 ∧ 9223372036854775807 < v) ∨ 9223372036854775808 < v
      · rw [if_pos hbig] at hres
        rw [hres]
        simp only
        rw [hz]
        repeat' (first | refine wC ?_ | (exfalso; omega) | refine wK ?_ | ((with_reducible refine zy ?_); refine zf rfl rfl rfl rfl rfl rfl ?_ ?_ ?_) | refine zd rfl ?_ ?_ <;> intro hc | refine zj rfl ?_ ?_ <;> intro hc | refine zN rfl ?_ ?_ <;> intro hc)
        all_goals try omega
        all_goals exact wE
      · rw [if_neg hbig, if_neg h45] at hres
        rw [show ((v : Nat) : Int) = IntKind.i64.wrap ((v : Nat) : Int) from (zr (by omega) (by omega)).symm] at hres
        rw [hres]
        simp only
        rw [ze8]
        have hN2 := y6 (IntKind.i64.wrap ((v : Nat) : Int))
        repeat' (first | refine wC ?_ | (exfalso; omega) | refine wK ?_ | ((with_reducible refine zy ?_); refine zf rfl rfl rfl rfl rfl rfl ?_ ?_ ?_) | ((with_reducible refine ze ?_); refine wL hN2 ?_) | refine zd rfl ?_ ?_ <;> intro hc | refine zj rfl ?_ ?_ <;> intro hc | refine zN rfl ?_ ?_ <;> intro hc)
        all_goals try omega
        all_goals exact wE
set_option maxHeartbeats 32000000 in
theorem zdO (s : ByteArray) (hs : s.size ≤ 1000000) (d : Nat) (hd : d ≤ 1000)
    (IH : ∀ p : Nat, p ≤ 1000000 → Spec Tryz.prog 109 [.t (.str s), .t (.int .i64 (p : Int)), .t (.int .i64 (d : Int))] [] (.tup [.t (y5 s d p).1.toT, .t (.int .i64 (y5 s d p).2)]) [])
    (k : Int) (hk : k = 4 ∨ k = 5) (e : Int) (p : Nat) (hp : p < s.size) :
    Spec Tryz.prog 180 [.t (.str s), .t (.int .i64 (p : Int)), .t (.int .i64 ((d + 1 : Nat) : Int)), .t (.int .i64 k), .t (.int .u8 e)] [] (.tup [.t (xv (y5 s d) s k e 258 [] [] (p + 1)).1.toT, .t (.int .i64 (xv (y5 s d) s k e 258 [] [] (p + 1)).2)]) [] := by
  obtain ⟨res, hres⟩ : ∃ res, res = xv (y5 s d) s k e 258 [] [] (p + 1) := ⟨_, rfl⟩
  rw [← hres]
  have hG := kp s d
  have wp : IntKind.i64.wrap ((p : Int) + 1) = ((p + 1 : Nat) : Int) := by rw [zr (by omega) (by omega)]; omega
  have hz : Nd.zero.toT = .agg [.int .i64 0, .bool false, .int .i64 0, .str ⟨#[]⟩, .sl 1 [], .sl 6 []] := zJ
  have IH' : ∀ (p : Nat) (v u : Int), v = (d : Int) → u = (p : Int) → p ≤ 1000000 → Spec Tryz.prog 109 [.t (.str s), .t (.int .i64 u), .t (.int .i64 v)] [] (.tup [.t (y5 s d p).1.toT, .t (.int .i64 (y5 s d p).2)]) [] := fun p v u hv hu hp => by subst hv hu; exact IH p hp
  generalize y5 s d = f at *
  clear IH
  have wd : IntKind.i64.wrap (((d + 1 : Nat) : Int) - 1) = (d : Int) := by rw [zr (by omega) (by omega)]; omega
  refine wIG Tryz.func180 ?_
  repeat' (first | refine wC ?_ | refine wK ?_ | fail)
  refine zl (zH (r := .loc 12) 5 (.loc 900) 30 6 rfl rfl rfl rfl rfl) ?_
  refine zl (zH (r := .loc 12) 4 (.loc 901) 9 1 rfl rfl rfl rfl rfl) ?_
  rw [wp]
  refine zl (za [0, 1, 2, 3, 4, 10, 12] [.loc 10, .loc 12, .loc 900, .loc 901] rfl rfl) ?_
  refine zz (fun m env st => ∃ (ns : List ByteArray) (is : List Nd) (q : Nat), is.length + m = 258 ∧ is.length ≤ 256 ∧ ns.length ≤ is.length ∧ q ≤ s.size ∧ res = xv f s k e m ns is q ∧
      env = EnvL.get [(0, .t (.str s)), (1, .t (.int .i64 (q : Int))), (2, .t (.int .i64 ((d + 1 : Nat) : Int))), (3, .t (.int .i64 k)), (4, .t (.int .u8 e)), (10, .ref (.loc 10) 0 0 0), (12, .ref (.loc 12) 0 0 0)] ∧
      st = StO.get [(.loc 10, some (.var 30 [.t (.int .i64 0), .t (.bool false), .t (.int .i64 0), .t (.str ⟨#[]⟩), .t .nilsl, .t .nilsl])), (.loc 12, some (.var 30 [.t (.int .i64 k), .t (.bool false), .t (.int .i64 0), .t (.str ⟨#[]⟩), .row (.loc 901), .row (.loc 900)])), (.loc 900, some (.slt 30 6 (is.map Nd.toT))), (.loc 901, some (.slt 9 1 (ns.map .str)))])
    ?_ (n := 258) ⟨[], [], p + 1, by simp, by simp, by simp, by omega, hres, rfl, rfl⟩
  rintro m env st ⟨ns, is, q, hm, his, hns, hq, hi, rfl, rfl⟩
  obtain ⟨m, rfl⟩ : ∃ g, m = g + 1 := ⟨m - 1, by omega⟩
  clear hres wp
  have hml : ((is.map Nd.toT).length : Int) = is.length := by rw [List.length_map]
  have wq : IntKind.i64.wrap ((q : Int) + 1) = (q : Int) + 1 := zr (by omega) (by omega)
  rw [xv] at hi
  by_cases hA : q < s.size ∧ bAt s (q : Nat) = e ∧ is.length = 0
  · rw [if_pos hA] at hi
    rw [hi]
    simp only
    rw [Nd.toT_eq, ← wq]
    repeat' (first | refine wC ?_ | (exfalso; omega) | refine wK ?_ | ((with_reducible refine zy ?_); refine zf rfl rfl rfl rfl rfl rfl ?_ ?_ ?_) | refine zd rfl ?_ ?_ <;> intro hc | refine zj rfl ?_ ?_ <;> intro hc)
    all_goals try omega
    all_goals try (rw [hml]; omega)
    all_goals (refine zv (za [10, 11] [.loc 10, .loc 900, .loc 901] rfl rfl) ?_; refine zv (zB (id := .loc 900) rfl rfl rfl) ?_; refine zv (zB (id := .loc 901) rfl rfl rfl) ?_; refine zL (zp ?_ (by simp)); refine zF rfl rfl rfl inferInstance rfl inferInstance rfl ?_ ?_; exact TLe.av wT; exact AVLE.refl _)
  rw [if_neg hA] at hi
  rcases hk with rfl | rfl
  · rw [if_neg (by decide)] at hi
    have hV := IH' q (IntKind.i64.wrap (((d + 1 : Nat) : Int) - 1)) (q : Int) wd rfl (by omega)
    unfold zaz at hi
    obtain ⟨g1, g2, g3⟩ := hG (q)
    generalize f (q) = y at hi hV g1 g2 g3
    obtain ⟨x, q1⟩ := y
    simp only at hi hV g1 g2 g3
    have hT := x.toT_full
    rw [hT] at hV
    by_cases hc1 : q1 < 0 ∨ (s.size : Int) ≤ q1
    · rw [if_pos hc1] at hi
      rw [hi]
      simp only
      rw [hz]
      repeat' (first | refine wC ?_ | (exfalso; omega) | refine wK ?_ | ((with_reducible refine zy ?_); refine zf rfl rfl rfl rfl rfl rfl ?_ ?_ ?_) | ((with_reducible refine ze ?_); refine wL hV ?_) | refine zd rfl ?_ ?_ <;> intro hc | refine zj rfl ?_ ?_ <;> intro hc)
      all_goals try omega
      all_goals try (rw [hml]; omega)
      all_goals try (simp only [List.length_append, List.length_map, List.length_singleton, List.length_cons, List.length_nil]; omega)
      all_goals try (exfalso; simp only [List.length_append, List.length_map, List.length_singleton] at *; omega)
      all_goals (refine zL (zp ?_ (by simp)); refine zF rfl rfl rfl inferInstance rfl inferInstance rfl ?_ ?_; exact TLe.av wT; exact AVLE.refl _)
    rw [if_neg hc1] at hi
    obtain ⟨g4, g5, g6, g7⟩ := g3 (by omega)
    have w1 : IntKind.i64.wrap (q1 + 1) = q1 + 1 := zr (by omega) (by omega)
    by_cases hc2 : bAt s q1 = e
    · rw [if_pos hc2] at hi
      rw [hi]
      simp only
      rw [Nd.toT_eq, ← w1, List.map_append, List.map_singleton, hT]
      repeat' (first | refine wC ?_ | (exfalso; omega) | refine wK ?_ | ((with_reducible refine zy ?_); refine zf rfl rfl rfl rfl rfl rfl ?_ ?_ ?_) | ((with_reducible refine zw ?_); refine zh rfl rfl rfl rfl rfl rfl rfl rfl rfl rfl ?_ ?_ ?_) | ((with_reducible refine ze ?_); refine wL hV ?_) | refine zd rfl ?_ ?_ <;> intro hc | refine zj rfl ?_ ?_ <;> intro hc)
      all_goals try omega
      all_goals try (rw [hml]; omega)
      all_goals try (simp only [List.length_append, List.length_map, List.length_singleton, List.length_cons, List.length_nil]; omega)
      all_goals try (exfalso; simp only [List.length_append, List.length_map, List.length_singleton] at *; omega)
      all_goals (refine zv (za [10, 11] [.loc 10, .loc 106, .loc 901] rfl rfl) ?_; refine zv (zB (id := .loc 106) rfl rfl rfl) ?_; refine zv (zB (id := .loc 901) rfl rfl rfl) ?_; refine zL (zp ?_ (by simp)); refine zF rfl rfl rfl inferInstance rfl inferInstance rfl ?_ ?_; exact TLe.av wT; exact AVLE.refl _)
    rw [if_neg hc2] at hi
    by_cases hc3 : bAt s q1 ≠ 44 ∨ 256 < (is.length : Int) + 1
    · rw [if_pos hc3] at hi
      rw [hi]
      simp only
      rw [hz]
      repeat' (first | refine wC ?_ | (exfalso; omega) | refine wK ?_ | ((with_reducible refine zy ?_); refine zf rfl rfl rfl rfl rfl rfl ?_ ?_ ?_) | ((with_reducible refine zw ?_); refine zh rfl rfl rfl rfl rfl rfl rfl rfl rfl rfl ?_ ?_ ?_) | ((with_reducible refine ze ?_); refine wL hV ?_) | refine zd rfl ?_ ?_ <;> intro hc | refine zj rfl ?_ ?_ <;> intro hc | refine zN rfl ?_ ?_ <;> intro hc)
      all_goals try omega
      all_goals try (rw [hml]; omega)
      all_goals try (simp only [List.length_append, List.length_map, List.length_singleton, List.length_cons, List.length_nil]; omega)
      all_goals try (exfalso; simp only [List.length_append, List.length_map, List.length_singleton] at *; omega)
      all_goals (refine zL (zp ?_ (by simp)); refine zF rfl rfl rfl inferInstance rfl inferInstance rfl ?_ ?_; exact TLe.av wT; exact AVLE.refl _)
    · rw [if_neg hc3] at hi
      repeat' (first | refine wC ?_ | (exfalso; omega) | refine wK ?_ | ((with_reducible refine zy ?_); refine zf rfl rfl rfl rfl rfl rfl ?_ ?_ ?_) | ((with_reducible refine zw ?_); refine zh rfl rfl rfl rfl rfl rfl rfl rfl rfl rfl ?_ ?_ ?_) | ((with_reducible refine ze ?_); refine wL hV ?_) | refine zd rfl ?_ ?_ <;> intro hc | refine zj rfl ?_ ?_ <;> intro hc | refine zN rfl ?_ ?_ <;> intro hc)
      all_goals try omega
      all_goals try (rw [hml]; omega)
      all_goals try (simp only [List.length_append, List.length_map, List.length_singleton, List.length_cons, List.length_nil]; omega)
      all_goals try (exfalso; simp only [List.length_append, List.length_map, List.length_singleton] at *; omega)
      all_goals (refine zI (n' := m) (by omega) ((za [0, 1, 2, 3, 4, 10, 12] [.loc 10, .loc 12, .loc 106, .loc 901] rfl rfl).trans (zg (.loc 106) (.loc 900) rfl rfl rfl rfl)) ⟨ns, is ++ [x], q1.toNat + 1, by simp only [List.length_append, List.length_singleton]; omega, by simp only [List.length_append, List.length_singleton]; omega, by simp only [List.length_append, List.length_singleton]; omega, by omega, hi, by rw [w1, show (((q1.toNat + 1 : Nat)) : Int) = q1 + 1 by omega]; rfl, ?_⟩; rw [List.map_append, List.map_singleton, hT]; rfl)
  · rw [if_pos rfl] at hi
    have hQ := zaG s q hs (by omega)
    obtain ⟨q1', q2'⟩ := qn s q
    by_cases hb1 : s.size ≤ q ∨ bAt s (q : Nat) ≠ 34
    · rw [if_pos hb1] at hi
      rw [hi]
      simp only
      rw [hz]
      repeat' (first | refine wC ?_ | (exfalso; omega) | refine wK ?_ | ((with_reducible refine zy ?_); refine zf rfl rfl rfl rfl rfl rfl ?_ ?_ ?_) | refine zd rfl ?_ ?_ <;> intro hc | refine zS rfl ?_ ?_ <;> intro hc | refine zj rfl ?_ ?_ <;> intro hc)
      all_goals try omega
      all_goals try (rw [hml]; omega)
      all_goals try (simp only [List.length_append, List.length_map, List.length_singleton, List.length_cons, List.length_nil]; omega)
      all_goals try (exfalso; simp only [List.length_append, List.length_map, List.length_singleton] at *; omega)
      all_goals (refine zL (zp ?_ (by simp)); refine zF rfl rfl rfl inferInstance rfl inferInstance rfl ?_ ?_; exact TLe.av wT; exact AVLE.refl _)
    rw [if_neg hb1] at hi
    generalize zW s q = T at *
    obtain ⟨t, tq⟩ := T
    simp only at hi hQ q1' q2'
    by_cases hb2 : tq < 0 ∨ (s.size : Int) ≤ tq ∨ bAt s tq ≠ 58
    · rw [if_pos hb2] at hi
      rw [hi]
      simp only
      rw [hz]
      repeat' (first | refine wC ?_ | (exfalso; omega) | refine wK ?_ | ((with_reducible refine zy ?_); refine zf rfl rfl rfl rfl rfl rfl ?_ ?_ ?_) | ((with_reducible refine ze ?_); refine wL hQ ?_) | refine zd rfl ?_ ?_ <;> intro hc | refine zS rfl ?_ ?_ <;> intro hc | refine zj rfl ?_ ?_ <;> intro hc)
      all_goals try omega
      all_goals try (rw [hml]; omega)
      all_goals try (simp only [List.length_append, List.length_map, List.length_singleton, List.length_cons, List.length_nil]; omega)
      all_goals try (exfalso; simp only [List.length_append, List.length_map, List.length_singleton] at *; omega)
      all_goals (refine zL (zp ?_ (by simp)); refine zF rfl rfl rfl inferInstance rfl inferInstance rfl ?_ ?_; exact TLe.av wT; exact AVLE.refl _)
    rw [if_neg hb2] at hi
    have hV := IH' (tq.toNat + 1) (IntKind.i64.wrap (((d + 1 : Nat) : Int) - 1)) (IntKind.i64.wrap (tq + 1)) wd (by rw [zr (by omega) (by omega)]; omega) (by omega)
    unfold zaz at hi
    obtain ⟨g1, g2, g3⟩ := hG (tq.toNat + 1)
    generalize f (tq.toNat + 1) = y at hi hV g1 g2 g3
    obtain ⟨x, q1⟩ := y
    simp only at hi hV g1 g2 g3
    have hT := x.toT_full
    rw [hT] at hV
    by_cases hc1 : q1 < 0 ∨ (s.size : Int) ≤ q1
    · rw [if_pos hc1] at hi
      rw [hi]
      simp only
      rw [hz]
      repeat' (first | refine wC ?_ | (exfalso; omega) | refine wK ?_ | ((with_reducible refine zy ?_); refine zf rfl rfl rfl rfl rfl rfl ?_ ?_ ?_) | ((with_reducible refine zw ?_); refine zh rfl rfl rfl rfl rfl rfl rfl rfl rfl rfl ?_ ?_ ?_) | ((with_reducible refine ze ?_); first | refine wL hQ ?_ | refine wL hV ?_) | refine zd rfl ?_ ?_ <;> intro hc | refine zS rfl ?_ ?_ <;> intro hc | refine zj rfl ?_ ?_ <;> intro hc)
      all_goals try omega
      all_goals try (rw [hml]; omega)
      all_goals try (simp only [List.length_append, List.length_map, List.length_singleton, List.length_cons, List.length_nil]; omega)
      all_goals try (exfalso; simp only [List.length_append, List.length_map, List.length_singleton] at *; omega)
      all_goals (refine zL (zp ?_ (by simp)); refine zF rfl rfl rfl inferInstance rfl inferInstance rfl ?_ ?_; exact TLe.av wT; exact AVLE.refl _)
    rw [if_neg hc1] at hi
    obtain ⟨g4, g5, g6, g7⟩ := g3 (by omega)
    have w1 : IntKind.i64.wrap (q1 + 1) = q1 + 1 := zr (by omega) (by omega)
    by_cases hc2 : bAt s q1 = e
    · rw [if_pos hc2] at hi
      rw [hi]
      simp only
      rw [Nd.toT_eq, ← w1, List.map_append, List.map_append, List.map_singleton, List.map_singleton, hT]
      repeat' (first | refine wC ?_ | (exfalso; omega) | refine wK ?_ | ((with_reducible refine zy ?_); refine zf rfl rfl rfl rfl rfl rfl ?_ ?_ ?_) | ((with_reducible refine zw ?_); refine zh rfl rfl rfl rfl rfl rfl rfl rfl rfl rfl ?_ ?_ ?_) | ((with_reducible refine ze ?_); first | refine wL hQ ?_ | refine wL hV ?_) | refine zd rfl ?_ ?_ <;> intro hc | refine zS rfl ?_ ?_ <;> intro hc | refine zj rfl ?_ ?_ <;> intro hc)
      all_goals try omega
      all_goals try (rw [hml]; omega)
      all_goals try (simp only [List.length_append, List.length_map, List.length_singleton, List.length_cons, List.length_nil]; omega)
      all_goals try (exfalso; simp only [List.length_append, List.length_map, List.length_singleton] at *; omega)
      all_goals (refine zv (za [10, 11] [.loc 10, .loc 106, .loc 81] rfl rfl) ?_; refine zv (zB (id := .loc 106) rfl rfl rfl) ?_; refine zv (zB (id := .loc 81) rfl rfl rfl) ?_; refine zL (zp ?_ (by simp)); refine zF rfl rfl rfl inferInstance rfl inferInstance rfl ?_ ?_; exact TLe.av wT; exact AVLE.refl _)
    rw [if_neg hc2] at hi
    by_cases hc3 : bAt s q1 ≠ 44 ∨ 256 < (is.length : Int) + 1
    · rw [if_pos hc3] at hi
      rw [hi]
      simp only
      rw [hz]
      repeat' (first | refine wC ?_ | (exfalso; omega) | refine wK ?_ | ((with_reducible refine zy ?_); refine zf rfl rfl rfl rfl rfl rfl ?_ ?_ ?_) | ((with_reducible refine zw ?_); refine zh rfl rfl rfl rfl rfl rfl rfl rfl rfl rfl ?_ ?_ ?_) | ((with_reducible refine ze ?_); first | refine wL hQ ?_ | refine wL hV ?_) | refine zd rfl ?_ ?_ <;> intro hc | refine zS rfl ?_ ?_ <;> intro hc | refine zj rfl ?_ ?_ <;> intro hc | refine zN rfl ?_ ?_ <;> intro hc)
      all_goals try omega
      all_goals try (rw [hml]; omega)
      all_goals try (simp only [List.length_append, List.length_map, List.length_singleton, List.length_cons, List.length_nil]; omega)
      all_goals try (exfalso; simp only [List.length_append, List.length_map, List.length_singleton] at *; omega)
      all_goals (refine zL (zp ?_ (by simp)); refine zF rfl rfl rfl inferInstance rfl inferInstance rfl ?_ ?_; exact TLe.av wT; exact AVLE.refl _)
    · rw [if_neg hc3] at hi
      repeat' (first | refine wC ?_ | (exfalso; omega) | refine wK ?_ | ((with_reducible refine zy ?_); refine zf rfl rfl rfl rfl rfl rfl ?_ ?_ ?_) | ((with_reducible refine zw ?_); refine zh rfl rfl rfl rfl rfl rfl rfl rfl rfl rfl ?_ ?_ ?_) | ((with_reducible refine ze ?_); first | refine wL hQ ?_ | refine wL hV ?_) | refine zd rfl ?_ ?_ <;> intro hc | refine zS rfl ?_ ?_ <;> intro hc | refine zj rfl ?_ ?_ <;> intro hc | refine zN rfl ?_ ?_ <;> intro hc)
      all_goals try omega
      all_goals try (rw [hml]; omega)
      all_goals try (simp only [List.length_append, List.length_map, List.length_singleton, List.length_cons, List.length_nil]; omega)
      all_goals try (exfalso; simp only [List.length_append, List.length_map, List.length_singleton] at *; omega)
      all_goals (refine zI (n' := m) (by omega) ((za [0, 1, 2, 3, 4, 10, 12] [.loc 10, .loc 12, .loc 106, .loc 81] rfl rfl).trans ((zg (.loc 106) (.loc 900) rfl rfl rfl rfl).trans (zg (.loc 81) (.loc 901) rfl rfl rfl rfl))) ⟨ns ++ [t], is ++ [x], q1.toNat + 1, by simp only [List.length_append, List.length_singleton]; omega, by simp only [List.length_append, List.length_singleton]; omega, by simp only [List.length_append, List.length_singleton]; omega, by omega, hi, by rw [w1, show (((q1.toNat + 1 : Nat)) : Int) = q1 + 1 by omega]; rfl, ?_⟩; rw [List.map_append, List.map_append, List.map_singleton, List.map_singleton, hT]; rfl)
end Go.AL
