/- What the document's Write and Encode answer. -/
import Derived.Test.YtmidabiehblekaaDoorJnd
import Derived.Test.YtmidabiehblekaaDoorJnc
set_option linter.unusedVariables false
namespace Go.AL
open Go Go.Proofs Go.RowKit

end Go.AL

/- That the law CborWrites is true, as a contract. -/
set_option linter.unusedVariables false
namespace Go.AL
open Go Go.Proofs Go.RowKit

theorem cbm_le9 {C : Nat} : ∀ {ns : List ByteArray} {l : List Nd}, (∀ s ∈ ns, s.size ≤ C) → (Nd.cbm ns l).length ≤ (Nd.cbs l).length + l.length * (C + 9)
  | [], l, _ => by cases l <;> simp [Nd.cbm]
  | s :: ns, [], _ => by simp [Nd.cbm, Nd.cbs]
  | s :: ns, x :: l, h => by
    have h1 := h s (by simp)
    have h2 := cbm_le9 (ns := ns) (l := l) (fun y hy => h y (by simp [hy]))
    have h3 := hdL_len (m := 3) (n := s.size)
    simp only [Nd.cbm, Nd.cbs, List.length_append, List.length_cons, toList_len, Nat.add_mul]; omega
theorem few_cb {V : ByteArray → Bool} {x : Nd} {e : Int} {B : Nat} (hv : x.validB V e = true) (hB : ∀ y ∈ x.items, y.cb.length ≤ B) : x.cb.length ≤ 65545 + x.items.length * (B + 65545) := by
  cases x with
  | mk k b n t ns is =>
  rw [valid_mk] at hv
  obtain ⟨_, h2, h3, h4, h5, h6, h7, _⟩ := hv
  simp only [Nd.items] at hB ⊢
  have hk : k = 0 ∨ k = 1 ∨ k = 2 ∨ k = 3 ∨ k = 4 ∨ k = 5 := by omega
  have hmul : is.length * (B + 65545) = is.length * B + is.length * 65545 := Nat.mul_add _ _ _
  rcases hk with rfl | rfl | rfl | rfl | rfl | rfl
  · rw [show (Nd.mk 0 b n t ns is).cb = hdL 7 22 by simp [Nd.cb]]
    have := hdL_len (m := 7) (n := 22); omega
  · have e : (Nd.mk 1 b n t ns is).cb = hdL 7 (if b then 21 else 20) := by simp [Nd.cb]
    rw [e]
    have := hdL_len (m := 7) (n := if b then 21 else 20); omega
  · have e : (Nd.mk 2 b n t ns is).cb = if n < 0 then hdL 1 (-1 - n).toNat else hdL 0 n.toNat := by simp [Nd.cb]
    rw [e]
    have h1 := hdL_len (m := 1) (n := (-1 - n).toNat)
    have h0 := hdL_len (m := 0) (n := n.toNat)
    split <;> omega
  · have ht : t.size ≤ 65536 := by
      simp only [textB, Bool.and_eq_true, decide_eq_true_eq] at h5; omega
    rw [show (Nd.mk 3 b n t ns is).cb = hdL 3 t.size ++ t.data.toList by simp [Nd.cb], List.length_append, toList_len]
    have := hdL_len (m := 3) (n := t.size); omega
  · rw [show (Nd.mk 4 b n t ns is).cb = hdL 4 is.length ++ Nd.cbs is by simp [Nd.cb], List.length_append]
    have := hdL_len (m := 4) (n := is.length)
    have := cbs_le hB
    omega
  · have hs : ∀ s ∈ ns, s.size ≤ 65536 := fun s hs => by
      have := (((namesOk_iff (textB V) ns []).1 (h7 rfl).1).2 s hs).2
      simp only [textB, Bool.and_eq_true, decide_eq_true_eq] at this; omega
    rw [show (Nd.mk 5 b n t ns is).cb = hdL 5 is.length ++ Nd.cbm ns is by simp [Nd.cb], List.length_append]
    have := hdL_len (m := 5) (n := is.length)
    have := cbs_le hB
    have := cbm_le9 (l := is) hs
    omega
theorem flat_cb {V : ByteArray → Bool} {x : Nd} {e : Int} (hv : x.validB V e = true) (hi : x.items = []) : x.cb.length ≤ 65545 := by
  have := few_cb (B := 0) hv (by rw [hi]; simp)
  rw [hi] at this
  simpa using this
theorem flat2_cb {V : ByteArray → Bool} {x : Nd} {e : Int} (hv : x.validB V e = true) (h8 : x.items.length ≤ 8) (hi : ∀ y ∈ x.items, y.items = []) : x.cb.length ≤ 2000000 := by
  have h := few_cb (B := 65545) hv (fun y hy => by
    cases x with
    | mk k b n t ns is =>
    rw [valid_mk] at hv
    exact flat_cb (hv.2.2.2.2.2.2.2 y hy) (hi y hy))
  have : x.items.length * (65545 + 65545) ≤ 8 * (65545 + 65545) := Nat.mul_le_mul_right _ h8
  omega

/-- What a law asks of a node that it writes. -/
structure Enc1 (V : ByteArray → Bool) (x : Nd) : Prop where
  ok : x.Ok
  inn : x.In
  sz : x.validB V 8 = true → x.cb.length ≤ 49999999
theorem NdB.inn {mul : TypeId → Nat} {B : Nat} {x : Nd} (h : NdB mul B x) : x.In := by
  induction h with
  | mk h1 h2 h3 h4 h5 h6 h7 ih => exact .mk (wf_i64 h2).1 (wf_i64 h2).2 ih
end Go.AL
