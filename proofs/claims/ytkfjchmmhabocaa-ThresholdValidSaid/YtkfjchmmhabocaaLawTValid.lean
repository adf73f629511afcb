/- Whatever the input, the law ThresholdValid returns true, and each argument reads behind the call as it read before; no other condition. -/
import Derived.Test.YtkfjchmmhabocaaRows
import Derived.Test.YtkfjchmmhabocaaThf
import Derived.Test.YtkfjchmmhabocaaAl3
import Derived.ProofKit
import Derived.JoinedCond
import Derived.Deep.DeepHandedRow
import Derived.Deep.DeepWitnessRowRef
set_option linter.unusedVariables false
namespace Go.Proofs.Ytkfjchmmhabocaa.thresholdValid
open Go.ChangeShapes Go.WideShapes Go.ChangeAt Go.RowKit Go.AL

theorem own : ownKnob Try.prog.godebug = none := by kernel_rfl
theorem laidOut : laidOutB Try.prog = true := by kernel_rfl
theorem kept : ∀ t ∈ Try.f6.params.toList, Try.prog.readableRec t = true ∧ t < Try.prog.types.size := by
  intro t ht
  rw [Try.params6] at ht
  simp at ht
  rcases ht with ht | ht | ht | ht <;> subst ht <;> exact ⟨by kernel_rfl, of_decide_eq_true (by kernel_rfl)⟩

set_option maxRecDepth 100000 in
theorem contract (H : Type) (enc : TypeId × Value → H) (W : World) (base : Nat) (args : Array Value) (ds gs : List (DataW H)) (before : List MemPlace)
    (hval : ∀ (j : Nat) t v, Try.f6.params[j]? = some t → args[j]? = some v → Value.okWide Try.prog W .any base t v)
    (hW : DataW.Whole enc Try.prog Try.f6.params.toList Rows.thresholdValidSpec.vars false W args.toList ds gs before) (hz : (DataW.weightsEach Try.prog (Try.f6.params.toList ++ (OpenSpec.ofChange Rows.thresholdValidSpec).bare.plain.varTypes Try.prog) (ds ++ gs)).all (· ≤ reachBytes) = true) :
    Calls Try.prog 6 args W fun e W' => ∃ v, e = .returned v ∧ Rows.thresholdValidSpec.post enc Try.prog Try.f6 false true false false W args v W' := by
  have hW' := hW
  obtain ⟨p, q, hA0, hV, rfl, hfz, hnd⟩ := hW
  have hA : DataW.TrodAll enc Try.prog W 0 (fun _ => true) true Try.f6.params.toList args.toList ds p := hA0
  rw [Try.params6] at hA hval
  obtain ⟨v0, vs0, d0, ds0, p0, q0, hargs, rfl, rfl, h0, r0⟩ := trodAll_cons hA
  obtain ⟨v1, vs1, d1, ds1, p1, q1, rfl, rfl, rfl, h1, r1⟩ := trodAll_cons r0
  obtain ⟨v2, vs2, d2, ds2, p2, q2, rfl, rfl, rfl, h2, r2⟩ := trodAll_cons r1
  obtain ⟨v3, vs3, d3, ds3, p3, q3, rfl, rfl, rfl, h3, r3⟩ := trodAll_cons r2
  obtain ⟨rfl, rfl, rfl⟩ := trodAll_nil r3
  obtain rfl : args = #[v0, v1, v2, v3] := by cases args; simp_all
  rw [Try.params6] at hz
  have w0 : ∀ n ∈ (DataW.weights Try.prog) 22 d0, n ≤ reachBytes := fun n hn => by simpa using List.all_eq_true.1 hz n (DataW.weights_mem_each (j := 0) rfl rfl n hn)
  obtain ⟨x0, k0, z0⟩ := (Rd.list Try.underlying22 (by kernel_rfl) (by decide) (Rd.int (k := .i64) Try.underlying3)).one h0 (hval 0 22 v0 rfl rfl) (weights_ok _ _) w0
  have w1 : ∀ n ∈ (DataW.weights Try.prog) 30 d1, n ≤ reachBytes := fun n hn => by simpa using List.all_eq_true.1 hz n (DataW.weights_mem_each (j := 1) rfl rfl n hn)
  obtain ⟨x1, k1, z1⟩ := rdTh.one h1 (hval 1 30 v1 rfl rfl) (weights_ok _ _) w1
  have w2 : ∀ n ∈ (DataW.weights Try.prog) 39 d2, n ≤ reachBytes := fun n hn => by simpa using List.all_eq_true.1 hz n (DataW.weights_mem_each (j := 2) rfl rfl n hn)
  obtain ⟨x2, k2, z2⟩ := (Rd.list Try.underlying39 (by kernel_rfl) (by decide) rdFr).one h2 (hval 2 39 v2 rfl rfl) (weights_ok _ _) w2
  have w3 : ∀ n ∈ (DataW.weights Try.prog) 3 d3, n ≤ reachBytes := fun n hn => by simpa using List.all_eq_true.1 hz n (DataW.weights_mem_each (j := 3) rfl rfl n hn)
  obtain ⟨x3, k3, z3⟩ := (Rd.int (k := .i64) Try.underlying3).one h3 (hval 3 3 v3 rfl rfl) (weights_ok _ _) w3
  refine (Spec.calls (ThresholdValid_spec x0 x1 x2 x3) rfl (repAs_cons rfl z0 (repAs_cons rfl z1 (repAs_cons rfl z2 (repAs_cons rfl z3 repAs_nil))))).mono fun e W' ⟨he, hb⟩ => ?_
  exact ⟨_, he, law_post laidOut rfl hW' kept (by kernel_rfl) (tb := 4) (by kernel_rfl) (fun ds hd => by rw [Try.params6] at hd; match ds, hd with | [d0, d1, d2, d3], _ => rfl) hb⟩

set_option maxRecDepth 100000 in
theorem witness_row (os : Os) {H : Type} (enc : TypeId × Value → H) :
    (OpenSpec.ofChange Rows.thresholdValidSpec).preRow enc Try.prog Try.f6 Rows.thresholdValidRow.domain false Rows.thresholdValidRow.laid ((World.holding Try.prog os ⟨#[], #[], []⟩).forCall (fun _ _ => 0) ⟨#[], #[.slice none 0 0, .agg #[.int .i64 0, .slice none 0 0], .slice none 0 0, .int .i64 0], []⟩).memory #[.slice none 0 0, .agg #[.int .i64 0, .slice none 0 0], .slice none 0 0, .int .i64 0] := by
  have hw : (DataW.whole enc Try.prog ((World.holding Try.prog os ⟨#[], #[], []⟩).forCall (fun _ _ => 0) ⟨#[], #[.slice none 0 0, .agg #[.int .i64 0, .slice none 0 0], .slice none 0 0, .int .i64 0], []⟩).memory Try.f6.params.toList Rows.thresholdValidSpec.vars false (#[.slice none 0 0, .agg #[.int .i64 0, .slice none 0 0], .slice none 0 0, .int .i64 0] : Array Value).toList 8).map (fun x => (x.1, x.2.1)) =
      some ([.nil, .agg [.lit (.int .i64 0), .nil], .nil, .lit (.int .i64 0)], []) := by kernel_rfl
  obtain ⟨⟨x1, x2, x3⟩, hx, hx1⟩ := Option.map_eq_some_iff.1 hw
  simp only [Prod.mk.injEq] at hx1
  obtain ⟨rfl, rfl⟩ := hx1
  exact OpenSpec.preRow_of_cond 8 hx (by kernel_rfl) (fun k hk => by cases hk) (by kernel_rfl) (show laidMetH _ [] _ from (⟨[], rfl, List.nodup_nil, fun _ _ h => by cases h⟩ : laidMet _ [] _))

set_option maxRecDepth 100000 in
set_option maxHeartbeats 2000000 in
theorem lifted (os : Os) (started : os.Started) (H : Type) (enc : TypeId × Value → H) (F : Stop.Interp) :
    ReturnsInHanded {} Try.checked os 6 .any ((OpenSpec.ofChange Rows.thresholdValidSpec).preRow enc Try.prog Try.f6 Rows.thresholdValidRow.domain false Rows.thresholdValidRow.laid) (((OpenSpec.ofChange Rows.thresholdValidSpec).at F).post enc Try.prog Try.f6 false true false false) := by
  refine returnsInHanded_of_row (C := Try.checked) (s := (OpenSpec.ofChange Rows.thresholdValidSpec)) own started (by kernel_rfl) Try.func6
    (witness_row_atRef (enc := enc) (C := Try.checked) false (World.holding Try.prog os ⟨#[], #[], []⟩) #[.slice none 0 0, .agg #[.int .i64 0, .slice none 0 0], .slice none 0 0, .int .i64 0] rfl (by kernel_rfl) (by kernel_rfl) (by kernel_rfl) (witness_row os enc)) ?_
  intro W base args ds gs before hval hW _ hcond hz hL _ _
  exact contract H enc W base args ds gs before hval hW hz

theorem proved : Rows.ThresholdValidSaid :=
  OpenClaim.holds_of_cond 6 Try.f6 rfl rfl rfl rfl rfl rfl rfl ⟨rfl, rfl, rfl, rfl, rfl⟩ rfl rfl rfl rfl rfl (by kernel_rfl) Try.func6 (by kernel_rfl)
    (of_decide_eq_true (by kernel_rfl)) (by unfold Func.isWrapper; first | (rw [if_pos (by decide +kernel)]; kernel_rfl) | (rw [if_neg (by decide +kernel)]; exact ⟨rfl, rfl⟩))
    (fun os started H enc _ F => by rw [OpenClaim.pre_eq_preRow]; exact lifted os started H enc F)

end Go.Proofs.Ytkfjchmmhabocaa.thresholdValid
