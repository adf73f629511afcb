/- Whatever the input, the law ThresholdGrows returns true, and each argument reads behind the call as it read before; no other condition. -/
import Derived.Test.YtkfjchmmhabocaaRows
import Derived.Test.YtkfjchmmhabocaaThe
import Derived.Test.YtkfjchmmhabocaaAl3
import Derived.ProofKit
import Derived.JoinedCond
import Derived.Deep.DeepHandedRow
import Derived.Deep.DeepWitnessRowRef
set_option linter.unusedVariables false
namespace Go.Proofs.Ytkfjchmmhabocaa.thresholdGrows
open Go.ChangeShapes Go.WideShapes Go.ChangeAt Go.RowKit Go.AL

theorem own : ownKnob Try.prog.godebug = none := by kernel_rfl
theorem laidOut : laidOutB Try.prog = true := by kernel_rfl
theorem kept : ∀ t ∈ Try.f4.params.toList, Try.prog.readableRec t = true ∧ t < Try.prog.types.size := by
  intro t ht
  rw [Try.params4] at ht
  simp at ht
  subst ht
  exact ⟨by kernel_rfl, of_decide_eq_true (by kernel_rfl)⟩

set_option maxRecDepth 100000 in
theorem contract (H : Type) (enc : TypeId × Value → H) (W : World) (base : Nat) (args : Array Value) (ds gs : List (DataW H)) (before : List MemPlace)
    (hval : ∀ (j : Nat) t v, Try.f4.params[j]? = some t → args[j]? = some v → Value.okWide Try.prog W .any base t v)
    (hW : DataW.Whole enc Try.prog Try.f4.params.toList Rows.thresholdGrowsSpec.vars false W args.toList ds gs before) (hz : (DataW.weightsEach Try.prog (Try.f4.params.toList ++ (OpenSpec.ofChange Rows.thresholdGrowsSpec).bare.plain.varTypes Try.prog) (ds ++ gs)).all (· ≤ reachBytes) = true) :
    Calls Try.prog 4 args W fun e W' => ∃ v, e = .returned v ∧ Rows.thresholdGrowsSpec.post enc Try.prog Try.f4 false true false false W args v W' := by
  have hW' := hW
  obtain ⟨p, q, hA0, hV, rfl, hfz, hnd⟩ := hW
  have hA : DataW.TrodAll enc Try.prog W 0 (fun _ => true) true Try.f4.params.toList args.toList ds p := hA0
  rw [Try.params4] at hA hval
  obtain ⟨v0, vs0, d0, ds0, p0, q0, hargs, rfl, rfl, h0, r0⟩ := trodAll_cons hA
  obtain ⟨rfl, rfl, rfl⟩ := trodAll_nil r0
  obtain rfl : args = #[v0] := by cases args; simp_all
  rw [Try.params4] at hz
  have w0 : ∀ n ∈ (DataW.weights Try.prog) 22 d0, n ≤ reachBytes := fun n hn => by simpa using List.all_eq_true.1 hz n (DataW.weights_mem_each (j := 0) rfl rfl n hn)
  obtain ⟨x0, k0, z0⟩ := (Rd.list Try.underlying22 (by kernel_rfl) (by decide) (Rd.int (k := .i64) Try.underlying3)).one h0 (hval 0 22 v0 rfl rfl) (weights_ok _ _) w0
  refine (Spec.calls (ThresholdGrows_spec x0) rfl (repAs_cons rfl z0 repAs_nil)).mono fun e W' ⟨he, hb⟩ => ?_
  exact ⟨_, he, law_post laidOut rfl hW' kept (by kernel_rfl) (tb := 4) (by kernel_rfl) (fun ds hd => by rw [Try.params4] at hd; match ds, hd with | [d0], _ => rfl) hb⟩

set_option maxRecDepth 100000 in
theorem witness_row (os : Os) {H : Type} (enc : TypeId × Value → H) :
    (OpenSpec.ofChange Rows.thresholdGrowsSpec).preRow enc Try.prog Try.f4 Rows.thresholdGrowsRow.domain false Rows.thresholdGrowsRow.laid ((World.holding Try.prog os ⟨#[], #[], []⟩).forCall (fun _ _ => 0) ⟨#[], #[.slice none 0 0], []⟩).memory #[.slice none 0 0] := by
  have hw : (DataW.whole enc Try.prog ((World.holding Try.prog os ⟨#[], #[], []⟩).forCall (fun _ _ => 0) ⟨#[], #[.slice none 0 0], []⟩).memory Try.f4.params.toList Rows.thresholdGrowsSpec.vars false (#[.slice none 0 0] : Array Value).toList 8).map (fun x => (x.1, x.2.1)) =
      some ([.nil], []) := by kernel_rfl
  obtain ⟨⟨x1, x2, x3⟩, hx, hx1⟩ := Option.map_eq_some_iff.1 hw
  simp only [Prod.mk.injEq] at hx1
  obtain ⟨rfl, rfl⟩ := hx1
  exact OpenSpec.preRow_of_cond 8 hx (by kernel_rfl) (fun k hk => by cases hk) (by kernel_rfl) (show laidMetH _ [] _ from (⟨[], rfl, List.nodup_nil, fun _ _ h => by cases h⟩ : laidMet _ [] _))

set_option maxRecDepth 100000 in
set_option maxHeartbeats 2000000 in
theorem lifted (os : Os) (started : os.Started) (H : Type) (enc : TypeId × Value → H) (F : Stop.Interp) :
    ReturnsInHanded {} Try.checked os 4 .any ((OpenSpec.ofChange Rows.thresholdGrowsSpec).preRow enc Try.prog Try.f4 Rows.thresholdGrowsRow.domain false Rows.thresholdGrowsRow.laid) (((OpenSpec.ofChange Rows.thresholdGrowsSpec).at F).post enc Try.prog Try.f4 false true false false) := by
  refine returnsInHanded_of_row (C := Try.checked) (s := (OpenSpec.ofChange Rows.thresholdGrowsSpec)) own started (by kernel_rfl) Try.func4
    (witness_row_atRef (enc := enc) (C := Try.checked) false (World.holding Try.prog os ⟨#[], #[], []⟩) #[.slice none 0 0] rfl (by kernel_rfl) (by kernel_rfl) (by kernel_rfl) (witness_row os enc)) ?_
  intro W base args ds gs before hval hW _ hcond hz hL _ _
  exact contract H enc W base args ds gs before hval hW hz

theorem proved : Rows.ThresholdGrowsSaid :=
  OpenClaim.holds_of_cond 4 Try.f4 rfl rfl rfl rfl rfl rfl rfl ⟨rfl, rfl, rfl, rfl, rfl⟩ rfl rfl rfl rfl rfl (by kernel_rfl) Try.func4 (by kernel_rfl)
    (of_decide_eq_true (by kernel_rfl)) (by unfold Func.isWrapper; first | (rw [if_pos (by decide +kernel)]; kernel_rfl) | (rw [if_neg (by decide +kernel)]; exact ⟨rfl, rfl⟩))
    (fun os started H enc _ F => by rw [OpenClaim.pre_eq_preRow]; exact lifted os started H enc F)

end Go.Proofs.Ytkfjchmmhabocaa.thresholdGrows
