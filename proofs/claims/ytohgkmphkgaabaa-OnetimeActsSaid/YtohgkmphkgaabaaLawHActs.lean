/- Whatever the input, the law OnetimeActs returns true, and each argument reads behind the call as it read before; no other condition. -/
import Derived.Test.YtohgkmphkgaabaaRows
import Derived.Test.YtohgkmphkgaabaaHsh
import Derived.Test.YtohgkmphkgaabaaAl3
import Derived.ProofKit
import Derived.JoinedCond
import Derived.Deep.DeepHandedRow
import Derived.Deep.DeepWitnessRowRef
set_option linter.unusedVariables false
namespace Go.Proofs.Ytohgkmphkgaabaa.onetimeActs
open Go.ChangeShapes Go.WideShapes Go.ChangeAt Go.RowKit Go.AL

theorem own : ownKnob Try.prog.godebug = none := by kernel_rfl
theorem laidOut : laidOutB Try.prog = true := by kernel_rfl
theorem kept : ∀ t ∈ Try.f8.params.toList, Try.prog.readableRec t = true ∧ t < Try.prog.types.size := by
  intro t ht
  rw [Try.params8] at ht
  simp at ht
  rcases ht with ht | ht <;> subst ht <;> exact ⟨by kernel_rfl, of_decide_eq_true (by kernel_rfl)⟩

set_option maxRecDepth 100000 in
theorem contract (H : Type) (enc : TypeId × Value → H) (W : World) (base : Nat) (args : Array Value) (ds gs : List (DataW H)) (before : List MemPlace)
    (hval : ∀ (j : Nat) t v, Try.f8.params[j]? = some t → args[j]? = some v → Value.okWide Try.prog W .any base t v)
    (hW : DataW.Whole enc Try.prog Try.f8.params.toList Rows.onetimeActsSpec.vars false W args.toList ds gs before) (hz : (DataW.weightsEach Try.prog (Try.f8.params.toList ++ (OpenSpec.ofChange Rows.onetimeActsSpec).bare.plain.varTypes Try.prog) (ds ++ gs)).all (· ≤ reachBytes) = true) :
    Calls Try.prog 8 args W fun e W' => ∃ v, e = .returned v ∧ Rows.onetimeActsSpec.post enc Try.prog Try.f8 false true false false W args v W' := by
  have hW' := hW
  obtain ⟨p, q, hA0, hV, rfl, hfz, hnd⟩ := hW
  have hA : DataW.TrodAll enc Try.prog W 0 (fun _ => true) true Try.f8.params.toList args.toList ds p := hA0
  rw [Try.params8] at hA hval
  obtain ⟨v0, vs0, d0, ds0, p0, q0, hargs, rfl, rfl, h0, r0⟩ := trodAll_cons hA
  obtain ⟨v1, vs1, d1, ds1, p1, q1, rfl, rfl, rfl, h1, r1⟩ := trodAll_cons r0
  obtain ⟨v2, vs2, d2, ds2, p2, q2, rfl, rfl, rfl, h2, r2⟩ := trodAll_cons r1
  obtain ⟨v3, vs3, d3, ds3, p3, q3, rfl, rfl, rfl, h3, r3⟩ := trodAll_cons r2
  obtain ⟨v4, vs4, d4, ds4, p4, q4, rfl, rfl, rfl, h4, r4⟩ := trodAll_cons r3
  obtain ⟨v5, vs5, d5, ds5, p5, q5, rfl, rfl, rfl, h5, r5⟩ := trodAll_cons r4
  obtain ⟨v6, vs6, d6, ds6, p6, q6, rfl, rfl, rfl, h6, r6⟩ := trodAll_cons r5
  obtain ⟨rfl, rfl, rfl⟩ := trodAll_nil r6
  obtain rfl : args = #[v0, v1, v2, v3, v4, v5, v6] := by cases args; simp_all
  rw [Try.params8] at hz
  have w0 : ∀ n ∈ (DataW.weights Try.prog) 9 d0, n ≤ reachBytes := fun n hn => by simpa using List.all_eq_true.1 hz n (DataW.weights_mem_each (j := 0) rfl rfl n hn)
  obtain ⟨x0, k0, z0⟩ := (Rd.str Try.underlying9).one h0 (hval 0 9 v0 rfl rfl) (weights_ok _ _) w0
  have w1 : ∀ n ∈ (DataW.weights Try.prog) 9 d1, n ≤ reachBytes := fun n hn => by simpa using List.all_eq_true.1 hz n (DataW.weights_mem_each (j := 1) rfl rfl n hn)
  obtain ⟨x1, k1, z1⟩ := (Rd.str Try.underlying9).one h1 (hval 1 9 v1 rfl rfl) (weights_ok _ _) w1
  have w2 : ∀ n ∈ (DataW.weights Try.prog) 9 d2, n ≤ reachBytes := fun n hn => by simpa using List.all_eq_true.1 hz n (DataW.weights_mem_each (j := 2) rfl rfl n hn)
  obtain ⟨x2, k2, z2⟩ := (Rd.str Try.underlying9).one h2 (hval 2 9 v2 rfl rfl) (weights_ok _ _) w2
  have w3 : ∀ n ∈ (DataW.weights Try.prog) 3 d3, n ≤ reachBytes := fun n hn => by simpa using List.all_eq_true.1 hz n (DataW.weights_mem_each (j := 3) rfl rfl n hn)
  obtain ⟨x3, k3, z3⟩ := (Rd.int (k := .i64) Try.underlying3).one h3 (hval 3 3 v3 rfl rfl) (weights_ok _ _) w3
  have w4 : ∀ n ∈ (DataW.weights Try.prog) 3 d4, n ≤ reachBytes := fun n hn => by simpa using List.all_eq_true.1 hz n (DataW.weights_mem_each (j := 4) rfl rfl n hn)
  obtain ⟨x4, k4, z4⟩ := (Rd.int (k := .i64) Try.underlying3).one h4 (hval 4 3 v4 rfl rfl) (weights_ok _ _) w4
  have w5 : ∀ n ∈ (DataW.weights Try.prog) 3 d5, n ≤ reachBytes := fun n hn => by simpa using List.all_eq_true.1 hz n (DataW.weights_mem_each (j := 5) rfl rfl n hn)
  obtain ⟨x5, k5, z5⟩ := (Rd.int (k := .i64) Try.underlying3).one h5 (hval 5 3 v5 rfl rfl) (weights_ok _ _) w5
  have w6 : ∀ n ∈ (DataW.weights Try.prog) 3 d6, n ≤ reachBytes := fun n hn => by simpa using List.all_eq_true.1 hz n (DataW.weights_mem_each (j := 6) rfl rfl n hn)
  obtain ⟨x6, k6, z6⟩ := (Rd.int (k := .i64) Try.underlying3).one h6 (hval 6 3 v6 rfl rfl) (weights_ok _ _) w6
  refine (Spec.calls (OnetimeActs_spec x0 x1 x2 x3 x4 x5 x6) rfl (repAs_cons rfl z0 (repAs_cons rfl z1 (repAs_cons rfl z2 (repAs_cons rfl z3 (repAs_cons rfl z4 (repAs_cons rfl z5 (repAs_cons rfl z6 repAs_nil)))))))).mono fun e W' ⟨he, hb⟩ => ?_
  exact ⟨_, he, law_post laidOut rfl hW' kept (by kernel_rfl) (tb := 4) (by kernel_rfl) (fun ds hd => by rw [Try.params8] at hd; match ds, hd with | [d0, d1, d2, d3, d4, d5, d6], _ => rfl) hb⟩

set_option maxRecDepth 100000 in
theorem witness_row (os : Os) {H : Type} (enc : TypeId × Value → H) :
    (OpenSpec.ofChange Rows.onetimeActsSpec).preRow enc Try.prog Try.f8 Rows.onetimeActsRow.domain false Rows.onetimeActsRow.laid ((World.holding Try.prog os ⟨#[], #[], []⟩).forCall (fun _ _ => 0) ⟨#[], #[.string ⟨#[]⟩, .string ⟨#[]⟩, .string ⟨#[]⟩, .int .i64 0, .int .i64 0, .int .i64 0, .int .i64 0], []⟩).memory #[.string ⟨#[]⟩, .string ⟨#[]⟩, .string ⟨#[]⟩, .int .i64 0, .int .i64 0, .int .i64 0, .int .i64 0] := by
  have hw : (DataW.whole enc Try.prog ((World.holding Try.prog os ⟨#[], #[], []⟩).forCall (fun _ _ => 0) ⟨#[], #[.string ⟨#[]⟩, .string ⟨#[]⟩, .string ⟨#[]⟩, .int .i64 0, .int .i64 0, .int .i64 0, .int .i64 0], []⟩).memory Try.f8.params.toList Rows.onetimeActsSpec.vars false (#[.string ⟨#[]⟩, .string ⟨#[]⟩, .string ⟨#[]⟩, .int .i64 0, .int .i64 0, .int .i64 0, .int .i64 0] : Array Value).toList 8).map (fun x => (x.1, x.2.1)) =
      some ([.lit (.string []), .lit (.string []), .lit (.string []), .lit (.int .i64 0), .lit (.int .i64 0), .lit (.int .i64 0), .lit (.int .i64 0)], []) := by kernel_rfl
  obtain ⟨⟨x1, x2, x3⟩, hx, hx1⟩ := Option.map_eq_some_iff.1 hw
  simp only [Prod.mk.injEq] at hx1
  obtain ⟨rfl, rfl⟩ := hx1
  exact OpenSpec.preRow_of_cond 8 hx (by kernel_rfl) (fun k hk => by cases hk) (by kernel_rfl) (show laidMetH _ [] _ from (⟨[], rfl, List.nodup_nil, fun _ _ h => by cases h⟩ : laidMet _ [] _))

set_option maxRecDepth 100000 in
set_option maxHeartbeats 2000000 in
theorem lifted (os : Os) (started : os.Started) (H : Type) (enc : TypeId × Value → H) (F : Stop.Interp) :
    ReturnsInHanded {} Try.checked os 8 .any ((OpenSpec.ofChange Rows.onetimeActsSpec).preRow enc Try.prog Try.f8 Rows.onetimeActsRow.domain false Rows.onetimeActsRow.laid) (((OpenSpec.ofChange Rows.onetimeActsSpec).at F).post enc Try.prog Try.f8 false true false false) := by
  refine returnsInHanded_of_row (C := Try.checked) (s := (OpenSpec.ofChange Rows.onetimeActsSpec)) own started (by kernel_rfl) Try.func8
    (witness_row_atRef (enc := enc) (C := Try.checked) false (World.holding Try.prog os ⟨#[], #[], []⟩) #[.string ⟨#[]⟩, .string ⟨#[]⟩, .string ⟨#[]⟩, .int .i64 0, .int .i64 0, .int .i64 0, .int .i64 0] rfl (by kernel_rfl) (by kernel_rfl) (by kernel_rfl) (witness_row os enc)) ?_
  intro W base args ds gs before hval hW _ hcond hz hL _ _
  exact contract H enc W base args ds gs before hval hW hz

theorem proved : Rows.OnetimeActsSaid :=
  OpenClaim.holds_of_cond 8 Try.f8 rfl rfl rfl rfl rfl rfl rfl ⟨rfl, rfl, rfl, rfl, rfl⟩ rfl rfl rfl rfl rfl (by kernel_rfl) Try.func8 (by kernel_rfl)
    (of_decide_eq_true (by kernel_rfl)) (by unfold Func.isWrapper; first | (rw [if_pos (by decide +kernel)]; kernel_rfl) | (rw [if_neg (by decide +kernel)]; exact ⟨rfl, rfl⟩))
    (fun os started H enc _ F => by rw [OpenClaim.pre_eq_preRow]; exact lifted os started H enc F)

end Go.Proofs.Ytohgkmphkgaabaa.onetimeActs
