/- Whatever the input, the law VaultCommits returns true, and each argument reads behind the call as it read before; no other condition. -/
import Derived.Test.YtbdejdhdblplgaaGreatRows
import Derived.Test.YtbdejdhdblplgaaGreatTd
import Derived.Test.YtbdejdhdblplgaaGreatAl3
import Derived.ProofKit
import Derived.JoinedCond
import Derived.Deep.DeepHandedRow
import Derived.Deep.DeepWitnessRowRef
set_option linter.unusedVariables false
namespace Go.Proofs.YtbdejdhdblplgaaGreat.vaultCommits
open Go.ChangeShapes Go.WideShapes Go.ChangeAt Go.RowKit Go.AL
theorem own : ownKnob Tryz.prog.godebug = none := by kernel_rfl
theorem zis : laidOutB Tryz.prog = true := by kernel_rfl
theorem zln : ∀ t ∈ Tryz.f3.params.toList, Tryz.prog.readableRec t = true ∧ t < Tryz.prog.types.size := by
  intro t ht
  rw [Tryz.params3] at ht
  simp at ht
  subst ht
  exact ⟨by kernel_rfl, of_decide_eq_true (by kernel_rfl)⟩
set_option maxRecDepth 100000 in
theorem zht (H : Type) (enc : TypeId × Value → H) (W : World) (base : Nat) (args : Array Value) (ds gs : List (DataW H)) (before : List MemPlace)
    (hval : ∀ (j : Nat) t v, Tryz.f3.params[j]? = some t → args[j]? = some v → Value.okWide Tryz.prog W .any base t v)
    (hW : DataW.Whole enc Tryz.prog Tryz.f3.params.toList Rows.vaultCommitsSpec.vars false W args.toList ds gs before) (hz : (DataW.weightsEach Tryz.prog (Tryz.f3.params.toList ++ (OpenSpec.ofChange Rows.vaultCommitsSpec).bare.plain.varTypes Tryz.prog) (ds ++ gs)).all (· ≤ reachBytes) = true) :
    Calls Tryz.prog 3 args W fun e W' => ∃ v, e = .returned v ∧ Rows.vaultCommitsSpec.post enc Tryz.prog Tryz.f3 false true false false W args v W' := by
  have hW' := hW
  obtain ⟨p, q, hA0, hV, rfl, hfz, hnd⟩ := hW
  have hA : DataW.TrodAll enc Tryz.prog W 0 (fun _ => true) true Tryz.f3.params.toList args.toList ds p := hA0
  rw [Tryz.params3] at hA hval
  obtain ⟨v0, vs0, d0, ds0, p0, q0, hargs, rfl, rfl, h0, r0⟩ := trodAll_cons hA
  obtain ⟨v1, vs1, d1, ds1, p1, q1, rfl, rfl, rfl, h1, r1⟩ := trodAll_cons r0
  obtain ⟨v2, vs2, d2, ds2, p2, q2, rfl, rfl, rfl, h2, r2⟩ := trodAll_cons r1
  obtain ⟨rfl, rfl, rfl⟩ := trodAll_nil r2
  obtain rfl : args = #[v0, v1, v2] := by cases args; simp_all
  rw [Tryz.params3] at hz
  have w0 : ∀ n ∈ (DataW.weights Tryz.prog) 5 d0, n ≤ reachBytes := fun n hn => by simpa using List.all_eq_true.1 hz n (DataW.weights_mem_each (j := 0) rfl rfl n hn)
  obtain ⟨x0, k0, z0⟩ := (Rd.int (k := .u8) Tryz.underlying5).one h0 (hval 0 5 v0 rfl rfl) (q5 _ _) w0
  have w1 : ∀ n ∈ (DataW.weights Tryz.prog) 5 d1, n ≤ reachBytes := fun n hn => by simpa using List.all_eq_true.1 hz n (DataW.weights_mem_each (j := 1) rfl rfl n hn)
  obtain ⟨x1, k1, z1⟩ := (Rd.int (k := .u8) Tryz.underlying5).one h1 (hval 1 5 v1 rfl rfl) (q5 _ _) w1
  have w2 : ∀ n ∈ (DataW.weights Tryz.prog) 5 d2, n ≤ reachBytes := fun n hn => by simpa using List.all_eq_true.1 hz n (DataW.weights_mem_each (j := 2) rfl rfl n hn)
  obtain ⟨x2, k2, z2⟩ := (Rd.int (k := .u8) Tryz.underlying5).one h2 (hval 2 5 v2 rfl rfl) (q5 _ _) w2
  refine (Spec.calls (qQ x0 x1 x2 (zeG k0).1 (zeG k0).2 (zeG k1).1 (zeG k1).2 (zeG k2).1 (zeG k2).2) rfl (qL rfl z0 (qL rfl z1 (qL rfl z2 zgw)))).mono fun e W' ⟨he, hb⟩ => ?_
  exact ⟨_, he, zhA zis rfl hW' zln (by kernel_rfl) (tb := 4) (by kernel_rfl) (fun ds hd => by rw [Tryz.params3] at hd; match ds, hd with | [d0, d1, d2], _ => rfl) hb⟩
set_option maxRecDepth 100000 in
theorem zdI (os : Os) {H : Type} (enc : TypeId × Value → H) :
    (OpenSpec.ofChange Rows.vaultCommitsSpec).preRow enc Tryz.prog Tryz.f3 Rows.vaultCommitsRow.domain false Rows.vaultCommitsRow.laid ((World.holding Tryz.prog os ⟨#[], #[], []⟩).forCall (fun _ _ => 0) ⟨#[], #[.int .u8 0, .int .u8 0, .int .u8 0], []⟩).memory #[.int .u8 0, .int .u8 0, .int .u8 0] := by
  have hw : (DataW.whole enc Tryz.prog ((World.holding Tryz.prog os ⟨#[], #[], []⟩).forCall (fun _ _ => 0) ⟨#[], #[.int .u8 0, .int .u8 0, .int .u8 0], []⟩).memory Tryz.f3.params.toList Rows.vaultCommitsSpec.vars false (#[.int .u8 0, .int .u8 0, .int .u8 0] : Array Value).toList 8).map (fun x => (x.1, x.2.1)) =
      some ([.lit (.int .u8 0), .lit (.int .u8 0), .lit (.int .u8 0)], []) := by kernel_rfl
  obtain ⟨⟨x1, x2, x3⟩, hx, hx1⟩ := Option.map_eq_some_iff.1 hw
  simp only [Prod.mk.injEq] at hx1
  obtain ⟨rfl, rfl⟩ := hx1
  exact OpenSpec.preRow_of_cond 8 hx (by kernel_rfl) (fun k hk => by cases hk) (by kernel_rfl) (show laidMetH _ [] _ from (⟨[], rfl, List.nodup_nil, fun _ _ h => by cases h⟩ : laidMet _ [] _))
set_option maxRecDepth 100000 in
set_option maxHeartbeats 2000000 in
theorem zj5 (os : Os) (started : os.Started) (H : Type) (enc : TypeId × Value → H) (F : Stop.Interp) :
    ReturnsInHanded {} Tryz.checked os 3 .any ((OpenSpec.ofChange Rows.vaultCommitsSpec).preRow enc Tryz.prog Tryz.f3 Rows.vaultCommitsRow.domain false Rows.vaultCommitsRow.laid) (((OpenSpec.ofChange Rows.vaultCommitsSpec).at F).post enc Tryz.prog Tryz.f3 false true false false) := by
  refine returnsInHanded_of_row (C := Tryz.checked) (s := (OpenSpec.ofChange Rows.vaultCommitsSpec)) own started (by kernel_rfl) Tryz.func3
    (witness_row_atRef (enc := enc) (C := Tryz.checked) false (World.holding Tryz.prog os ⟨#[], #[], []⟩) #[.int .u8 0, .int .u8 0, .int .u8 0] rfl (by kernel_rfl) (by kernel_rfl) (by kernel_rfl) (zdI os enc)) ?_
  intro W base args ds gs before hval hW _ hcond hz hL _ _
  exact zht H enc W base args ds gs before hval hW hz
theorem proved : Rows.VaultCommitsSaid :=
  OpenClaim.holds_of_cond 3 Tryz.f3 rfl rfl rfl rfl rfl rfl rfl ⟨rfl, rfl, rfl, rfl, rfl⟩ rfl rfl rfl rfl rfl (by kernel_rfl) Tryz.func3 (by kernel_rfl)
    (of_decide_eq_true (by kernel_rfl)) (by unfold Func.isWrapper; first | (rw [if_pos (by decide +kernel)]; kernel_rfl) | (rw [if_neg (by decide +kernel)]; exact ⟨rfl, rfl⟩))
    (fun os started H enc _ F => by rw [OpenClaim.pre_eq_preRow]; exact zj5 os started H enc F)
end Go.Proofs.YtbdejdhdblplgaaGreat.vaultCommits
