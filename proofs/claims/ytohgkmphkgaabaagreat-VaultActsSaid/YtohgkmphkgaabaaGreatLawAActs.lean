/- Whatever the input, the law VaultActs returns true, and each argument reads behind the call as it read before; no other condition. -/
import Derived.Test.YtohgkmphkgaabaaGreatRows
import Derived.Test.YtohgkmphkgaabaaGreatTc
import Derived.Test.YtohgkmphkgaabaaGreatAl3
import Derived.ProofKit
import Derived.JoinedCond
import Derived.Deep.DeepHandedRow
import Derived.Deep.DeepWitnessRowRef
set_option linter.unusedVariables false
namespace Go.Proofs.YtohgkmphkgaabaaGreat.vaultActs
open Go.ChangeShapes Go.WideShapes Go.ChangeAt Go.RowKit Go.AL
theorem own : ownKnob Tryz.prog.godebug = none := by kernel_rfl
theorem zhX : laidOutB Tryz.prog = true := by kernel_rfl
theorem zjd : ∀ t ∈ Tryz.f3.params.toList, Tryz.prog.readableRec t = true ∧ t < Tryz.prog.types.size := by
  intro t ht
  rw [Tryz.params3] at ht
  simp at ht
  rcases ht with ht | ht | ht | ht | ht <;> subst ht <;> exact ⟨by kernel_rfl, of_decide_eq_true (by kernel_rfl)⟩
set_option maxRecDepth 100000 in
theorem zg8 (H : Type) (enc : TypeId × Value → H) (W : World) (base : Nat) (args : Array Value) (ds gs : List (DataW H)) (before : List MemPlace)
    (hval : ∀ (j : Nat) t v, Tryz.f3.params[j]? = some t → args[j]? = some v → Value.okWide Tryz.prog W .any base t v)
    (hW : DataW.Whole enc Tryz.prog Tryz.f3.params.toList Rows.vaultActsSpec.vars false W args.toList ds gs before) (hz : (DataW.weightsEach Tryz.prog (Tryz.f3.params.toList ++ (OpenSpec.ofChange Rows.vaultActsSpec).bare.plain.varTypes Tryz.prog) (ds ++ gs)).all (· ≤ reachBytes) = true) :
    Calls Tryz.prog 3 args W fun e W' => ∃ v, e = .returned v ∧ Rows.vaultActsSpec.post enc Tryz.prog Tryz.f3 false true false false W args v W' := by
  have hW' := hW
  obtain ⟨p, q, hA0, hV, rfl, hfz, hnd⟩ := hW
  have hA : DataW.TrodAll enc Tryz.prog W 0 (fun _ => true) true Tryz.f3.params.toList args.toList ds p := hA0
  rw [Tryz.params3] at hA hval
  obtain ⟨v0, vs0, d0, ds0, p0, q0, hargs, rfl, rfl, h0, r0⟩ := trodAll_cons hA
  obtain ⟨v1, vs1, d1, ds1, p1, q1, rfl, rfl, rfl, h1, r1⟩ := trodAll_cons r0
  obtain ⟨v2, vs2, d2, ds2, p2, q2, rfl, rfl, rfl, h2, r2⟩ := trodAll_cons r1
  obtain ⟨v3, vs3, d3, ds3, p3, q3, rfl, rfl, rfl, h3, r3⟩ := trodAll_cons r2
  obtain ⟨v4, vs4, d4, ds4, p4, q4, rfl, rfl, rfl, h4, r4⟩ := trodAll_cons r3
  obtain ⟨v5, vs5, d5, ds5, p5, q5, rfl, rfl, rfl, h5, r5⟩ := trodAll_cons r4
  obtain ⟨v6, vs6, d6, ds6, p6, q6, rfl, rfl, rfl, h6, r6⟩ := trodAll_cons r5
  obtain ⟨v7, vs7, d7, ds7, p7, q7, rfl, rfl, rfl, h7, r7⟩ := trodAll_cons r6
  obtain ⟨rfl, rfl, rfl⟩ := trodAll_nil r7
  obtain rfl : args = #[v0, v1, v2, v3, v4, v5, v6, v7] := by cases args; simp_all
  rw [Tryz.params3] at hz
  have w0 : ∀ n ∈ (DataW.weights Tryz.prog) 22 d0, n ≤ reachBytes := fun n hn => by simpa using List.all_eq_true.1 hz n (DataW.weights_mem_each (j := 0) rfl rfl n hn)
  obtain ⟨x0, k0, z0⟩ := (Rd.list Tryz.underlying22 (by kernel_rfl) (by decide) (Rd.int (k := .i64) Tryz.underlying3)).one h0 (hval 0 22 v0 rfl rfl) (y8 _ _) w0
  have w1 : ∀ n ∈ (DataW.weights Tryz.prog) 24 d1, n ≤ reachBytes := fun n hn => by simpa using List.all_eq_true.1 hz n (DataW.weights_mem_each (j := 1) rfl rfl n hn)
  obtain ⟨x1, k1, z1⟩ := zja.one h1 (hval 1 24 v1 rfl rfl) (y8 _ _) w1
  have w2 : ∀ n ∈ (DataW.weights Tryz.prog) 9 d2, n ≤ reachBytes := fun n hn => by simpa using List.all_eq_true.1 hz n (DataW.weights_mem_each (j := 2) rfl rfl n hn)
  obtain ⟨x2, k2, z2⟩ := (Rd.str Tryz.underlying9).one h2 (hval 2 9 v2 rfl rfl) (y8 _ _) w2
  have w3 : ∀ n ∈ (DataW.weights Tryz.prog) 3 d3, n ≤ reachBytes := fun n hn => by simpa using List.all_eq_true.1 hz n (DataW.weights_mem_each (j := 3) rfl rfl n hn)
  obtain ⟨x3, k3, z3⟩ := (Rd.int (k := .i64) Tryz.underlying3).one h3 (hval 3 3 v3 rfl rfl) (y8 _ _) w3
  have w4 : ∀ n ∈ (DataW.weights Tryz.prog) 3 d4, n ≤ reachBytes := fun n hn => by simpa using List.all_eq_true.1 hz n (DataW.weights_mem_each (j := 4) rfl rfl n hn)
  obtain ⟨x4, k4, z4⟩ := (Rd.int (k := .i64) Tryz.underlying3).one h4 (hval 4 3 v4 rfl rfl) (y8 _ _) w4
  have w5 : ∀ n ∈ (DataW.weights Tryz.prog) 3 d5, n ≤ reachBytes := fun n hn => by simpa using List.all_eq_true.1 hz n (DataW.weights_mem_each (j := 5) rfl rfl n hn)
  obtain ⟨x5, k5, z5⟩ := (Rd.int (k := .i64) Tryz.underlying3).one h5 (hval 5 3 v5 rfl rfl) (y8 _ _) w5
  have w6 : ∀ n ∈ (DataW.weights Tryz.prog) 3 d6, n ≤ reachBytes := fun n hn => by simpa using List.all_eq_true.1 hz n (DataW.weights_mem_each (j := 6) rfl rfl n hn)
  obtain ⟨x6, k6, z6⟩ := (Rd.int (k := .i64) Tryz.underlying3).one h6 (hval 6 3 v6 rfl rfl) (y8 _ _) w6
  have w7 : ∀ n ∈ (DataW.weights Tryz.prog) 9 d7, n ≤ reachBytes := fun n hn => by simpa using List.all_eq_true.1 hz n (DataW.weights_mem_each (j := 7) rfl rfl n hn)
  obtain ⟨x7, k7, z7⟩ := (Rd.str Tryz.underlying9).one h7 (hval 7 9 v7 rfl rfl) (y8 _ _) w7
  refine (Spec.calls (jH x0 x1.s x1.p x1.c x1.n x1.l x2 x3 x4 x5 x6 x7) rfl (y7 rfl z0 (y7 rfl z1 (y7 rfl z2 (y7 rfl z3 (y7 rfl z4 (y7 rfl z5 (y7 rfl z6 (y7 rfl z7 zgi))))))))).mono fun e W' ⟨he, hb⟩ => ?_
  exact ⟨_, he, zgH zhX rfl hW' zjd (by kernel_rfl) (tb := 4) (by kernel_rfl) (fun ds hd => by rw [Tryz.params3] at hd; match ds, hd with | [d0, d1, d2, d3, d4, d5, d6, d7], _ => rfl) hb⟩
set_option maxRecDepth 100000 in
theorem zcP (os : Os) {H : Type} (enc : TypeId × Value → H) :
    (OpenSpec.ofChange Rows.vaultActsSpec).preRow enc Tryz.prog Tryz.f3 Rows.vaultActsRow.domain false Rows.vaultActsRow.laid ((World.holding Tryz.prog os ⟨#[], #[], []⟩).forCall (fun _ _ => 0) ⟨#[], #[.slice none 0 0, .agg #[.string ⟨#[]⟩, .int .i64 0, .int .i64 0, .int .i64 0, .slice none 0 0], .string ⟨#[]⟩, .int .i64 0, .int .i64 0, .int .i64 0, .int .i64 0, .string ⟨#[]⟩], []⟩).memory #[.slice none 0 0, .agg #[.string ⟨#[]⟩, .int .i64 0, .int .i64 0, .int .i64 0, .slice none 0 0], .string ⟨#[]⟩, .int .i64 0, .int .i64 0, .int .i64 0, .int .i64 0, .string ⟨#[]⟩] := by
  have hw : (DataW.whole enc Tryz.prog ((World.holding Tryz.prog os ⟨#[], #[], []⟩).forCall (fun _ _ => 0) ⟨#[], #[.slice none 0 0, .agg #[.string ⟨#[]⟩, .int .i64 0, .int .i64 0, .int .i64 0, .slice none 0 0], .string ⟨#[]⟩, .int .i64 0, .int .i64 0, .int .i64 0, .int .i64 0, .string ⟨#[]⟩], []⟩).memory Tryz.f3.params.toList Rows.vaultActsSpec.vars false (#[.slice none 0 0, .agg #[.string ⟨#[]⟩, .int .i64 0, .int .i64 0, .int .i64 0, .slice none 0 0], .string ⟨#[]⟩, .int .i64 0, .int .i64 0, .int .i64 0, .int .i64 0, .string ⟨#[]⟩] : Array Value).toList 8).map (fun x => (x.1, x.2.1)) =
      some ([.nil, .agg [.lit (.string []), .lit (.int .i64 0), .lit (.int .i64 0), .lit (.int .i64 0), .nil], .lit (.string []), .lit (.int .i64 0), .lit (.int .i64 0), .lit (.int .i64 0), .lit (.int .i64 0), .lit (.string [])], []) := by kernel_rfl
  obtain ⟨⟨x1, x2, x3⟩, hx, hx1⟩ := Option.map_eq_some_iff.1 hw
  simp only [Prod.mk.injEq] at hx1
  obtain ⟨rfl, rfl⟩ := hx1
  exact OpenSpec.preRow_of_cond 8 hx (by kernel_rfl) (fun k hk => by cases hk) (by kernel_rfl) (show laidMetH _ [] _ from (⟨[], rfl, List.nodup_nil, fun _ _ h => by cases h⟩ : laidMet _ [] _))
set_option maxRecDepth 100000 in
set_option maxHeartbeats 2000000 in
theorem ziq (os : Os) (started : os.Started) (H : Type) (enc : TypeId × Value → H) (F : Stop.Interp) :
    ReturnsInHanded {} Tryz.checked os 3 .any ((OpenSpec.ofChange Rows.vaultActsSpec).preRow enc Tryz.prog Tryz.f3 Rows.vaultActsRow.domain false Rows.vaultActsRow.laid) (((OpenSpec.ofChange Rows.vaultActsSpec).at F).post enc Tryz.prog Tryz.f3 false true false false) := by
  refine returnsInHanded_of_row (C := Tryz.checked) (s := (OpenSpec.ofChange Rows.vaultActsSpec)) own started (by kernel_rfl) Tryz.func3
    (witness_row_atRef (enc := enc) (C := Tryz.checked) false (World.holding Tryz.prog os ⟨#[], #[], []⟩) #[.slice none 0 0, .agg #[.string ⟨#[]⟩, .int .i64 0, .int .i64 0, .int .i64 0, .slice none 0 0], .string ⟨#[]⟩, .int .i64 0, .int .i64 0, .int .i64 0, .int .i64 0, .string ⟨#[]⟩] rfl (by kernel_rfl) (by kernel_rfl) (by kernel_rfl) (zcP os enc)) ?_
  intro W base args ds gs before hval hW _ hcond hz hL _ _
  exact zg8 H enc W base args ds gs before hval hW hz
theorem proved : Rows.VaultActsSaid :=
  OpenClaim.holds_of_cond 3 Tryz.f3 rfl rfl rfl rfl rfl rfl rfl ⟨rfl, rfl, rfl, rfl, rfl⟩ rfl rfl rfl rfl rfl (by kernel_rfl) Tryz.func3 (by kernel_rfl)
    (of_decide_eq_true (by kernel_rfl)) (by unfold Func.isWrapper; first | (rw [if_pos (by decide +kernel)]; kernel_rfl) | (rw [if_neg (by decide +kernel)]; exact ⟨rfl, rfl⟩))
    (fun os started H enc _ F => by rw [OpenClaim.pre_eq_preRow]; exact ziq os started H enc F)
end Go.Proofs.YtohgkmphkgaabaaGreat.vaultActs
