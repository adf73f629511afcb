/- Whatever the input, the law ThresholdBack returns true, and each argument reads behind the call as it read before, where the listed variables hold what the text of the program lays (tied); no other condition. -/
import Derived.Test.YtmidabiehblekaaGreatDoorCards
import Derived.Test.YtmidabiehblekaaGreatDoorTie
import Derived.Test.YtmidabiehblekaaGreatDoorTc
import Derived.Test.YtmidabiehblekaaGreatDoorAl4
import Derived.ProofKit
import Derived.JoinedCond
import Derived.Deep.DeepHandedRow
import Derived.Deep.DeepWitnessRowRef
import Derived.Lib.LaidIn
import Derived.SevenTiedAt
set_option linter.unusedVariables false
namespace Go.Proofs.YtmidabiehblekaaGreatDoor.thresholdBack
open Go.ChangeShapes Go.WideShapes Go.ChangeAt Go.RowKit Go.AL
theorem own : ownKnob Tryz.prog.godebug = none := by kernel_rfl
theorem zeG : laidOutB Tryz.prog = true := by kernel_rfl
def zfD : List (String × DataW Unit) := [("math/bits.deBruijn32tab", Rows.laid_math_bits_deBruijn32tab), ("math/bits.deBruijn64tab", Rows.laid_math_bits_deBruijn64tab), ("internal/strconv.uint64pow10", Rows.laid_internal_strconv_uint64pow10), ("strconv.ErrRange", Rows.laid_strconv_ErrRange), ("strconv.ErrSyntax", Rows.laid_strconv_ErrSyntax)]
set_option maxRecDepth 100000 in
theorem zey : Rows.thresholdBackRow.laid = zfD := by kernel_rfl
theorem zgz : ∀ t ∈ Tryz.f5.params.toList, Tryz.prog.readableRec t = true ∧ t < Tryz.prog.types.size := by
  intro t ht
  rw [Tryz.params5] at ht
  simp at ht
  subst ht
  exact ⟨by kernel_rfl, of_decide_eq_true (by kernel_rfl)⟩
set_option maxRecDepth 100000 in
theorem zd3 (H : Type) (enc : TypeId × Value → H) (W : World) (base : Nat) (args : Array Value) (ds gs : List (DataW H)) (before : List MemPlace)
    (hval : ∀ (j : Nat) t v, Tryz.f5.params[j]? = some t → args[j]? = some v → Value.okWide Tryz.prog W .any base t v)
    (hW : DataW.Whole enc Tryz.prog Tryz.f5.params.toList Rows.thresholdBackSpec.vars false W args.toList ds gs before) (hL : laidMetH Tryz.prog Rows.thresholdBackRow.laid W) (hz : (DataW.weightsEach Tryz.prog (Tryz.f5.params.toList ++ (OpenSpec.ofChange Rows.thresholdBackSpec).bare.plain.varTypes Tryz.prog) (ds ++ gs)).all (· ≤ reachBytes) = true) :
    Calls Tryz.prog 5 args W fun e W' => ∃ v, e = .returned v ∧ Rows.thresholdBackSpec.post enc Tryz.prog Tryz.f5 false true false false W args v W' := by
  rw [zey] at hL
  obtain ⟨oP, hoP, ioP, joP⟩ := zev (P := Tryz.prog) (k := .u64) (zs := zgh) (g := 2) (t := 276) (by kernel_rfl) (by kernel_rfl) Tryz.underlying276 Tryz.underlying201 (by kernel_rfl) (by kernel_rfl) (Lib.laidMet.reads hL (.tail _ (.tail _ (.head _))))
  obtain ⟨oS, hoS, ioS, joS⟩ := zep (P := Tryz.prog) (g := 3) (t := 128) (by kernel_rfl) (by kernel_rfl) Tryz.underlying128 (Lib.laidMet.reads hL (.tail _ (.tail _ (.tail _ (.tail _ (.head _))))))
  obtain ⟨oR, hoR, ioR, joR⟩ := zep (P := Tryz.prog) (g := 4) (t := 128) (by kernel_rfl) (by kernel_rfl) Tryz.underlying128 (Lib.laidMet.reads hL (.tail _ (.tail _ (.tail _ (.head _)))))
  obtain ⟨oD, hoD, ioD, joD⟩ := zev (P := Tryz.prog) (k := .u8) (zs := deB) (g := 7) (t := 311) (by kernel_rfl) (by kernel_rfl) Tryz.underlying311 Tryz.underlying5 (by kernel_rfl) (by kernel_rfl) (Lib.laidMet.reads hL (.tail _ (.head _)))
  have hG : ∀ x ∈ ([(2, oP), (3, oS), (4, oR), (7, oD)] : List (Nat × Obj)), W.heap[x.1]? = some x.2 := by
    intro x hx
    simp only [List.mem_cons, List.not_mem_nil, or_false] at hx
    rcases hx with rfl | rfl | rfl | rfl
    · exact hoP
    · exact hoS
    · exact hoR
    · exact hoD
  have hU : zf3 [2, 3, 4, 7] W := by
    intro b hb o u hu
    simp only [List.mem_cons, List.not_mem_nil, or_false] at hb
    rcases hb with rfl | rfl | rfl | rfl
    · exact .inr (.inr (joP o u hu))
    · exact .inr (.inl (joS o u hu))
    · exact .inr (.inl (joR o u hu))
    · exact .inl (joD o u hu)
  have hW' := hW
  obtain ⟨p, q, hA0, hV, rfl, hfz, hnd⟩ := hW
  have hA : DataW.TrodAll enc Tryz.prog W 0 (fun _ => true) true Tryz.f5.params.toList args.toList ds p := hA0
  rw [Tryz.params5] at hA hval
  obtain ⟨v0, vs0, d0, ds0, p0, q0, hargs, rfl, rfl, h0, r0⟩ := trodAll_cons hA
  obtain ⟨rfl, rfl, rfl⟩ := trodAll_nil r0
  obtain rfl : args = #[v0] := by cases args; simp_all
  rw [Tryz.params5] at hz
  have w0 : ∀ n ∈ DataW.weights Tryz.prog 22 d0, n ≤ reachBytes := fun n hn => by simpa using List.all_eq_true.1 hz n (DataW.weights_mem_each (j := 0) rfl rfl n hn)
  obtain ⟨x0, k0, z0⟩ := (Rd.list Tryz.underlying22 (by kernel_rfl) (by decide) (Rd.int (k := .i64) Tryz.underlying3)).one h0 (hval 0 22 v0 rfl rfl) (zcv _ _) w0
  refine (Spec.callsG (k := 102) (G := [(2, oP), (3, oS), (4, oR), (7, oD)]) (wQ (zfE ioP) ⟨ioS, ioR⟩ ioD x0) hG (show ([2, 3, 4, 7] : List Nat).Nodup by decide) rfl (zcy rfl (RepT.tabG hU (zeC x0) z0) zdq)).mono fun e W' ⟨he, hb⟩ => ?_
  exact ⟨_, he, zdJ zeG rfl hW' zgz (by kernel_rfl) (tb := 4) (by kernel_rfl) (fun ds hd => by rw [Tryz.params5] at hd; match ds, hd with | [d0], _ => rfl) hb⟩
noncomputable def low : Nat := (World.holding Tryz.prog default ⟨#[], #[], []⟩).heap.size
noncomputable def wS (os : Os) : World :=
  let w0 := World.holding Tryz.prog os ⟨#[.cells #[.string ⟨#[118, 97, 108, 117, 101, 32, 111, 117, 116, 32, 111, 102, 32, 114, 97, 110, 103, 101]⟩] 309, .cells #[.string ⟨#[105, 110, 118, 97, 108, 105, 100, 32, 115, 121, 110, 116, 97, 120]⟩] 309], #[], []⟩
  let put (h : Array Obj) (g : Nat) (cs : Array Value) : Array Obj := h.modify g fun
    | .cells _ t frozen => .cells cs t frozen
    | o => o
  let h1 := put w0.heap 6 (([0, 1, 28, 2, 29, 14, 24, 3, 30, 22, 20, 15, 25, 17, 4, 8, 31, 27, 13, 23, 21, 19, 16, 7, 26, 12, 18, 6, 11, 5, 10, 9] : List Int).map (Value.int .u8)).toArray
  let h2 := put h1 7 (([0, 1, 56, 2, 57, 49, 28, 3, 61, 58, 42, 50, 38, 29, 17, 4, 62, 47, 59, 36, 45, 43, 51, 22, 53, 39, 33, 30, 24, 18, 12, 5, 63, 55, 48, 27, 60, 41, 37, 16, 46, 35, 44, 21, 52, 32, 23, 11, 54, 26, 40, 15, 34, 20, 31, 10, 25, 14, 19, 9, 13, 8, 7, 6] : List Int).map (Value.int .u8)).toArray
  let h3 := put h2 2 (([1, 10, 100, 1000, 10000, 100000, 1000000, 10000000, 100000000, 1000000000, 10000000000, 100000000000, 1000000000000, 10000000000000, 100000000000000, 1000000000000000, 10000000000000000, 100000000000000000, 1000000000000000000, 10000000000000000000] : List Int).map (Value.int .u64)).toArray
  let h4 := put h3 4 #[.iface 307 (.pointer (some ⟨low + 0, 0, none⟩))]
  let h5 := put h4 3 #[.iface 307 (.pointer (some ⟨low + 1, 0, none⟩))]
  { w0 with heap := h5 }
set_option maxRecDepth 100000 in
theorem zek (os : Os) (args : Array Value) : laidMet Tryz.prog Rows.thresholdBackRow.laid ((wS os).forCall (fun _ _ => 0) ⟨#[], args, []⟩).memory := by
  rw [zey]
  exact (LaidIn.of_run (l := zfD) [6, 7, 2, 4, 3, low + 0, low + 1] 8 (by kernel_rfl) (by kernel_rfl) (by kernel_rfl) (by kernel_rfl)).met
set_option maxRecDepth 100000 in
theorem zaV (os : Os) {H : Type} (enc : TypeId × Value → H) :
    (OpenSpec.ofChange Rows.thresholdBackSpec).preRow enc Tryz.prog Tryz.f5 Rows.thresholdBackRow.domain false Rows.thresholdBackRow.laid ((wS os).forCall (fun _ _ => 0) ⟨#[], #[.slice none 0 0], []⟩).memory #[.slice none 0 0] := by
  have hw : (DataW.whole enc Tryz.prog ((wS os).forCall (fun _ _ => 0) ⟨#[], #[.slice none 0 0], []⟩).memory Tryz.f5.params.toList Rows.thresholdBackSpec.vars false (#[.slice none 0 0] : Array Value).toList 8).map (fun x => (x.1, x.2.1)) =
      some ([.nil], []) := by kernel_rfl
  obtain ⟨⟨x1, x2, x3⟩, hx, hx1⟩ := Option.map_eq_some_iff.1 hw
  simp only [Prod.mk.injEq] at hx1
  obtain ⟨rfl, rfl⟩ := hx1
  exact OpenSpec.preRow_of_cond 8 hx (by kernel_rfl) (fun k hk => by cases hk) (by kernel_rfl) (zek os _)
set_option maxRecDepth 100000 in
set_option maxHeartbeats 2000000 in
theorem zfK (os : Os) (started : os.Started) (H : Type) (enc : TypeId × Value → H) (F : Stop.Interp) :
    ReturnsInHanded {} Tryz.checked os 5 .any ((OpenSpec.ofChange Rows.thresholdBackSpec).preRow enc Tryz.prog Tryz.f5 Rows.thresholdBackRow.domain false Rows.thresholdBackRow.laid) (((OpenSpec.ofChange Rows.thresholdBackSpec).at F).post enc Tryz.prog Tryz.f5 false true false false) := by
  refine returnsInHanded_of_row (C := Tryz.checked) (s := (OpenSpec.ofChange Rows.thresholdBackSpec)) own started (by kernel_rfl) Tryz.func5
    (witness_row_atRef (enc := enc) (C := Tryz.checked) false (wS os) #[.slice none 0 0] rfl (by kernel_rfl) (by kernel_rfl) (by kernel_rfl) (zaV os enc)) ?_
  intro W base args ds gs before hval hW _ _ hz hL _ _
  exact zd3 H enc W base args ds gs before hval hW hL hz
theorem jf0 : (Rows.thresholdBackRow.inPlace == Tryz.pinned.checked.prog.inPlace 5) = true := by kernel_rfl
theorem jf1 : (Rows.thresholdBackRow.unfollowed == Tryz.pinned.checked.prog.unfollowed 5) = true := by kernel_rfl
theorem jf2 : (Rows.thresholdBackRow.recurses == Tryz.pinned.checked.prog.recurses 5) = true := by kernel_rfl
theorem jf3 : (Rows.thresholdBackRow.named == Tryz.pinned.checked.prog.varsNamed 5) = true := by kernel_rfl
theorem jf : joinedFacts Tryz.pinned.checked.prog 5 Tryz.f5 (OpenSpec.ofChange Rows.thresholdBackSpec).bare Rows.thresholdBackRow = true := by
  unfold joinedFacts
  repeat' (with_reducible first | exact jf0 | exact jf1 | exact jf2 | exact jf3 | refine Bool.and_eq_true_iff.2 ⟨?_, ?_⟩)
  all_goals kernel_rfl
theorem zgA : Rows.ThresholdBackSaid :=
  OpenClaim.holds_of_cond 5 Tryz.f5 rfl rfl rfl rfl rfl rfl rfl ⟨rfl, rfl, rfl, rfl, rfl⟩ rfl rfl rfl rfl rfl (by kernel_rfl) Tryz.func5 jf
    (of_decide_eq_true (by kernel_rfl)) (by unfold Func.isWrapper; first | (rw [if_pos (by decide +kernel)]; kernel_rfl) | (rw [if_neg (by decide +kernel)]; exact ⟨rfl, rfl⟩))
    (fun os started H enc _ F => by rw [OpenClaim.pre_eq_preRow]; exact zfK os started H enc F)
theorem plain (f : FuncId) (fn : Func) (hf : Tryz.pinned.checked.prog.funcNamed Rows.thresholdBackRow.func = some f) (hfn : Tryz.pinned.checked.prog.funcs[f]? = some fn) :
    true = Tryz.pinned.checked.prog.looks [] ∧ ∀ (j : Nat) t, fn.params[j]? = some t → Tryz.pinned.checked.prog.wantsStandIn t = false := by
  obtain rfl : f = 5 := Option.some.inj ((show Tryz.prog.funcNamed Rows.thresholdBackRow.func = some 5 by kernel_rfl).symm.trans hf) |>.symm
  obtain rfl : fn = Tryz.f5 := (Option.some.inj (Tryz.func5.symm.trans hfn)).symm
  refine ⟨by kernel_rfl, fun j t ht => ?_⟩
  rw [Tryz.params5] at ht
  have hm := Array.mem_of_getElem? ht
  simp at hm
  subst hm
  exact (show Tryz.prog.wantsStandIn 22 = false by kernel_rfl)
theorem proved : Rows.ThresholdBackCardSaid :=
  Claim7.holds_tied_plain_at .later [] _ _ _ _ zgA (fun _ h => by cases h) (by kernel_rfl) (fun _ h => by cases h) thresholdBack_row_tie rfl ⟨rfl, rfl⟩ (by kernel_rfl) rfl plain (by kernel_rfl)
end Go.Proofs.YtmidabiehblekaaGreatDoor.thresholdBack
