/- Whatever the input, the law PackForms returns true, and each argument reads behind the call as it read before, where the listed variables hold what the text of the program lays (tied); no other condition. -/
import Derived.Test.YtmidabiehblekaaGreatDoorCards
import Derived.Test.YtmidabiehblekaaGreatDoorTie
import Derived.Test.YtmidabiehblekaaGreatDoorTm
import Derived.Test.YtmidabiehblekaaGreatDoorAl4
import Derived.Test.YtmidabiehblekaaGreatDoorTc
import Derived.ProofKit
import Derived.JoinedCond
import Derived.Deep.DeepHandedRow
import Derived.Deep.DeepWitnessRowRef
import Derived.Lib.LaidIn
import Derived.SevenTiedAt
set_option linter.unusedVariables false
namespace Go.Proofs.YtmidabiehblekaaGreatDoor.packForms
open Go.ChangeShapes Go.WideShapes Go.ChangeAt Go.RowKit Go.AL
theorem own : ownKnob Tryz.prog.godebug = none := by kernel_rfl
theorem znj : laidOutB Tryz.prog = true := by kernel_rfl
def zn5 : List (String × DataW Unit) := [("math/bits.deBruijn32tab", Rows.laid_math_bits_deBruijn32tab), ("math/bits.deBruijn64tab", Rows.laid_math_bits_deBruijn64tab), ("internal/strconv.uint64pow10", Rows.laid_internal_strconv_uint64pow10), ("unicode/utf8.acceptRanges", Lib.acceptData), ("strconv.ErrRange", Rows.laid_strconv_ErrRange), ("strconv.ErrSyntax", Rows.laid_strconv_ErrSyntax), ("unicode/utf8.first", Lib.firstData)]
set_option maxRecDepth 100000 in
theorem zmf : Rows.packFormsRow.laid = zn5 := by kernel_rfl
theorem zoI : ∀ t ∈ Tryz.f3.params.toList, Tryz.prog.readableRec t = true ∧ t < Tryz.prog.types.size := by
  intro t ht
  rw [Tryz.params3] at ht
  simp at ht
  rcases ht with ht | ht | ht <;> subst ht <;> exact ⟨by kernel_rfl, of_decide_eq_true (by kernel_rfl)⟩
set_option maxRecDepth 100000 in
theorem zlJ (H : Type) (enc : TypeId × Value → H) (W : World) (base : Nat) (args : Array Value) (ds gs : List (DataW H)) (before : List MemPlace)
    (hval : ∀ (j : Nat) t v, Tryz.f3.params[j]? = some t → args[j]? = some v → Value.okWide Tryz.prog W .any base t v)
    (hW : DataW.Whole enc Tryz.prog Tryz.f3.params.toList Rows.packFormsSpec.vars false W args.toList ds gs before) (hL : laidMetH Tryz.prog Rows.packFormsRow.laid W) (hz : (DataW.weightsEach Tryz.prog (Tryz.f3.params.toList ++ (OpenSpec.ofChange Rows.packFormsSpec).bare.plain.varTypes Tryz.prog) (ds ++ gs)).all (· ≤ reachBytes) = true) :
    Calls Tryz.prog 3 args W fun e W' => ∃ v, e = .returned v ∧ Rows.packFormsSpec.post enc Tryz.prog Tryz.f3 false true false false W args v W' := by
  rw [zmf] at hL
  obtain ⟨oF, oA, hoF, hoA, hUt, hT⟩ := zoP (Lib.laidMet.reads hL (.tail _ (.tail _ (.tail _ (.tail _ (.tail _ (.tail _ (.head _)))))))) (Lib.laidMet.reads hL (.tail _ (.tail _ (.tail _ (.head _)))))
  obtain ⟨oP, hoP, ioP, joP⟩ := zoa (P := Tryz.prog) (k := .u64) (zs := zoC) (g := 2) (t := 276) (by kernel_rfl) (by kernel_rfl) Tryz.underlying276 Tryz.underlying201 (by kernel_rfl) (by kernel_rfl) (Lib.laidMet.reads hL (.tail _ (.tail _ (.head _))))
  obtain ⟨oS, hoS, ioS, joS⟩ := zmd (P := Tryz.prog) (g := 3) (t := 128) (by kernel_rfl) (by kernel_rfl) Tryz.underlying128 (Lib.laidMet.reads hL (.tail _ (.tail _ (.tail _ (.tail _ (.tail _ (.head _)))))))
  obtain ⟨oR, hoR, ioR, joR⟩ := zmd (P := Tryz.prog) (g := 4) (t := 128) (by kernel_rfl) (by kernel_rfl) Tryz.underlying128 (Lib.laidMet.reads hL (.tail _ (.tail _ (.tail _ (.tail _ (.head _))))))
  have hG : ∀ x ∈ ([(0, oF), (1, oA), (2, oP), (3, oS), (4, oR)] : List (Nat × Obj)), W.heap[x.1]? = some x.2 := by
    intro x hx
    simp only [List.mem_cons, List.not_mem_nil, or_false] at hx
    rcases hx with rfl | rfl | rfl | rfl | rfl
    · exact hoF
    · exact hoA
    · exact hoP
    · exact hoS
    · exact hoR
  have hU : zom [0, 1, 2, 3, 4] W := by
    intro b hb o u hu
    simp only [List.mem_cons, List.not_mem_nil, or_false] at hb
    rcases hb with rfl | rfl | rfl | rfl | rfl
    · exact .inl (hUt 0 (by omega) o u hu)
    · exact .inl (hUt 1 (by omega) o u hu)
    · exact .inr (.inr (joP o u hu))
    · exact .inr (.inl (joS o u hu))
    · exact .inr (.inl (joR o u hu))
  have hW' := hW
  obtain ⟨p, q, hA0, hV, rfl, hfz, hnd⟩ := hW
  have hA : DataW.TrodAll enc Tryz.prog W 0 (fun _ => true) true Tryz.f3.params.toList args.toList ds p := hA0
  rw [Tryz.params3] at hA hval
  obtain ⟨v0, vs0, d0, ds0, p0, q0, hargs, rfl, rfl, h0, r0⟩ := trodAll_cons hA
  obtain ⟨v1, vs1, d1, ds1, p1, q1, rfl, rfl, rfl, h1, r1⟩ := trodAll_cons r0
  obtain ⟨v2, vs2, d2, ds2, p2, q2, rfl, rfl, rfl, h2, r2⟩ := trodAll_cons r1
  obtain ⟨rfl, rfl, rfl⟩ := trodAll_nil r2
  obtain rfl : args = #[v0, v1, v2] := by cases args; simp_all
  rw [Tryz.params3] at hz
  have w0 : ∀ n ∈ DataW.weights Tryz.prog 22 d0, n ≤ reachBytes := fun n hn => by simpa using List.all_eq_true.1 hz n (DataW.weights_mem_each (j := 0) rfl rfl n hn)
  obtain ⟨x0, k0, z0⟩ := (Rd.list Tryz.underlying22 (by kernel_rfl) (by decide) (Rd.int (k := .i64) Tryz.underlying3)).one h0 (hval 0 22 v0 rfl rfl) (zao _ _) w0
  have w1 : ∀ n ∈ DataW.weights Tryz.prog 9 d1, n ≤ reachBytes := fun n hn => by simpa using List.all_eq_true.1 hz n (DataW.weights_mem_each (j := 1) rfl rfl n hn)
  obtain ⟨x1, k1, z1⟩ := (Rd.str Tryz.underlying9).one h1 (hval 1 9 v1 rfl rfl) (zao _ _) w1
  have w2 : ∀ n ∈ DataW.weights Tryz.prog 3 d2, n ≤ reachBytes := fun n hn => by simpa using List.all_eq_true.1 hz n (DataW.weights_mem_each (j := 2) rfl rfl n hn)
  obtain ⟨x2, k2, z2⟩ := (Rd.int (k := .i64) Tryz.underlying3).one h2 (hval 2 3 v2 rfl rfl) (zao _ _) w2
  refine (Spec.callsG (k := 100) (G := [(0, oF), (1, oA), (2, oP), (3, oS), (4, oR)]) (zcM (zot hT) (zn4 ioP) ⟨ioS, ioR⟩ zoz x0 x1 x2) hG (show ([0, 1, 2, 3, 4] : List Nat).Nodup by decide) rfl (jZ rfl (RepT.tabG hU (zmx x0) z0) (jZ rfl (RepT.str_anyG z1) (jZ rfl (RepT.int_anyG z2) zjF)))).mono fun e W' ⟨he, hb⟩ => ?_
  exact ⟨_, he, zlS znj rfl hW' zoI (by kernel_rfl) (tb := 4) (by kernel_rfl) (fun ds hd => by rw [Tryz.params3] at hd; match ds, hd with | [d0, d1, d2], _ => rfl) hb⟩
noncomputable def low : Nat := (World.holding Tryz.prog default ⟨#[], #[], []⟩).heap.size
noncomputable def jg (os : Os) : World :=
  let w0 := World.holding Tryz.prog os ⟨#[.cells #[.string ⟨#[118, 97, 108, 117, 101, 32, 111, 117, 116, 32, 111, 102, 32, 114, 97, 110, 103, 101]⟩] 309, .cells #[.string ⟨#[105, 110, 118, 97, 108, 105, 100, 32, 115, 121, 110, 116, 97, 120]⟩] 309], #[], []⟩
  let put (h : Array Obj) (g : Nat) (cs : Array Value) : Array Obj := h.modify g fun
    | .cells _ t frozen => .cells cs t frozen
    | o => o
  let h1 := put w0.heap 6 (([0, 1, 28, 2, 29, 14, 24, 3, 30, 22, 20, 15, 25, 17, 4, 8, 31, 27, 13, 23, 21, 19, 16, 7, 26, 12, 18, 6, 11, 5, 10, 9] : List Int).map (Value.int .u8)).toArray
  let h2 := put h1 7 (([0, 1, 56, 2, 57, 49, 28, 3, 61, 58, 42, 50, 38, 29, 17, 4, 62, 47, 59, 36, 45, 43, 51, 22, 53, 39, 33, 30, 24, 18, 12, 5, 63, 55, 48, 27, 60, 41, 37, 16, 46, 35, 44, 21, 52, 32, 23, 11, 54, 26, 40, 15, 34, 20, 31, 10, 25, 14, 19, 9, 13, 8, 7, 6] : List Int).map (Value.int .u8)).toArray
  let h3 := put h2 2 (([1, 10, 100, 1000, 10000, 100000, 1000000, 10000000, 100000000, 1000000000, 10000000000, 100000000000, 1000000000000, 10000000000000, 100000000000000, 1000000000000000, 10000000000000000, 100000000000000000, 1000000000000000000, 10000000000000000000] : List Int).map (Value.int .u64)).toArray
  let h4 := put h3 1 ((List.range 16).flatMap fun i => [Value.int .u8 (Lib.accLo i), Value.int .u8 (Lib.accHi i)]).toArray
  let h5 := put h4 4 #[.iface 307 (.pointer (some ⟨low + 0, 0, none⟩))]
  let h6 := put h5 3 #[.iface 307 (.pointer (some ⟨low + 1, 0, none⟩))]
  let h7 := put h6 0 (Lib.firstTab.map fun z => Value.int .u8 z).toArray
  { w0 with heap := h7 }
set_option maxRecDepth 100000 in
theorem zlB (os : Os) (args : Array Value) : laidMet Tryz.prog Rows.packFormsRow.laid ((jg os).forCall (fun _ _ => 0) ⟨#[], args, []⟩).memory := by
  rw [zmf]
  exact (LaidIn.of_run (l := zn5) [6, 7, 2, 1, 4, 3, 0, low + 0, low + 1] 8 (by kernel_rfl) (by kernel_rfl) (by kernel_rfl) (by kernel_rfl)).met
set_option maxRecDepth 100000 in
theorem zgg (os : Os) {H : Type} (enc : TypeId × Value → H) :
    (OpenSpec.ofChange Rows.packFormsSpec).preRow enc Tryz.prog Tryz.f3 Rows.packFormsRow.domain false Rows.packFormsRow.laid ((jg os).forCall (fun _ _ => 0) ⟨#[], #[.slice none 0 0, .string ⟨#[]⟩, .int .i64 0], []⟩).memory #[.slice none 0 0, .string ⟨#[]⟩, .int .i64 0] := by
  have hw : (DataW.whole enc Tryz.prog ((jg os).forCall (fun _ _ => 0) ⟨#[], #[.slice none 0 0, .string ⟨#[]⟩, .int .i64 0], []⟩).memory Tryz.f3.params.toList Rows.packFormsSpec.vars false (#[.slice none 0 0, .string ⟨#[]⟩, .int .i64 0] : Array Value).toList 8).map (fun x => (x.1, x.2.1)) =
      some ([.nil, .lit (.string []), .lit (.int .i64 0)], []) := by kernel_rfl
  obtain ⟨⟨x1, x2, x3⟩, hx, hx1⟩ := Option.map_eq_some_iff.1 hw
  simp only [Prod.mk.injEq] at hx1
  obtain ⟨rfl, rfl⟩ := hx1
  exact OpenSpec.preRow_of_cond 8 hx (by kernel_rfl) (fun k hk => by cases hk) (by kernel_rfl) (zlB os _)
set_option maxRecDepth 100000 in
set_option maxHeartbeats 2000000 in
theorem znR (os : Os) (started : os.Started) (H : Type) (enc : TypeId × Value → H) (F : Stop.Interp) :
    ReturnsInHanded {} Tryz.checked os 3 .any ((OpenSpec.ofChange Rows.packFormsSpec).preRow enc Tryz.prog Tryz.f3 Rows.packFormsRow.domain false Rows.packFormsRow.laid) (((OpenSpec.ofChange Rows.packFormsSpec).at F).post enc Tryz.prog Tryz.f3 false true false false) := by
  refine returnsInHanded_of_row (C := Tryz.checked) (s := (OpenSpec.ofChange Rows.packFormsSpec)) own started (by kernel_rfl) Tryz.func3
    (witness_row_atRef (enc := enc) (C := Tryz.checked) false (jg os) #[.slice none 0 0, .string ⟨#[]⟩, .int .i64 0] rfl (by kernel_rfl) (by kernel_rfl) (by kernel_rfl) (zgg os enc)) ?_
  intro W base args ds gs before hval hW _ _ hz hL _ _
  exact zlJ H enc W base args ds gs before hval hW hL hz
theorem jf0 : (Rows.packFormsRow.inPlace == Tryz.pinned.checked.prog.inPlace 3) = true := by kernel_rfl
theorem jf1 : (Rows.packFormsRow.unfollowed == Tryz.pinned.checked.prog.unfollowed 3) = true := by kernel_rfl
theorem jf2 : (Rows.packFormsRow.recurses == Tryz.pinned.checked.prog.recurses 3) = true := by kernel_rfl
theorem jf3 : (Rows.packFormsRow.named == Tryz.pinned.checked.prog.varsNamed 3) = true := by kernel_rfl
theorem jf : joinedFacts Tryz.pinned.checked.prog 3 Tryz.f3 (OpenSpec.ofChange Rows.packFormsSpec).bare Rows.packFormsRow = true := by
  unfold joinedFacts
  repeat' (with_reducible first | exact jf0 | exact jf1 | exact jf2 | exact jf3 | refine Bool.and_eq_true_iff.2 ⟨?_, ?_⟩)
  all_goals kernel_rfl
theorem zoR : Rows.PackFormsSaid :=
  OpenClaim.holds_of_cond 3 Tryz.f3 rfl rfl rfl rfl rfl rfl rfl ⟨rfl, rfl, rfl, rfl, rfl⟩ rfl rfl rfl rfl rfl (by kernel_rfl) Tryz.func3 jf
    (of_decide_eq_true (by kernel_rfl)) (by unfold Func.isWrapper; first | (rw [if_pos (by decide +kernel)]; kernel_rfl) | (rw [if_neg (by decide +kernel)]; exact ⟨rfl, rfl⟩))
    (fun os started H enc _ F => by rw [OpenClaim.pre_eq_preRow]; exact znR os started H enc F)
theorem plain (f : FuncId) (fn : Func) (hf : Tryz.pinned.checked.prog.funcNamed Rows.packFormsRow.func = some f) (hfn : Tryz.pinned.checked.prog.funcs[f]? = some fn) :
    true = Tryz.pinned.checked.prog.looks [] ∧ ∀ (j : Nat) t, fn.params[j]? = some t → Tryz.pinned.checked.prog.wantsStandIn t = false := by
  obtain rfl : f = 3 := Option.some.inj ((show Tryz.prog.funcNamed Rows.packFormsRow.func = some 3 by kernel_rfl).symm.trans hf) |>.symm
  obtain rfl : fn = Tryz.f3 := (Option.some.inj (Tryz.func3.symm.trans hfn)).symm
  refine ⟨by kernel_rfl, fun j t ht => ?_⟩
  rw [Tryz.params3] at ht
  have hm := Array.mem_of_getElem? ht
  simp at hm
  rcases hm with hm | hm | hm <;> subst hm
  · exact (show Tryz.prog.wantsStandIn 22 = false by kernel_rfl)
  · exact (show Tryz.prog.wantsStandIn 9 = false by kernel_rfl)
  · exact (show Tryz.prog.wantsStandIn 3 = false by kernel_rfl)
theorem proved : Rows.PackFormsCardSaid :=
  Claim7.holds_tied_plain_at .later [] _ _ _ _ zoR (fun _ h => by cases h) (by kernel_rfl) (fun _ h => by cases h) packForms_row_tie rfl ⟨rfl, rfl⟩ (by kernel_rfl) rfl plain (by kernel_rfl)
end Go.Proofs.YtmidabiehblekaaGreatDoor.packForms
