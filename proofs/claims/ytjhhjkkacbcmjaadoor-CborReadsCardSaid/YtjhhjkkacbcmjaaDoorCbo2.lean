/- What an argument that is a node reads as. -/
import Derived.Test.YtjhhjkkacbcmjaaDoorTy
import Derived.Test.YtjhhjkkacbcmjaaDoorNod1
import Derived.Test.YtjhhjkkacbcmjaaDoorAl3
import Derived.Test.YtjhhjkkacbcmjaaDoorCbo1
import Derived.Test.YtjhhjkkacbcmjaaDoorNod2
set_option linter.unusedVariables false
namespace Go.AL
open Go Go.Proofs Go.RowKit Go.ChangeShapes Go.WideShapes

inductive NdB (mul : TypeId → Nat) (B : Nat) : Nd → Prop
  | mk {k : Int} {b : Bool} {n : Int} {t : ByteArray} {ns : List ByteArray} {is : List Nd} : (Lit.int .i64 k).wf = true → (Lit.int .i64 n).wf = true → t.size ≤ B → ns.length * mul 9 ≤ B → (∀ s ∈ ns, s.size ≤ B) → is.length * mul 26 ≤ B → (∀ x ∈ is, NdB mul B x) → NdB mul B (.mk k b n t ns is)

set_option maxRecDepth 100000 in
theorem node_open {H : Type} {enc : TypeId × Value → H} {w : World} {base : Nat} {spare : Nat → Bool} {held : Bool} {mul : TypeId → Nat} {wt : TypeId → DataW H → List Nat} {B : Nat} (hwt : WtOK Tryd.prog mul wt) : ∀ (fuel : Nat) (cs : List Value) (d : DataW H × List MemPlace), DataW.trod enc Tryd.prog w base spare held fuel 26 cs = some d → (∀ n ∈ wt 26 d.1, n ≤ B) →
    ∃ x : Nd, NdB mul B x ∧ cs.length = 6 ∧ ∀ (g : Nat → Option Value) (o : Nat), (∀ i u, cs[i]? = some u → g (o + i) = some u) → RepL (heapOf w) g o x.toT.cells := by
  intro fuel
  induction fuel using Nat.strongRecOn with
  | _ fuel ih =>
  intro cs d h hB
  obtain ⟨xs, m, hfu, rfl, hl, hlen, hf⟩ := DataW.trod_struct Tryd.underlying26 h
  have hc6 : Tryd.prog.cellsOf 26 = 6 := by kernel_rfl
  rw [hc6] at hl
  have hlen6 : xs.length = 6 := hlen
  obtain ⟨y0, y1, y2, y3, y4, y5, rfl⟩ : ∃ y0 y1 y2 y3 y4 y5, xs = [y0, y1, y2, y3, y4, y5] := by
    match xs, hlen6 with
    | [y0, y1, y2, y3, y4, y5], _ => exact ⟨_, _, _, _, _, _, rfl⟩
  obtain ⟨u0, u1, u2, u3, u4, u5, rfl⟩ : ∃ u0 u1 u2 u3 u4 u5, cs = [u0, u1, u2, u3, u4, u5] := by
    match cs, hl with
    | [u0, u1, u2, u3, u4, u5], _ => exact ⟨_, _, _, _, _, _, rfl⟩
  have part : ∀ {fs : Array Field} (hu : Tryd.prog.underlying 26 = some (.struct fs)) (i : Nat) (f : Field) (p : DataW H × List MemPlace), fs[i]? = some f → [y0, y1, y2, y3, y4, y5][i]? = some p → ∀ n ∈ wt f.type p.1, n ≤ B := fun {fs} hu i f p h1 h2 n hn => by
    obtain ⟨q, k1, k2⟩ := hwt.part 26 fs ([y0, y1, y2, y3, y4, y5].map (·.1)) i f p.1 hu h1 (by rw [List.getElem?_map, h2]; rfl) n hn
    exact Nat.le_trans k2 (hB q k1)
  have c3 : Tryd.prog.cellsOf 3 = 1 := by kernel_rfl
  have c4 : Tryd.prog.cellsOf 4 = 1 := by kernel_rfl
  have c9 : Tryd.prog.cellsOf 9 = 1 := by kernel_rfl
  have c23 : Tryd.prog.cellsOf 23 = 1 := by kernel_rfl
  have c24 : Tryd.prog.cellsOf 24 = 1 := by kernel_rfl
  have f0 : DataW.trod enc Tryd.prog w base spare held m 3 (([u0, u1, u2, u3, u4, u5].drop 0).take (Tryd.prog.cellsOf 3)) = some y0 := hf 0 _ rfl
  rw [c3] at f0
  have f1 : DataW.trod enc Tryd.prog w base spare held m 4 (([u0, u1, u2, u3, u4, u5].drop 1).take (Tryd.prog.cellsOf 4)) = some y1 := hf 1 _ rfl
  rw [c4] at f1
  have f2 : DataW.trod enc Tryd.prog w base spare held m 3 (([u0, u1, u2, u3, u4, u5].drop 2).take (Tryd.prog.cellsOf 3)) = some y2 := hf 2 _ rfl
  rw [c3] at f2
  have f3 : DataW.trod enc Tryd.prog w base spare held m 9 (([u0, u1, u2, u3, u4, u5].drop 3).take (Tryd.prog.cellsOf 9)) = some y3 := hf 3 _ rfl
  rw [c9] at f3
  have f4 : DataW.trod enc Tryd.prog w base spare held m 23 (([u0, u1, u2, u3, u4, u5].drop 4).take (Tryd.prog.cellsOf 23)) = some y4 := hf 4 _ rfl
  rw [c23] at f4
  have f5 : DataW.trod enc Tryd.prog w base spare held m 24 (([u0, u1, u2, u3, u4, u5].drop 5).take (Tryd.prog.cellsOf 24)) = some y5 := hf 5 _ rfl
  rw [c24] at f5
  obtain ⟨k, hk, _, r0⟩ := (Rd.int (k := .i64) Tryd.underlying3).opens f0 hwt (part Tryd.underlying26 0 _ y0 rfl rfl)
  obtain ⟨b, _, _, r1⟩ := (Rd.bool Tryd.underlying4).opens f1 hwt (part Tryd.underlying26 1 _ y1 rfl rfl)
  obtain ⟨n, hn, _, r2⟩ := (Rd.int (k := .i64) Tryd.underlying3).opens f2 hwt (part Tryd.underlying26 2 _ y2 rfl rfl)
  obtain ⟨t, ht, _, r3⟩ := (Rd.str Tryd.underlying9).opens f3 hwt (part Tryd.underlying26 3 _ y3 rfl rfl)
  obtain ⟨ns, hns, _, r4⟩ := (Rd.list Tryd.underlying23 c9 (by decide) (Rd.str Tryd.underlying9)).opens f4 hwt (part Tryd.underlying26 4 _ y4 rfl rfl)
  obtain ⟨v5, e5, o5, is, his, r5⟩ := slice_openF (toT := Nd.toT) (okX := NdB mul B) Tryd.underlying24 hc6 (by decide) (fun x => x.toT_agg.2) f5 hwt (fun fuel' hlt cs d hd hB' => ih fuel' (by omega) cs d hd hB') (part Tryd.underlying26 5 _ y5 rfl rfl)
  simp at e5
  subst e5
  have his' : (is.getD []).length * mul 26 ≤ B ∧ ∀ y ∈ is.getD [], NdB mul B y := by
    cases is with
    | none => exact ⟨by simp, by simp⟩
    | some l => exact (his l rfl).2
  refine ⟨.mk k b n t ns (is.getD []), .mk hk hn ht.2 hns.2.1 (fun s hs => (hns.2.2 s hs).2) his'.1 his'.2, rfl, fun g o hg => ?_⟩
  rw [Nd.toT_eq]
  simp only [T.cells, RepL, and_true]
  have s0 := r0 g o (fun i u hu => by match i, hu with | 0, hu => exact hg 0 u hu)
  have s1 := r1 g (o + 1) (fun i u hu => by match i, hu with | 0, hu => exact hg 1 u hu)
  have s2 := r2 g (o + 2) (fun i u hu => by match i, hu with | 0, hu => exact hg 2 u hu)
  have s3 := r3 g (o + 3) (fun i u hu => by match i, hu with | 0, hu => exact hg 3 u hu)
  have s4 := r4 g (o + 4) (fun i u hu => by match i, hu with | 0, hu => exact hg 4 u hu)
  have g5 := hg 5 u5 rfl
  simp only [Rd.int, Rd.bool, Rd.str, Rd.list, T.cells, RepL, and_true] at s0 s1 s2 s3 s4
  exact ⟨s0, s1, s2, s3, s4, u5, g5, o5, optT_sl r5⟩

set_option maxRecDepth 100000 in
def rdNode : Rd Tryd.prog 26 6 Nd where
  toT := Nd.toT
  ok mul B x := NdB mul B x
  len x := x.toT_agg.2
  opens h mul wt B hwt hB := node_open hwt _ _ _ h hB
  one hd hv mul wt B hwt hB := by
    obtain ⟨fuel, hf⟩ := hd
    obtain ⟨vs, rfl, hs⟩ := okWide_struct Tryd.underlying26 hv
    obtain ⟨x, h1, h2, h3⟩ := node_open hwt _ _ _ hf hB
    refine ⟨x, h1, ?_⟩
    have hc := h3 (fun j => vs[j]?) 0 (fun i u hu => by simpa [Value.cells] using hu)
    cases x
    rw [Nd.toT_eq] at hc ⊢
    simp only [RepT]
    simp only [T.cells] at hc
    refine ⟨vs, rfl, ?_, hc⟩
    have hc6 : Tryd.prog.cellsOf 26 = 6 := by kernel_rfl
    rw [hs, hc6]; rfl
theorem wf_i64 {n : Int} (h : (Lit.int .i64 n).wf = true) : -9223372036854775808 ≤ n ∧ n ≤ 9223372036854775807 := by
  simpa [Lit.wf, IntKind.min, IntKind.max, IntKind.signed, IntKind.bits] using h
theorem NdB.ok {x : Nd} (h : NdB Tryd.prog.bytesOf reachBytes x) : x.Ok := by
  induction h with
  | mk h1 h2 h3 h4 h5 h6 h7 ih =>
    have b9 : Tryd.prog.bytesOf 9 = 16 := by kernel_rfl
    have b26 : Tryd.prog.bytesOf 26 = 88 := by kernel_rfl
    rw [b9] at h4
    rw [b26] at h6
    have : reachBytes = 140737488351232 := rfl
    exact .mk (by omega) (by omega) ih
end Go.AL
/- What the document's test of a node answers. -/
set_option linter.unusedVariables false
namespace Go.AL
open Go Go.Proofs Go.RowKit

set_option maxHeartbeats 2000000 in
theorem rText_spec {oF oA : Obj} {V : ByteArray → Bool} (hV : VSpec oF oA V) (s : ByteArray) : Spec Tryd.prog 87 [.t (.str s)] [(.par 100, .dat (.fix 0 oF)), (.par 101, .dat (.fix 1 oA))] (.t (.bool (textB V s))) [(.par 100, .dat (.fix 0 oF)), (.par 101, .dat (.fix 1 oA))] := by
  by_cases hs : (s.size : Int) ≤ 65536
  · have h := hV s (by omega)
    have e : textB V s = V s := by simp [textB, hs]
    rw [e]
    generalize V s = v at h
    refine spec_intro (env0 := [(0, _)]) (st0 := [(_, some _), (_, some _)]) Tryd.func87 rfl rfl rfl rfl ?_
    repeat' (first | (with_reducible refine codeT_seq ?_) | (with_reducible refine codeT_ret ?_) | (with_reducible refine codeT_regionL ?_) | (with_reducible refine lx_nil ?_) | (with_reducible refine q_then ?_) | ((with_reducible refine g_guard ?_); first | refine lx_skip rfl rfl rfl ?_) | ((with_reducible refine g_move ?_); first | refine lx_move (r := (.t _)) rfl rfl rfl rfl rfl ?_) | ((with_reducible refine g_binOp ?_); first | refine lx_arith rfl rfl rfl rfl rfl rfl rfl ?_) | ((with_reducible refine g_assign ?_); first | refine lx_assign (r := (.t _)) rfl rfl rfl rfl rfl ?_) | ((with_reducible refine g_pick ?_); first | refine lx_pickT (r := (.t _)) rfl rfl rfl rfl rfl rfl ?_ | refine lx_pickF (r := (.t _)) rfl rfl rfl rfl rfl rfl ?_) | ((with_reducible refine g_len ?_); first | refine lx_len_str rfl rfl rfl rfl rfl ?_) | ((with_reducible refine g_call ?_); first | refine lx_call (r' := .t (.bool v)) [] rfl rfl h (ArgsLE.refl _) rfl ⟨rfl, rfl, trivial⟩ rfl rfl rfl rfl rfl rfl rfl rfl rfl rfl ?_) | refine lx_splitP rfl (fun hc => ?_) (fun hc => ?_))
    · exact q_ret (resT_oneE rfl rfl rfl) (stHas_spec ⟨rfl, rfl, trivial⟩)
    · omega
  · have e : textB V s = false := by simp [textB, hs]
    rw [e]
    refine spec_intro (env0 := [(0, _)]) (st0 := [(_, some _), (_, some _)]) Tryd.func87 rfl rfl rfl rfl ?_
    repeat' (first | (with_reducible refine codeT_seq ?_) | (with_reducible refine codeT_ret ?_) | (with_reducible refine codeT_regionL ?_) | (with_reducible refine lx_nil ?_) | (with_reducible refine q_then ?_) | ((with_reducible refine g_guard ?_); first | refine lx_skip rfl rfl rfl ?_) | ((with_reducible refine g_move ?_); first | refine lx_move (r := (.t _)) rfl rfl rfl rfl rfl ?_) | ((with_reducible refine g_binOp ?_); first | refine lx_arith rfl rfl rfl rfl rfl rfl rfl ?_) | ((with_reducible refine g_assign ?_); first | refine lx_assign (r := (.t _)) rfl rfl rfl rfl rfl ?_) | ((with_reducible refine g_pick ?_); first | refine lx_pickF (r := (.t _)) rfl rfl rfl rfl rfl rfl ?_) | ((with_reducible refine g_len ?_); first | refine lx_len_str rfl rfl rfl rfl rfl ?_) | ((with_reducible refine g_call ?_); first | exact absurd ‹(s.size : Int) ≤ 65536› hs) | refine lx_splitP rfl (fun hc => ?_) (fun hc => ?_))
    all_goals first | (exfalso; omega) | exact q_ret (resT_oneE rfl rfl rfl) (stHas_spec ⟨rfl, rfl, trivial⟩)
def badB (k : Int) (b : Bool) (n : Int) (t : ByteArray) (ns : List ByteArray) (is : List Nd) (dp : Int) : Bool :=
  decide (dp < 1) || decide (k < 0) || decide (5 < k) || !(Nd.mk k b n t ns is).fieldsOK
set_option maxHeartbeats 8000000 in
theorem rvalid_spec {oF oA : Obj} {V : ByteArray → Bool} (hV : VSpec oF oA V) : ∀ x : Nd, x.Ok → ∀ dp : Int, -900 ≤ dp → dp ≤ 1000 → Spec Tryd.prog 63 [.t x.toT, .t (.int .i64 dp)] [(.par 100, .dat (.fix 0 oF)), (.par 101, .dat (.fix 1 oA))] (.t (.bool (x.validB V dp))) [(.par 100, .dat (.fix 0 oF)), (.par 101, .dat (.fix 1 oA))] := by
  intro x hx
  induction hx with
  | @mk k b n t ns is h1 h2 h3 ih =>
  intro dp hd1 hd2
  have ht := rText_spec hV t
  rw [Nd.toT_eq]
  refine spec_intro (env0 := [(0, _), (1, _)]) (st0 := [(_, some _), (_, some _)]) Tryd.func63 rfl rfl rfl rfl ?_
  refine codeT_seq ?_
  repeat' (first | (with_reducible refine codeT_regionL ?_) | (with_reducible refine lx_nil ?_) | ((with_reducible refine g_assign ?_); first | refine lx_assign (r := (.t _)) rfl rfl rfl rfl rfl ?_) | ((with_reducible refine g_box ?_); first | refine lx_box (r := (.t (.agg _))) (cs := (List.map .t _)) rfl rfl rfl rfl rfl rfl rfl rfl rfl ?_))
  refine q_then ?_
  refine codeT_cut (env1 := [(1, .t (.int .i64 dp)), (2, .ref (.loc 2) 0 0 0), (5, .t (.bool (badB k b n t ns is dp)))]) (st1 := [(.loc 2, some (.var 26 [.t (.int .i64 k), .t (.bool b), .t (.int .i64 n), .t (.str t), .t (.sl 1 (ns.map .str)), .t (.sl 6 (is.map Nd.toT))])), (.par 100, some (.dat (.fix 0 oF))), (.par 101, some (.dat (.fix 1 oA)))]) ?_ ?_
  · repeat' (first | (with_reducible refine codeT_regionL ?_) | (with_reducible refine lx_nil ?_) | ((with_reducible refine g_guard ?_); first | refine lx_skip rfl rfl rfl ?_) | ((with_reducible refine g_move ?_); first | refine lx_move (r := (.t _)) rfl rfl rfl rfl rfl ?_) | ((with_reducible refine g_load ?_); first | refine lx_load_var rfl rfl rfl rfl rfl rfl rfl rfl ?_) | ((with_reducible refine g_fieldAddr ?_); first | refine lx_fieldAddr rfl rfl rfl rfl rfl rfl rfl ?_) | ((with_reducible refine g_binOp ?_); first | refine lx_arith rfl rfl rfl rfl rfl rfl rfl ?_ | refine lx_str_ne rfl rfl rfl rfl rfl rfl ?_) | ((with_reducible refine g_assign ?_); first | refine lx_assign (r := (.t _)) rfl rfl rfl rfl rfl ?_) | ((with_reducible refine g_pick ?_); first | refine lx_pickT (r := (.t _)) rfl rfl rfl rfl rfl rfl ?_ | refine lx_pickF (r := (.t _)) rfl rfl rfl rfl rfl rfl ?_) | ((with_reducible refine g_len ?_); first | refine lx_len_map rfl rfl rfl rfl rfl ?_) | refine lx_splitP rfl (fun hc => ?_) (fun hc => ?_) | refine lx_splitN rfl (fun hc => ?_) (fun hc => ?_) | refine lx_splitB rfl (fun hc => ?_) (fun hc => ?_))
    all_goals refine ⟨rfl, ghost_keep2 [1, 2, 5] [.loc 2, .par 100, .par 101] (env3 ?_) rfl⟩
    all_goals clear ih h3 ht hV
    all_goals first | (simp_all [badB, Nd.fieldsOK, List.length_pos_iff]; done) | (rcases (show k = 0 ∨ k = 1 ∨ k = 2 ∨ k = 3 ∨ k = 4 ∨ k = 5 by omega) with rfl | rfl | rfl | rfl | rfl | rfl <;> simp_all [badB, Nd.fieldsOK, List.length_pos_iff] <;> omega)
  · obtain ⟨bv, hbv⟩ : ∃ v, v = badB k b n t ns is dp := ⟨_, rfl⟩
    rw [← hbv]
    have hval : (Nd.mk k b n t ns is).validB V dp = (!(bv || !textB V t || decide (256 < (is.length : Int))) && (!decide (k = 5) || (namesOk (textB V) [] ns && decide ((ns.length : Int) = is.length))) && !Nd.anyBad V is (dp - 1)) := by
      rw [hbv, Nd.validB]; rfl
    rw [hval]
    have hns : bv = false → k ≠ 5 → ns = [] := fun e h5 => by
      rw [e] at hbv
      have : (Nd.mk k b n t ns is).fieldsOK = true := by
        unfold badB at hbv
        have h := hbv.symm
        simp only [Bool.or_eq_false_iff, Bool.not_eq_false'] at h
        exact h.2
      simp only [Nd.fieldsOK, Bool.and_eq_true, Bool.or_eq_true, decide_eq_true_eq] at this
      exact List.eq_nil_of_length_eq_zero (by have := this.2; omega)
    have hdp : bv = false → 1 ≤ dp := fun e => by
      rw [e] at hbv
      unfold badB at hbv
      have h := hbv.symm
      simp only [Bool.or_eq_false_iff, decide_eq_false_iff_not] at h
      omega
    generalize textB V t = tv at ht ⊢
    clear hbv hval
    cases bv with
    | true =>
      repeat' (first | (with_reducible refine codeT_seq ?_) | (with_reducible refine codeT_ret ?_) | (with_reducible refine codeT_regionL ?_) | (with_reducible refine lx_nil ?_) | (with_reducible refine q_then ?_) | (with_reducible refine q_then_ret ?_) | refine c_condT rfl ?_ | ((with_reducible refine g_guard ?_); first | refine lx_skip rfl rfl rfl ?_) | ((with_reducible refine g_move ?_); first | refine lx_move (r := (.t _)) rfl rfl rfl rfl rfl ?_) | ((with_reducible refine g_assign ?_); first | refine lx_assign (r := (.t _)) rfl rfl rfl rfl rfl ?_) | ((with_reducible refine g_pick ?_); first | refine lx_pickT (r := (.t _)) rfl rfl rfl rfl rfl rfl ?_))
      exact q_ret (resT_oneE rfl rfl (by simp)) (stHas_spec ⟨rfl, rfl, trivial⟩)
    | false =>
    cases tv with
    | false =>
      repeat' (first | (with_reducible refine codeT_seq ?_) | (with_reducible refine codeT_ret ?_) | (with_reducible refine codeT_regionL ?_) | (with_reducible refine lx_nil ?_) | (with_reducible refine q_then ?_) | (with_reducible refine q_then_ret ?_) | refine c_condT rfl ?_ | ((with_reducible refine g_guard ?_); first | refine lx_skip rfl rfl rfl ?_) | ((with_reducible refine g_move ?_); first | refine lx_move (r := (.t _)) rfl rfl rfl rfl rfl ?_) | ((with_reducible refine g_load ?_); first | refine lx_load_var rfl rfl rfl rfl rfl rfl rfl rfl ?_) | ((with_reducible refine g_fieldAddr ?_); first | refine lx_fieldAddr rfl rfl rfl rfl rfl rfl rfl ?_) | ((with_reducible refine g_assign ?_); first | refine lx_assign (r := (.t _)) rfl rfl rfl rfl rfl ?_) | ((with_reducible refine g_pick ?_); first | refine lx_pickT (r := (.t _)) rfl rfl rfl rfl rfl rfl ?_ | refine lx_pickF (r := (.t _)) rfl rfl rfl rfl rfl rfl ?_) | ((with_reducible refine g_unOp ?_); first | refine lx_not rfl rfl rfl rfl rfl ?_) | ((with_reducible refine g_call ?_); first | refine lx_call (r' := .t (.bool false)) [] rfl rfl ht (ArgsLE.refl _) rfl ⟨rfl, rfl, trivial⟩ rfl rfl rfl rfl rfl rfl rfl rfl rfl rfl ?_))
      exact q_ret (resT_oneE rfl rfl (by simp)) (stHas_spec ⟨rfl, rfl, trivial⟩)
    | true =>
    have hdp1 := hdp rfl
    by_cases hm : is.length ≤ 256 ∧ (k = 5 → ns.length = is.length)
    · have e1 : (!(false || !true || decide (256 < (is.length : Int))) && (!decide (k = 5) || (namesOk (textB V) [] ns && decide ((ns.length : Int) = is.length))) && !Nd.anyBad V is (dp - 1)) = (namesOk (textB V) [] ns && !Nd.anyBad V is (dp - 1)) := by
        have : ¬ (256 : Int) < is.length := by omega
        by_cases h5 : k = 5
        · have := hm.2 h5
          simp [*]
        · have h0 := hns rfl h5
          subst h0
          simp [*, namesOk]
      rw [e1]
      refine codeT_cut (env1 := [(1, .t (.int .i64 dp)), (2, .ref (.loc 2) 0 0 0)]) (st1 := [(.loc 2, some (.var 26 [.t (.int .i64 k), .t (.bool b), .t (.int .i64 n), .t (.str t), .t (.sl 1 (ns.map .str)), .t (.sl 6 (is.map Nd.toT))])), (.par 100, some (.dat (.fix 0 oF))), (.par 101, some (.dat (.fix 1 oA)))]) ?_ ?_
      · repeat' (first | (with_reducible refine codeT_seq ?_) | (with_reducible refine codeT_skip ?_) | (with_reducible refine codeT_ret ?_) | (with_reducible refine codeT_regionL ?_) | (with_reducible refine lx_nil ?_) | (with_reducible refine q_then ?_) | refine c_condT rfl ?_ | refine c_condF rfl ?_ | ((with_reducible refine g_guard ?_); first | refine lx_skip rfl rfl rfl ?_) | ((with_reducible refine g_move ?_); first | refine lx_move (r := (.t _)) rfl rfl rfl rfl rfl ?_) | ((with_reducible refine g_load ?_); first | refine lx_load_var rfl rfl rfl rfl rfl rfl rfl rfl ?_) | ((with_reducible refine g_fieldAddr ?_); first | refine lx_fieldAddr rfl rfl rfl rfl rfl rfl rfl ?_) | ((with_reducible refine g_binOp ?_); first | refine lx_arith rfl rfl rfl rfl rfl rfl rfl ?_) | ((with_reducible refine g_assign ?_); first | refine lx_assign (r := (.t _)) rfl rfl rfl rfl rfl ?_) | ((with_reducible refine g_pick ?_); first | refine lx_pickT (r := (.t _)) rfl rfl rfl rfl rfl rfl ?_ | refine lx_pickF (r := (.t _)) rfl rfl rfl rfl rfl rfl ?_) | ((with_reducible refine g_unOp ?_); first | refine lx_not rfl rfl rfl rfl rfl ?_) | ((with_reducible refine g_len ?_); first | refine lx_len_map rfl rfl rfl rfl rfl ?_) | ((with_reducible refine g_call ?_); first | refine lx_call (r' := .t (.bool true)) [] rfl rfl ht (ArgsLE.refl _) rfl ⟨rfl, rfl, trivial⟩ rfl rfl rfl rfl rfl rfl rfl rfl rfl rfl ?_) | refine c_condN rfl (fun hc => ?_) (fun hc => ?_) | refine lx_splitP rfl (fun hc => ?_) (fun hc => ?_))
        all_goals first | (exfalso; omega) | exact ⟨rfl, ghost_keep2 [1, 2] [.loc 2, .par 100, .par 101] rfl rfl⟩
      · clear ht hns e1 hm
        repeat' (first | (with_reducible refine codeT_seq ?_) | (with_reducible refine codeT_block ?_) | (with_reducible refine codeT_regionL ?_) | (with_reducible refine lx_nil ?_) | (with_reducible refine q_then ?_) | ((with_reducible refine g_move ?_); first | refine lx_move (r := (.t _)) rfl rfl rfl rfl rfl ?_) | ((with_reducible refine g_load ?_); first | refine lx_load_var rfl rfl rfl rfl rfl rfl rfl rfl ?_) | ((with_reducible refine g_fieldAddr ?_); first | refine lx_fieldAddr rfl rfl rfl rfl rfl rfl rfl ?_) | ((with_reducible refine g_assign ?_); first | refine lx_assign (r := (.row _)) rfl rfl rfl rfl rfl ?_) | ((with_reducible refine g_len ?_); first | refine lx_len_map rfl rfl rfl rfl rfl ?_) | ((with_reducible refine g_makeMap ?_); first | refine lx_makeMap rfl rfl rfl rfl rfl ?_))
        refine codeT_ghost (ghost_keep2 [1, 2, 6, 103, 104, 105] [.loc 101, .loc 2, .par 100, .par 101] rfl rfl) ?_
        refine codeT_loop (fun m env st => ∃ (j : Nat) (seen : List ByteArray) (es : List (T × T)), j ≤ ns.length ∧ m = ns.length - j ∧ keysOK .string es = true ∧ (∀ s, (mget es (.str s)).getD (.bool false) = .bool (inB s seen)) ∧ namesOk (textB V) [] ns = namesOk (textB V) seen (ns.drop j) ∧
            env = EnvL.get [(1, .t (.int .i64 dp)), (2, .ref (.loc 2) 0 0 0), (6, .row (.loc 101)), (103, .t (.sl 1 (ns.map .str))), (104, .t (.int .i64 ns.length)), (105, .t (.int .i64 (j : Int)))] ∧
            st = StO.get [(.loc 101, some (.dat (.map es))), (.loc 2, some (.var 26 [.t (.int .i64 k), .t (.bool b), .t (.int .i64 n), .t (.str t), .t (.sl 1 (ns.map .str)), .t (.sl 6 (is.map Nd.toT))])), (.par 100, some (.dat (.fix 0 oF))), (.par 101, some (.dat (.fix 1 oA)))])
          ?_ (n := ns.length) ⟨0, [], [], by omega, rfl, rfl, fun s => rfl, rfl, rfl, rfl⟩
        rintro m env st ⟨j, seen, es, hj, rfl, hes, hget, hi, rfl, rfl⟩
        by_cases hlt : j < ns.length
        · have hd : ns.drop j = ns[j] :: ns.drop (j + 1) := List.drop_eq_getElem_cons hlt
          have hg : ns.getD (j : Int).toNat default = ns[j] := by simp [List.getD_eq_getElem?_getD, hlt]
          have ht := rText_spec hV (ns.getD (j : Int).toNat default)
          have hy := hget (ns.getD (j : Int).toNat default)
          have hi2 : namesOk (textB V) [] ns = if inB (ns.getD (j : Int).toNat default) seen || !textB V (ns.getD (j : Int).toNat default) then false else namesOk (textB V) (ns.getD (j : Int).toNat default :: seen) (ns.drop (j + 1)) := by rw [hi, hd, hg]; rfl
          generalize textB V (ns.getD (j : Int).toNat default) = tv at ht hi2
          generalize inB (ns.getD (j : Int).toNat default) seen = sv at hy hi2
          repeat' (first | (with_reducible refine codeT_seq ?_) | (with_reducible refine codeT_block ?_) | (with_reducible refine codeT_skip ?_) | (with_reducible refine codeT_ret ?_) | (with_reducible refine codeT_exit ?_) | (with_reducible refine codeT_regionL ?_) | (with_reducible refine lx_nil ?_) | (with_reducible refine q_then ?_) | (with_reducible refine q_then_exit ?_) | (with_reducible refine q_then_ret ?_) | (with_reducible refine q_block ?_) | (with_reducible refine q_block_ret ?_) | ((with_reducible refine q_block_same ?_ ?_); · rfl) | (with_reducible refine q_loop_exit ?_) | (with_reducible refine q_loop_ret ?_) | refine c_condT rfl ?_ | refine lx_lookup_as rfl rfl rfl rfl hy (fun _ => rfl) rfl rfl rfl rfl ?_ ?_ | ((with_reducible refine g_guard ?_); first | refine lx_skip rfl rfl rfl ?_) | ((with_reducible refine g_move ?_); first | refine lx_move (r := (.t _)) rfl rfl rfl rfl rfl ?_ | refine lx_move (r := (.row _)) rfl rfl rfl rfl rfl ?_) | ((with_reducible refine g_load ?_); first | refine lx_load_var rfl rfl rfl rfl rfl rfl rfl rfl ?_ | refine lx_load_tp rfl rfl rfl rfl rfl rfl rfl ?_) | ((with_reducible refine g_fieldAddr ?_); first | refine lx_fieldAddr rfl rfl rfl rfl rfl rfl rfl ?_) | ((with_reducible refine g_binOp ?_); first | refine lx_arith rfl rfl rfl rfl rfl rfl rfl ?_) | ((with_reducible refine g_assign ?_); first | refine lx_assign (r := (.t _)) rfl rfl rfl rfl rfl ?_) | ((with_reducible refine g_pick ?_); first | refine lx_pickT (r := (.t _)) rfl rfl rfl rfl rfl rfl ?_ | refine lx_pickF (r := (.t _)) rfl rfl rfl rfl rfl rfl ?_) | ((with_reducible refine g_indexAddr ?_); first | refine lx_indexAddr_map rfl rfl rfl rfl rfl rfl ?_ ?_ ?_) | ((with_reducible refine g_unOp ?_); first | refine lx_not rfl rfl rfl rfl rfl ?_) | ((with_reducible refine g_len ?_); first | refine lx_len_map rfl rfl rfl rfl rfl ?_) | ((with_reducible refine g_mapUpdate ?_); first | refine lx_mapUpdate rfl rfl rfl rfl rfl rfl rfl rfl ?_ ?_) | ((with_reducible refine g_call ?_); first | refine lx_call (r' := .t (.bool tv)) [] rfl rfl ht (ArgsLE.refl _) rfl ⟨rfl, rfl, trivial⟩ rfl rfl rfl rfl rfl rfl rfl rfl rfl rfl ?_) | refine c_condP rfl (fun hc => ?_) (fun hc => ?_) | refine c_condB rfl (fun hc => ?_) (fun hc => ?_) | refine lx_splitB rfl (fun hc => ?_) (fun hc => ?_))
          all_goals try first | omega | exact hes
          · refine q_ret (resT_oneE rfl rfl (congrArg T.bool ?_)) (stHas_spec ⟨rfl, rfl, trivial⟩)
            rw [hi2, show tv = false by simpa using hc]; simp
          · refine q_ret (resT_oneE rfl rfl (congrArg T.bool ?_)) (stHas_spec ⟨rfl, rfl, trivial⟩)
            rw [hi2, hc]; simp
          · have htv : tv = true := by simpa using ‹(!tv) = false›
            refine q_loop (n' := ns.length - (j + 1)) (by omega) (ghost_keep2 [1, 2, 6, 103, 104, 105] [.loc 101, .loc 2, .par 100, .par 101] rfl rfl) ⟨j + 1, ns.getD (j : Int).toNat default :: seen, mset es (.str (ns.getD (j : Int).toNat default)) (.bool true), by omega, rfl, keysOK_mset _ _ _ _ hes rfl, ?_, ?_, ?_, rfl⟩
            · intro s
              rw [mget_mset_str _ _ _ _ hes]
              by_cases e : s = ns.getD (j : Int).toNat default
              · rw [if_pos e]; simp [inB, e]
              · rw [if_neg e, hget s]
                simp only [inB, List.any_cons]
                rw [decide_eq_false e]; rfl
            · rw [hi2, hc, htv]; rfl
            · rw [wrap64 (by omega) (by omega)]; rfl
        · have hdr : ns.drop j = [] := List.drop_eq_nil_of_le (by omega)
          rw [hdr] at hi
          have hi3 : namesOk (textB V) [] ns = true := hi
          rw [hi3, Bool.true_and]
          clear hi hi3 hget hdr
          repeat' (first | (with_reducible refine codeT_seq ?_) | (with_reducible refine codeT_block ?_) | (with_reducible refine codeT_skip ?_) | (with_reducible refine codeT_exit ?_) | (with_reducible refine codeT_regionL ?_) | (with_reducible refine lx_nil ?_) | (with_reducible refine q_then ?_) | (with_reducible refine q_then_exit ?_) | ((with_reducible refine q_block_same ?_ ?_); · rfl) | (with_reducible refine q_loop_exit ?_) | ((with_reducible refine g_move ?_); first | refine lx_move (r := (.t _)) rfl rfl rfl rfl rfl ?_) | ((with_reducible refine g_load ?_); first | refine lx_load_var rfl rfl rfl rfl rfl rfl rfl rfl ?_ | refine lx_load_tp rfl rfl rfl rfl rfl rfl rfl ?_) | ((with_reducible refine g_fieldAddr ?_); first | refine lx_fieldAddr rfl rfl rfl rfl rfl rfl rfl ?_) | ((with_reducible refine g_binOp ?_); first | refine lx_arith rfl rfl rfl rfl rfl rfl rfl ?_) | ((with_reducible refine g_assign ?_); first | refine lx_assign (r := (.t _)) rfl rfl rfl rfl rfl ?_) | ((with_reducible refine g_indexAddr ?_); first | refine lx_indexAddr_map rfl rfl rfl rfl rfl rfl ?_ ?_ ?_) | ((with_reducible refine g_len ?_); first | refine lx_len_map rfl rfl rfl rfl rfl ?_) | ((with_reducible refine g_call ?_); first | exact absurd hlt (by omega)) | refine c_condP rfl (fun hc => ?_) (fun hc => ?_))
          all_goals try (exfalso; omega)
          refine codeT_ghost (ghost_keep2 [1, 2, 121, 122, 123] [.loc 2, .par 100, .par 101] rfl rfl) ?_
          refine codeT_loop (fun m env st => ∃ (j : Nat), j ≤ is.length ∧ m = is.length - j ∧ Nd.anyBad V is (dp - 1) = Nd.anyBad V (is.drop j) (dp - 1) ∧
              env = EnvL.get [(1, .t (.int .i64 dp)), (2, .ref (.loc 2) 0 0 0), (121, .t (.sl 6 (is.map Nd.toT))), (122, .t (.int .i64 is.length)), (123, .t (.int .i64 (j : Int)))] ∧
              st = StO.get [(.loc 2, some (.var 26 [.t (.int .i64 k), .t (.bool b), .t (.int .i64 n), .t (.str t), .t (.sl 1 (ns.map .str)), .t (.sl 6 (is.map Nd.toT))])), (.par 100, some (.dat (.fix 0 oF))), (.par 101, some (.dat (.fix 1 oA)))])
            ?_ (n := is.length) ⟨0, by omega, rfl, rfl, rfl, rfl⟩
          clear hj hlt hes
          rintro m env st ⟨j, hj, rfl, hi, rfl, rfl⟩
          by_cases hlt : j < is.length
          · have hd : is.drop j = is[j] :: is.drop (j + 1) := List.drop_eq_getElem_cons hlt
            have hg : is.getD (j : Int).toNat default = is[j] := by simp [List.getD_eq_getElem?_getD, hlt]
            have hX := ih is[j] (List.getElem_mem hlt) (dp - 1) (by omega) (by omega)
            rw [← hg] at hX
            rw [hd, ← hg, Nd.anyBad] at hi
            have eX := (is.getD (j : Int).toNat default).toT_full
            rw [eX, ← wrap64 (n := dp - 1) (by omega) (by omega)] at hX
            rw [wrap64 (n := dp - 1) (by omega) (by omega)] at hX
            generalize (is.getD (j : Int).toNat default).validB V (dp - 1) = v at hX hi
            rw [← wrap64 (n := dp - 1) (by omega) (by omega)] at hX
            repeat' (first | (with_reducible refine codeT_seq ?_) | (with_reducible refine codeT_block ?_) | (with_reducible refine codeT_skip ?_) | (with_reducible refine codeT_ret ?_) | (with_reducible refine codeT_exit ?_) | (with_reducible refine codeT_regionL ?_) | (with_reducible refine lx_nil ?_) | (with_reducible refine q_then ?_) | (with_reducible refine q_then_exit ?_) | (with_reducible refine q_then_ret ?_) | (with_reducible refine q_block ?_) | (with_reducible refine q_block_ret ?_) | ((with_reducible refine q_block_same ?_ ?_); · rfl) | (with_reducible refine q_loop_exit ?_) | (with_reducible refine q_loop_ret ?_) | refine lx_load_tpAE rfl rfl eX rfl rfl rfl rfl rfl rfl ?_ | ((with_reducible refine g_move ?_); first | refine lx_move (r := (.t _)) rfl rfl rfl rfl rfl ?_) | ((with_reducible refine g_load ?_); first | refine lx_load_varA (r := (.t (.agg _))) rfl rfl rfl rfl rfl rfl rfl rfl rfl ?_) | ((with_reducible refine g_binOp ?_); first | refine lx_arith rfl rfl rfl rfl rfl rfl rfl ?_) | ((with_reducible refine g_assign ?_); first | refine lx_assign (r := (.t _)) rfl rfl rfl rfl rfl ?_) | ((with_reducible refine g_alloc ?_); first | refine lx_alloc rfl rfl rfl rfl rfl rfl rfl ?_) | ((with_reducible refine g_store ?_); first | refine lx_store_var (r := (.t (.agg _))) rfl rfl rfl rfl rfl rfl rfl rfl rfl rfl ?_) | ((with_reducible refine g_indexAddr ?_); first | refine lx_indexAddr_map rfl rfl rfl rfl rfl rfl ?_ ?_ ?_) | ((with_reducible refine g_unOp ?_); first | refine lx_not rfl rfl rfl rfl rfl ?_) | ((with_reducible refine g_call ?_); first | refine lx_call (r' := .t (.bool v)) [] rfl rfl hX (ArgsLE.refl _) rfl ⟨rfl, rfl, trivial⟩ rfl rfl rfl rfl rfl rfl rfl rfl rfl rfl ?_) | refine c_condP rfl (fun hc => ?_) (fun hc => ?_) | refine c_condB rfl (fun hc => ?_) (fun hc => ?_))
            all_goals try omega
            · refine q_ret (resT_oneE rfl rfl (congrArg T.bool ?_)) (stHas_spec ⟨rfl, rfl, trivial⟩)
              rw [hi, show v = false by simpa using hc]; rfl
            · refine q_loop (n' := is.length - (j + 1)) (by omega) (ghost_keep2 [1, 2, 121, 122, 123] [.loc 2, .par 100, .par 101] rfl rfl) ⟨j + 1, by omega, rfl, ?_, by rw [wrap64 (by omega) (by omega)]; rfl, rfl⟩
              rw [hi, show v = true by simpa using hc]; rfl
          · have hdr : is.drop j = [] := List.drop_eq_nil_of_le (by omega)
            rw [hdr] at hi
            repeat' (first | (with_reducible refine codeT_seq ?_) | (with_reducible refine codeT_block ?_) | (with_reducible refine codeT_skip ?_) | (with_reducible refine codeT_ret ?_) | (with_reducible refine codeT_exit ?_) | (with_reducible refine codeT_regionL ?_) | (with_reducible refine lx_nil ?_) | (with_reducible refine q_then ?_) | (with_reducible refine q_then_exit ?_) | ((with_reducible refine q_block_same ?_ ?_); · rfl) | (with_reducible refine q_loop_exit ?_) | ((with_reducible refine g_binOp ?_); first | refine lx_arith rfl rfl rfl rfl rfl rfl rfl ?_) | ((with_reducible refine g_assign ?_); first | refine lx_assign (r := (.t _)) rfl rfl rfl rfl rfl ?_) | ((with_reducible refine g_indexAddr ?_); first | refine lx_indexAddr_map rfl rfl rfl rfl rfl rfl ?_ ?_ ?_) | refine c_condP rfl (fun hc => ?_) (fun hc => ?_))
            all_goals try (exfalso; omega)
            refine q_ret (resT_oneE rfl rfl (congrArg T.bool ?_)) (stHas_spec ⟨rfl, rfl, trivial⟩)
            rw [hi]; rfl
    · have e1 : (!(false || !true || decide (256 < (is.length : Int))) && (!decide (k = 5) || (namesOk (textB V) [] ns && decide ((ns.length : Int) = is.length))) && !Nd.anyBad V is (dp - 1)) = false := by
        by_cases h : is.length ≤ 256
        · have h5 : k = 5 ∧ ns.length ≠ is.length := ⟨Classical.byContradiction fun h5 => hm ⟨h, fun e => absurd e h5⟩, fun e => hm ⟨h, fun _ => e⟩⟩
          have : ¬ ((ns.length : Int) = is.length) := by omega
          simp [h5.1, this]
        · have : (256 : Int) < is.length := by omega
          simp [this]
      rw [e1]
      repeat' (first | (with_reducible refine codeT_seq ?_) | (with_reducible refine codeT_block ?_) | (with_reducible refine codeT_skip ?_) | (with_reducible refine codeT_ret ?_) | (with_reducible refine codeT_regionL ?_) | (with_reducible refine lx_nil ?_) | (with_reducible refine q_then ?_) | (with_reducible refine q_then_ret ?_) | refine c_condT rfl ?_ | refine c_condF rfl ?_ | ((with_reducible refine g_guard ?_); first | refine lx_skip rfl rfl rfl ?_) | ((with_reducible refine g_move ?_); first | refine lx_move (r := (.t _)) rfl rfl rfl rfl rfl ?_) | ((with_reducible refine g_load ?_); first | refine lx_load_var rfl rfl rfl rfl rfl rfl rfl rfl ?_) | ((with_reducible refine g_fieldAddr ?_); first | refine lx_fieldAddr rfl rfl rfl rfl rfl rfl rfl ?_) | ((with_reducible refine g_binOp ?_); first | refine lx_arith rfl rfl rfl rfl rfl rfl rfl ?_) | ((with_reducible refine g_assign ?_); first | refine lx_assign (r := (.t _)) rfl rfl rfl rfl rfl ?_ | refine lx_assign (r := (.row _)) rfl rfl rfl rfl rfl ?_) | ((with_reducible refine g_pick ?_); first | refine lx_pickT (r := (.t _)) rfl rfl rfl rfl rfl rfl ?_ | refine lx_pickF (r := (.t _)) rfl rfl rfl rfl rfl rfl ?_) | ((with_reducible refine g_unOp ?_); first | refine lx_not rfl rfl rfl rfl rfl ?_) | ((with_reducible refine g_len ?_); first | refine lx_len_map rfl rfl rfl rfl rfl ?_) | ((with_reducible refine g_makeMap ?_); first | refine lx_makeMap rfl rfl rfl rfl rfl ?_) | ((with_reducible refine g_call ?_); first | refine lx_call (r' := .t (.bool true)) [] rfl rfl ht (ArgsLE.refl _) rfl ⟨rfl, rfl, trivial⟩ rfl rfl rfl rfl rfl rfl rfl rfl rfl rfl ?_) | refine c_condN rfl (fun hc => ?_) (fun hc => ?_) | refine lx_splitP rfl (fun hc => ?_) (fun hc => ?_))
      all_goals first | exact q_ret (resT_oneE rfl rfl rfl) (stHas_spec ⟨rfl, rfl, trivial⟩) | (exfalso; omega)

set_option maxHeartbeats 2000000 in
theorem rValid_spec {oF oA : Obj} {V : ByteArray → Bool} (hV : VSpec oF oA V) (x : Nd) (hx : x.Ok) : Spec Tryd.prog 41 [.t x.toT] [(.par 100, .dat (.fix 0 oF)), (.par 101, .dat (.fix 1 oA))] (.t (.bool (x.validB V 8))) [(.par 100, .dat (.fix 0 oF)), (.par 101, .dat (.fix 1 oA))] := by
  have h := rvalid_spec hV x hx 8 (by omega) (by omega)
  generalize x.validB V 8 = v at h ⊢
  have eX := x.toT_full
  rw [eX] at h ⊢
  refine spec_intro (env0 := [(0, _)]) (st0 := [(_, some _), (_, some _)]) Tryd.func41 rfl rfl rfl rfl ?_
  repeat' (first | (with_reducible refine codeT_seq ?_) | (with_reducible refine codeT_ret ?_) | (with_reducible refine codeT_regionL ?_) | (with_reducible refine lx_nil ?_) | (with_reducible refine q_then ?_) | ((with_reducible refine g_load ?_); first | refine lx_load_varA (r := (.t (.agg _))) rfl rfl rfl rfl rfl rfl rfl rfl rfl ?_) | ((with_reducible refine g_assign ?_); first | refine lx_assign (r := (.t _)) rfl rfl rfl rfl rfl ?_) | ((with_reducible refine g_box ?_); first | refine lx_box (r := (.t (.agg _))) (cs := (List.map .t _)) rfl rfl rfl rfl rfl rfl rfl rfl rfl ?_) | ((with_reducible refine g_call ?_); first | refine lx_call (r' := .t (.bool v)) [] rfl rfl h (ArgsLE.refl _) rfl ⟨rfl, rfl, trivial⟩ rfl rfl rfl rfl rfl rfl rfl rfl rfl rfl ?_))
  exact q_ret (resT_oneE rfl rfl rfl) (stHas_spec ⟨rfl, rfl, trivial⟩)
end Go.AL
/- What the document's Write and Encode answer. -/
set_option linter.unusedVariables false
namespace Go.AL
open Go Go.Proofs Go.RowKit

theorem cplU64 {n : Int} (h0 : -9223372036854775808 ≤ n) (h1 : n < 0) : IntKind.u64.wrap ((BitVec.ofInt IntKind.u64.bits (if IntKind.u64.signed then -1 else IntKind.u64.max)) ^^^ BitVec.ofInt IntKind.u64.bits (IntKind.u64.wrap n)).toNat = -1 - n := by
  show IntKind.u64.wrap (((BitVec.ofInt 64 IntKind.u64.max) ^^^ BitVec.ofInt 64 (IntKind.u64.wrap n)).toNat : Int) = _
  have e0 : IntKind.u64.wrap n = n + 18446744073709551616 := by
    simp only [IntKind.wrap, IntKind.bits, IntKind.signed, Bool.false_and, Bool.false_eq_true, if_false]; omega
  have e2 : ((BitVec.ofInt 64 IntKind.u64.max) ^^^ BitVec.ofInt 64 (IntKind.u64.wrap n)).toNat = 18446744073709551615 - (n + 18446744073709551616).toNat := by
    rw [e0, show BitVec.ofInt 64 IntKind.u64.max = BitVec.allOnes 64 by decide, BitVec.allOnes_xor, BitVec.toNat_not, BitVec.toNat_ofInt]
    have : ((n + 18446744073709551616) % ((2 ^ 64 : Nat) : Int)).toNat = (n + 18446744073709551616).toNat := by omega
    rw [this]
  rw [e2, wrapU64 (by omega) (by omega)]
  omega
set_option maxHeartbeats 8000000 in
theorem rWrite_seq (k : Int) (hk45 : k = 4 ∨ k = 5) (b : Bool) (n : Int) (t : ByteArray) (ns : List ByteArray) (is : List Nd) (hlen : is.length ≤ 256) (hk : k = 5 → ns.length = is.length)
    (hns : ∀ s ∈ ns, s.size ≤ 65536) (hb : (hdL k.toNat is.length).length + (preB k ns is is.length).length ≤ 50000000)
    (IH : ∀ i, i < is.length → (is.getD i default).cb.length ≤ 50000000 → Spec Tryd.prog 57 [.t (is.getD i default).toT] [] (.t (.str (ofL (is.getD i default).cb))) []) :
    Spec Tryd.prog 57 [.t (.agg [.int .i64 k, .bool b, .int .i64 n, .str t, .sl 1 (ns.map .str), .sl 6 (is.map Nd.toT)])] [] (.t (.str (ofL (hdL k.toNat is.length ++ preB k ns is is.length)))) [] := by
  have hH : Spec Tryd.prog 59 [.t (.int .i64 k), .t (.int .u64 (IntKind.u64.wrap (is.length : Int)))] [] (.t (.str (ofL (hdL k.toNat is.length)))) [] := by
    rw [wrapU64 (by omega) (by omega)]
    have := rHead_spec k.toNat (by omega) is.length (by omega)
    rw [show (k.toNat : Int) = k by omega] at this
    exact this
  obtain ⟨H0, hH0⟩ : ∃ H, H = hdL k.toNat is.length := ⟨_, rfl⟩
  rw [← hH0] at hH hb ⊢
  have hmono := fun i j (hij : i ≤ j) (hj : j ≤ is.length) => preB_mono (k := k) hk hij hj
  obtain ⟨S0, hS0⟩ : ∃ S, S = ofL H0 := ⟨_, rfl⟩
  rw [← hS0] at hH
  obtain rfl | rfl := hk45
  · refine spec_intro (env0 := [(0, _)]) (st0 := []) Tryd.func57 rfl rfl rfl rfl ?_
    repeat' (first | (with_reducible refine codeT_seq ?_) | (with_reducible refine codeT_block ?_) | (with_reducible refine codeT_skip ?_) | (with_reducible refine codeT_regionL ?_) | (with_reducible refine lx_nil ?_) | (with_reducible refine q_then ?_) | refine c_condT rfl ?_ | refine c_condF rfl ?_ | ((with_reducible refine g_move ?_); first | refine lx_move (r := (.t _)) rfl rfl rfl rfl rfl ?_) | ((with_reducible refine g_load ?_); first | refine lx_load_var rfl rfl rfl rfl rfl rfl rfl rfl ?_) | ((with_reducible refine g_fieldAddr ?_); first | refine lx_fieldAddr rfl rfl rfl rfl rfl rfl rfl ?_) | ((with_reducible refine g_binOp ?_); first | refine lx_arith rfl rfl rfl rfl rfl rfl rfl ?_) | ((with_reducible refine g_assign ?_); first | refine lx_assign (r := (.t _)) rfl rfl rfl rfl rfl ?_) | ((with_reducible refine g_box ?_); first | refine lx_box (r := (.t (.agg _))) (cs := (List.map .t _)) rfl rfl rfl rfl rfl rfl rfl rfl rfl ?_) | ((with_reducible refine g_convert ?_); first | refine lx_conv_int rfl rfl rfl rfl rfl ?_) | ((with_reducible refine g_len ?_); first | refine lx_len_map rfl rfl rfl rfl rfl ?_) | ((with_reducible refine g_call ?_); first | refine lx_callT rfl rfl hH rfl rfl (ArgsLE.refl _) rfl rfl rfl rfl rfl ?_))
    refine codeT_ghost (ghost_keep2 [1, 3, 47, 48, 49] [.loc 1] rfl rfl) ?_
    refine codeT_loop (fun p env st => ∃ (j : Nat) (S : ByteArray), j ≤ is.length ∧ p = is.length - j ∧ S = ofL (H0 ++ preB 4 ns is j) ∧
        env = EnvL.get [(1, .ref (.loc 1) 0 0 0), (3, .t (.str S)), (47, .t (.sl 6 (is.map Nd.toT))), (48, .t (.int .i64 is.length)), (49, .t (.int .i64 (j : Int)))] ∧
        st = StO.get [(.loc 1, some (.var 26 [.t (.int .i64 4), .t (.bool b), .t (.int .i64 n), .t (.str t), .t (.sl 1 (ns.map .str)), .t (.sl 6 (is.map Nd.toT))]))])
      ?_ (n := is.length) ⟨0, S0, by omega, rfl, by rw [hS0]; simp [preB, Nd.cbs], rfl, rfl⟩
    rintro p env st ⟨j, S, hj, rfl, hS, rfl, rfl⟩
    by_cases hlt : j < is.length
    · have hle := hmono (j + 1) is.length (by omega) (by omega)
      rw [preB_list (by decide) hlt, List.length_append] at hle
      have hP := IH j hlt (by omega)
      have hsz : S.size = H0.length + (preB 4 ns is j).length := by rw [hS, ofL_size, List.length_append]
      have hT := (is.getD j default).toT_full
      rw [hT] at hP
      have hw : ofL (H0 ++ preB 4 ns is (j + 1)) = S ++ ofL (is.getD j default).cb := by
        rw [preB_list (by decide) hlt, hS, ofL_append, List.append_assoc]
      obtain ⟨W, hW⟩ : ∃ W, W = ofL (is.getD j default).cb := ⟨_, rfl⟩
      have hWs : W.size = (is.getD j default).cb.length := by rw [hW, ofL_size]
      rw [← hW] at hP hw
      have hg : is.getD (j : Int).toNat default = is.getD j default := rfl
      repeat' (first | (with_reducible refine codeT_seq ?_) | (with_reducible refine codeT_block ?_) | (with_reducible refine codeT_skip ?_) | (with_reducible refine codeT_ret ?_) | (with_reducible refine codeT_exit ?_) | (with_reducible refine codeT_regionL ?_) | (with_reducible refine lx_nil ?_) | (with_reducible refine q_then ?_) | (with_reducible refine q_then_exit ?_) | (with_reducible refine q_then_ret ?_) | (with_reducible refine q_block ?_) | (with_reducible refine q_block_ret ?_) | ((with_reducible refine q_block_same ?_ ?_); · rfl) | (with_reducible refine q_loop_exit ?_) | refine c_condF rfl ?_ | refine lx_load_tpAE rfl rfl hT rfl rfl rfl rfl rfl rfl ?_ | ((with_reducible refine g_move ?_); first | refine lx_move (r := (.t _)) rfl rfl rfl rfl rfl ?_) | ((with_reducible refine g_load ?_); first | refine lx_load_var rfl rfl rfl rfl rfl rfl rfl rfl ?_ | refine lx_load_varA (r := (.t (.agg _))) rfl rfl rfl rfl rfl rfl rfl rfl rfl ?_) | ((with_reducible refine g_fieldAddr ?_); first | refine lx_fieldAddr rfl rfl rfl rfl rfl rfl rfl ?_) | ((with_reducible refine g_binOp ?_); first | refine lx_arith rfl rfl rfl rfl rfl rfl rfl ?_ | refine lx_concat rfl rfl rfl rfl rfl rfl ?_ ?_) | ((with_reducible refine g_assign ?_); first | refine lx_assign (r := (.t _)) rfl rfl rfl rfl rfl ?_) | ((with_reducible refine g_alloc ?_); first | refine lx_alloc rfl rfl rfl rfl rfl rfl rfl ?_) | ((with_reducible refine g_store ?_); first | refine lx_store_var (r := (.t (.agg _))) rfl rfl rfl rfl rfl rfl rfl rfl rfl rfl ?_) | ((with_reducible refine g_indexAddr ?_); first | refine lx_indexAddr_map rfl rfl rfl rfl rfl rfl ?_ ?_ ?_) | ((with_reducible refine g_call ?_); first | refine lx_callT rfl rfl hP rfl rfl (ArgsLE.refl _) rfl rfl rfl rfl rfl ?_) | refine c_condP rfl (fun hc => ?_) (fun hc => ?_))
      all_goals try omega
      · exact q_loop (n' := is.length - (j + 1)) (by omega) (ghost_keep2 [1, 3, 47, 48, 49] [.loc 1] rfl rfl) ⟨j + 1, S ++ W, by omega, rfl, hw.symm, by rw [wrap64 (by omega) (by omega)]; rfl, rfl⟩
    · repeat' (first | (with_reducible refine codeT_seq ?_) | (with_reducible refine codeT_block ?_) | (with_reducible refine codeT_skip ?_) | (with_reducible refine codeT_ret ?_) | (with_reducible refine codeT_exit ?_) | (with_reducible refine codeT_regionL ?_) | (with_reducible refine lx_nil ?_) | (with_reducible refine q_then ?_) | (with_reducible refine q_then_exit ?_) | (with_reducible refine q_then_ret ?_) | (with_reducible refine q_block_ret ?_) | ((with_reducible refine q_block_same ?_ ?_); · rfl) | (with_reducible refine q_loop_exit ?_) | ((with_reducible refine g_move ?_); first | refine lx_move (r := (.t _)) rfl rfl rfl rfl rfl ?_) | ((with_reducible refine g_binOp ?_); first | refine lx_arith rfl rfl rfl rfl rfl rfl rfl ?_) | ((with_reducible refine g_assign ?_); first | refine lx_assign (r := (.t _)) rfl rfl rfl rfl rfl ?_) | ((with_reducible refine g_indexAddr ?_); first | refine lx_indexAddr_map rfl rfl rfl rfl rfl rfl ?_ ?_ ?_) | refine c_condP rfl (fun hc => ?_) (fun hc => ?_))
      all_goals try (exfalso; omega)
      obtain rfl : j = is.length := by omega
      exact q_ret (resT_oneE rfl rfl (congrArg T.str hS)) (by simp)
  · refine spec_intro (env0 := [(0, _)]) (st0 := []) Tryd.func57 rfl rfl rfl rfl ?_
    repeat' (first | (with_reducible refine codeT_seq ?_) | (with_reducible refine codeT_block ?_) | (with_reducible refine codeT_regionL ?_) | (with_reducible refine lx_nil ?_) | (with_reducible refine q_then ?_) | refine c_condT rfl ?_ | refine c_condF rfl ?_ | ((with_reducible refine g_move ?_); first | refine lx_move (r := (.t _)) rfl rfl rfl rfl rfl ?_) | ((with_reducible refine g_load ?_); first | refine lx_load_var rfl rfl rfl rfl rfl rfl rfl rfl ?_) | ((with_reducible refine g_fieldAddr ?_); first | refine lx_fieldAddr rfl rfl rfl rfl rfl rfl rfl ?_) | ((with_reducible refine g_binOp ?_); first | refine lx_arith rfl rfl rfl rfl rfl rfl rfl ?_) | ((with_reducible refine g_assign ?_); first | refine lx_assign (r := (.t _)) rfl rfl rfl rfl rfl ?_) | ((with_reducible refine g_box ?_); first | refine lx_box (r := (.t (.agg _))) (cs := (List.map .t _)) rfl rfl rfl rfl rfl rfl rfl rfl rfl ?_) | ((with_reducible refine g_convert ?_); first | refine lx_conv_int rfl rfl rfl rfl rfl ?_) | ((with_reducible refine g_len ?_); first | refine lx_len_map rfl rfl rfl rfl rfl ?_) | ((with_reducible refine g_call ?_); first | refine lx_callT rfl rfl hH rfl rfl (ArgsLE.refl _) rfl rfl rfl rfl rfl ?_))
    refine codeT_ghost (ghost_keep2 [1, 3, 47, 48, 49] [.loc 1] rfl rfl) ?_
    refine codeT_loop (fun p env st => ∃ (j : Nat) (S : ByteArray), j ≤ is.length ∧ p = is.length - j ∧ S = ofL (H0 ++ preB 5 ns is j) ∧
        env = EnvL.get [(1, .ref (.loc 1) 0 0 0), (3, .t (.str S)), (47, .t (.sl 6 (is.map Nd.toT))), (48, .t (.int .i64 is.length)), (49, .t (.int .i64 (j : Int)))] ∧
        st = StO.get [(.loc 1, some (.var 26 [.t (.int .i64 5), .t (.bool b), .t (.int .i64 n), .t (.str t), .t (.sl 1 (ns.map .str)), .t (.sl 6 (is.map Nd.toT))]))])
      ?_ (n := is.length) ⟨0, S0, by omega, rfl, by rw [hS0]; simp [preB, Nd.cbm], rfl, rfl⟩
    rintro p env st ⟨j, S, hj, rfl, hS, rfl, rfl⟩
    by_cases hlt : j < is.length
    · have hle := hmono (j + 1) is.length (by omega) (by omega)
      have hl5 := hk rfl
      rw [preB_map hl5 hlt, List.length_append, List.length_append, List.length_append, toList_len] at hle
      have hP := IH j hlt (by omega)
      have hsn : (ns.getD j default).size ≤ 65536 := hns _ (by rw [List.getD_eq_getElem?_getD, List.getElem?_eq_getElem (by omega)]; simp)
      have hsz : S.size = H0.length + (preB 5 ns is j).length := by rw [hS, ofL_size, List.length_append]
      have hT := (is.getD j default).toT_full
      rw [hT] at hP
      have hw : ofL (H0 ++ preB 5 ns is (j + 1)) = S ++ (ofL (hdL 3 (ns.getD j default).size) ++ ns.getD j default) ++ ofL (is.getD j default).cb := by
        rw [preB_map hl5 hlt, hS, ← ofL_of (ns.getD j default), ofL_append, ofL_append, ofL_append, ofL_toList]
        simp only [List.append_assoc]
      obtain ⟨W, hW⟩ : ∃ W, W = ofL (is.getD j default).cb := ⟨_, rfl⟩
      have hWs : W.size = (is.getD j default).cb.length := by rw [hW, ofL_size]
      rw [← hW] at hP hw
      have hH3 : Spec Tryd.prog 59 [.t (.int .i64 3), .t (.int .u64 (IntKind.u64.wrap ((ns.getD (j : Int).toNat default).size : Int)))] [] (.t (.str (ofL (hdL 3 (ns.getD j default).size)))) [] := by
        have : (ns.getD (j : Int).toNat default) = ns.getD j default := rfl
        rw [this, wrapU64 (by omega) (by omega)]
        exact rHead_spec 3 (by omega) _ (by omega)
      obtain ⟨H3, hH3e⟩ : ∃ H, H = ofL (hdL 3 (ns.getD j default).size) := ⟨_, rfl⟩
      have hH3s : H3.size ≤ 9 := by rw [hH3e, ofL_size]; exact hdL_len
      rw [← hH3e] at hH3 hw
      have hgn : (ns.getD (j : Int).toNat default) = ns.getD j default := rfl
      repeat' (first | (with_reducible refine codeT_seq ?_) | (with_reducible refine codeT_block ?_) | (with_reducible refine codeT_skip ?_) | (with_reducible refine codeT_ret ?_) | (with_reducible refine codeT_exit ?_) | (with_reducible refine codeT_regionL ?_) | ((with_reducible refine codeT_region_drawL ?_ ?_); · rfl) | (with_reducible refine lx_nil ?_) | (with_reducible refine q_then ?_) | (with_reducible refine q_then_exit ?_) | (with_reducible refine q_then_ret ?_) | (with_reducible refine q_block ?_) | (with_reducible refine q_block_ret ?_) | ((with_reducible refine q_block_same ?_ ?_); · rfl) | (with_reducible refine q_loop_exit ?_) | ((with_reducible refine q_region_draw ?_ ?_); · rfl) | refine c_condT rfl ?_ | refine lx_load_tpAE rfl rfl hT rfl rfl rfl rfl rfl rfl ?_ | ((with_reducible refine g_move ?_); first | refine lx_move (r := (.t _)) rfl rfl rfl rfl rfl ?_) | ((with_reducible refine g_load ?_); first | refine lx_load_var rfl rfl rfl rfl rfl rfl rfl rfl ?_ | refine lx_load_varA (r := (.t (.agg _))) rfl rfl rfl rfl rfl rfl rfl rfl rfl ?_ | refine lx_load_tp rfl rfl rfl rfl rfl rfl rfl ?_) | ((with_reducible refine g_fieldAddr ?_); first | refine lx_fieldAddr rfl rfl rfl rfl rfl rfl rfl ?_) | ((with_reducible refine g_binOp ?_); first | refine lx_arith rfl rfl rfl rfl rfl rfl rfl ?_ | refine lx_concat rfl rfl rfl rfl rfl rfl ?_ ?_) | ((with_reducible refine g_assign ?_); first | refine lx_assign (r := (.t _)) rfl rfl rfl rfl rfl ?_) | ((with_reducible refine g_alloc ?_); first | refine lx_alloc rfl rfl rfl rfl rfl rfl rfl ?_) | ((with_reducible refine g_store ?_); first | refine lx_store_var (r := (.t (.agg _))) rfl rfl rfl rfl rfl rfl rfl rfl rfl rfl ?_) | ((with_reducible refine g_indexAddr ?_); first | refine lx_indexAddr_map rfl rfl rfl rfl rfl rfl ?_ ?_ ?_) | ((with_reducible refine g_convert ?_); first | refine lx_conv_int rfl rfl rfl rfl rfl ?_) | ((with_reducible refine g_len ?_); first | refine lx_len_str rfl rfl rfl rfl rfl ?_) | ((with_reducible refine g_call ?_); first | refine lx_callT rfl rfl hP rfl rfl (ArgsLE.refl _) rfl rfl rfl rfl rfl ?_ | refine lx_callT rfl rfl hH3 rfl rfl (ArgsLE.refl _) rfl rfl rfl rfl rfl ?_) | refine c_condP rfl (fun hc => ?_) (fun hc => ?_))
      all_goals try rw [hgn]
      all_goals try (simp only [ByteArray.size_append] at *; omega)
      exact q_loop (n' := is.length - (j + 1)) (by omega) (ghost_keep2 [1, 3, 47, 48, 49] [.loc 1] rfl rfl) ⟨j + 1, S ++ (H3 ++ ns.getD j default) ++ W, by omega, rfl, hw.symm, by rw [wrap64 (by omega) (by omega)]; rfl, rfl⟩
    · repeat' (first | (with_reducible refine codeT_seq ?_) | (with_reducible refine codeT_block ?_) | (with_reducible refine codeT_skip ?_) | (with_reducible refine codeT_ret ?_) | (with_reducible refine codeT_exit ?_) | (with_reducible refine codeT_regionL ?_) | (with_reducible refine lx_nil ?_) | (with_reducible refine q_then ?_) | (with_reducible refine q_then_exit ?_) | (with_reducible refine q_then_ret ?_) | (with_reducible refine q_block_ret ?_) | ((with_reducible refine q_block_same ?_ ?_); · rfl) | (with_reducible refine q_loop_exit ?_) | ((with_reducible refine g_move ?_); first | refine lx_move (r := (.t _)) rfl rfl rfl rfl rfl ?_) | ((with_reducible refine g_binOp ?_); first | refine lx_arith rfl rfl rfl rfl rfl rfl rfl ?_) | ((with_reducible refine g_assign ?_); first | refine lx_assign (r := (.t _)) rfl rfl rfl rfl rfl ?_) | ((with_reducible refine g_indexAddr ?_); first | refine lx_indexAddr_map rfl rfl rfl rfl rfl rfl ?_ ?_ ?_) | refine c_condP rfl (fun hc => ?_) (fun hc => ?_))
      all_goals try (exfalso; omega)
      obtain rfl : j = is.length := by omega
      exact q_ret (resT_oneE rfl rfl (congrArg T.str hS)) (by simp)

theorem sF6 : (⟨#[246]⟩ : ByteArray) = ofL (hdL 7 22) := by decide
theorem sF5 : (⟨#[245]⟩ : ByteArray) = ofL (hdL 7 21) := by decide
theorem sF4 : (⟨#[244]⟩ : ByteArray) = ofL (hdL 7 20) := by decide
set_option maxHeartbeats 8000000 in
theorem rWrite_spec {V : ByteArray → Bool} : ∀ (x : Nd) (e : Int), x.validB V e = true → x.In → x.cb.length ≤ 50000000 →
    Spec Tryd.prog 57 [.t x.toT] [] (.t (.str (ofL x.cb))) []
  | .mk k b n t ns is, e, hv, hin, hb => by
    rw [valid_mk] at hv
    obtain ⟨h1, h2, h3, h4, h5, h6, h7, h8⟩ := hv
    cases hin with
    | mk i1 i2 i3 =>
    rw [Nd.toT_eq]
    have hk : k = 0 ∨ k = 1 ∨ k = 2 ∨ k = 3 ∨ (k = 4 ∨ k = 5) := by omega
    rcases hk with rfl | rfl | rfl | rfl | hk
    · rw [show (Nd.mk 0 b n t ns is).cb = hdL 7 22 by simp [Nd.cb], ← sF6]
      refine spec_intro (env0 := [(0, _)]) (st0 := []) Tryd.func57 rfl rfl rfl rfl ?_
      repeat' (first | (with_reducible refine codeT_seq ?_) | (with_reducible refine codeT_block ?_) | (with_reducible refine codeT_skip ?_) | (with_reducible refine codeT_ret ?_) | (with_reducible refine codeT_regionL ?_) | (with_reducible refine lx_nil ?_) | (with_reducible refine q_then ?_) | (with_reducible refine q_block ?_) | refine c_condF rfl ?_ | ((with_reducible refine g_load ?_); first | refine lx_load_var rfl rfl rfl rfl rfl rfl rfl rfl ?_) | ((with_reducible refine g_fieldAddr ?_); first | refine lx_fieldAddr rfl rfl rfl rfl rfl rfl rfl ?_) | ((with_reducible refine g_binOp ?_); first | refine lx_arith rfl rfl rfl rfl rfl rfl rfl ?_) | ((with_reducible refine g_assign ?_); first | refine lx_assign (r := (.t _)) rfl rfl rfl rfl rfl ?_) | ((with_reducible refine g_box ?_); first | refine lx_box (r := (.t (.agg _))) (cs := (List.map .t _)) rfl rfl rfl rfl rfl rfl rfl rfl rfl ?_))
      exact q_ret (resT_oneE rfl rfl rfl) (by simp)
    · cases b with
      | true =>
        rw [show (Nd.mk 1 true n t ns is).cb = hdL 7 21 by simp [Nd.cb], ← sF5]
        refine spec_intro (env0 := [(0, _)]) (st0 := []) Tryd.func57 rfl rfl rfl rfl ?_
        repeat' (first | (with_reducible refine codeT_seq ?_) | (with_reducible refine codeT_block ?_) | (with_reducible refine codeT_ret ?_) | (with_reducible refine codeT_regionL ?_) | (with_reducible refine lx_nil ?_) | (with_reducible refine q_then ?_) | (with_reducible refine q_then_ret ?_) | (with_reducible refine q_block_ret ?_) | refine c_condT rfl ?_ | ((with_reducible refine g_load ?_); first | refine lx_load_var rfl rfl rfl rfl rfl rfl rfl rfl ?_) | ((with_reducible refine g_fieldAddr ?_); first | refine lx_fieldAddr rfl rfl rfl rfl rfl rfl rfl ?_) | ((with_reducible refine g_binOp ?_); first | refine lx_arith rfl rfl rfl rfl rfl rfl rfl ?_) | ((with_reducible refine g_assign ?_); first | refine lx_assign (r := (.t _)) rfl rfl rfl rfl rfl ?_) | ((with_reducible refine g_box ?_); first | refine lx_box (r := (.t (.agg _))) (cs := (List.map .t _)) rfl rfl rfl rfl rfl rfl rfl rfl rfl ?_))
        exact q_ret (resT_oneE rfl rfl rfl) (by simp)
      | false =>
        rw [show (Nd.mk 1 false n t ns is).cb = hdL 7 20 by simp [Nd.cb], ← sF4]
        refine spec_intro (env0 := [(0, _)]) (st0 := []) Tryd.func57 rfl rfl rfl rfl ?_
        repeat' (first | (with_reducible refine codeT_seq ?_) | (with_reducible refine codeT_block ?_) | (with_reducible refine codeT_skip ?_) | (with_reducible refine codeT_ret ?_) | (with_reducible refine codeT_regionL ?_) | (with_reducible refine lx_nil ?_) | (with_reducible refine q_then ?_) | (with_reducible refine q_then_ret ?_) | (with_reducible refine q_block_ret ?_) | refine c_condT rfl ?_ | refine c_condF rfl ?_ | ((with_reducible refine g_load ?_); first | refine lx_load_var rfl rfl rfl rfl rfl rfl rfl rfl ?_) | ((with_reducible refine g_fieldAddr ?_); first | refine lx_fieldAddr rfl rfl rfl rfl rfl rfl rfl ?_) | ((with_reducible refine g_binOp ?_); first | refine lx_arith rfl rfl rfl rfl rfl rfl rfl ?_) | ((with_reducible refine g_assign ?_); first | refine lx_assign (r := (.t _)) rfl rfl rfl rfl rfl ?_) | ((with_reducible refine g_box ?_); first | refine lx_box (r := (.t (.agg _))) (cs := (List.map .t _)) rfl rfl rfl rfl rfl rfl rfl rfl rfl ?_))
        exact q_ret (resT_oneE rfl rfl rfl) (by simp)
    · have ec : (Nd.mk 2 b n t ns is).cb = if n < 0 then hdL 1 (-1 - n).toNat else hdL 0 n.toNat := by simp [Nd.cb]
      rw [ec]
      by_cases hn : n < 0
      · rw [if_pos hn]
        have hH : Spec Tryd.prog 59 [.t (.int .i64 1), .t (.int .u64 (IntKind.u64.wrap ((BitVec.ofInt IntKind.u64.bits (if IntKind.u64.signed then -1 else IntKind.u64.max)) ^^^ BitVec.ofInt IntKind.u64.bits (IntKind.u64.wrap n)).toNat))] [] (.t (.str (ofL (hdL 1 (-1 - n).toNat)))) [] := by
          have := rHead_spec 1 (by omega) (-1 - n).toNat (by omega)
          rw [cplU64 i1 hn]
          rw [show (((-1 - n).toNat : Nat) : Int) = -1 - n by omega] at this
          exact this
        generalize ofL (hdL 1 (-1 - n).toNat) = R at hH ⊢
        refine spec_intro (env0 := [(0, _)]) (st0 := []) Tryd.func57 rfl rfl rfl rfl ?_
        repeat' (first | (with_reducible refine codeT_seq ?_) | (with_reducible refine codeT_block ?_) | (with_reducible refine codeT_skip ?_) | (with_reducible refine codeT_ret ?_) | (with_reducible refine codeT_regionL ?_) | (with_reducible refine lx_nil ?_) | (with_reducible refine q_then ?_) | (with_reducible refine q_then_ret ?_) | (with_reducible refine q_block_ret ?_) | refine c_condT rfl ?_ | refine c_condF rfl ?_ | ((with_reducible refine g_load ?_); first | refine lx_load_var rfl rfl rfl rfl rfl rfl rfl rfl ?_) | ((with_reducible refine g_fieldAddr ?_); first | refine lx_fieldAddr rfl rfl rfl rfl rfl rfl rfl ?_) | ((with_reducible refine g_binOp ?_); first | refine lx_arith rfl rfl rfl rfl rfl rfl rfl ?_) | ((with_reducible refine g_assign ?_); first | refine lx_assign (r := (.t _)) rfl rfl rfl rfl rfl ?_) | ((with_reducible refine g_box ?_); first | refine lx_box (r := (.t (.agg _))) (cs := (List.map .t _)) rfl rfl rfl rfl rfl rfl rfl rfl rfl ?_) | ((with_reducible refine g_unOp ?_); first | refine lx_cpl rfl rfl rfl rfl rfl ?_) | ((with_reducible refine g_convert ?_); first | refine lx_conv_int rfl rfl rfl rfl rfl ?_) | ((with_reducible refine g_call ?_); first | refine lx_callT rfl rfl hH rfl rfl (ArgsLE.refl _) rfl rfl rfl rfl rfl ?_) | refine c_condP rfl (fun hc => ?_) (fun hc => ?_))
        all_goals try (exfalso; omega)
        exact q_ret (resT_oneE rfl rfl rfl) (by simp)
      · rw [if_neg hn]
        have hH : Spec Tryd.prog 59 [.t (.int .i64 0), .t (.int .u64 (IntKind.u64.wrap n))] [] (.t (.str (ofL (hdL 0 n.toNat)))) [] := by
          have := rHead_spec 0 (by omega) n.toNat (by omega)
          rw [show ((n.toNat : Nat) : Int) = IntKind.u64.wrap n by rw [wrapU64 (by omega) (by omega)]; omega] at this
          exact this
        generalize ofL (hdL 0 n.toNat) = R at hH ⊢
        refine spec_intro (env0 := [(0, _)]) (st0 := []) Tryd.func57 rfl rfl rfl rfl ?_
        repeat' (first | (with_reducible refine codeT_seq ?_) | (with_reducible refine codeT_block ?_) | (with_reducible refine codeT_skip ?_) | (with_reducible refine codeT_ret ?_) | (with_reducible refine codeT_regionL ?_) | (with_reducible refine lx_nil ?_) | (with_reducible refine q_then ?_) | (with_reducible refine q_then_ret ?_) | (with_reducible refine q_block_ret ?_) | refine c_condT rfl ?_ | refine c_condF rfl ?_ | ((with_reducible refine g_load ?_); first | refine lx_load_var rfl rfl rfl rfl rfl rfl rfl rfl ?_) | ((with_reducible refine g_fieldAddr ?_); first | refine lx_fieldAddr rfl rfl rfl rfl rfl rfl rfl ?_) | ((with_reducible refine g_binOp ?_); first | refine lx_arith rfl rfl rfl rfl rfl rfl rfl ?_) | ((with_reducible refine g_assign ?_); first | refine lx_assign (r := (.t _)) rfl rfl rfl rfl rfl ?_) | ((with_reducible refine g_box ?_); first | refine lx_box (r := (.t (.agg _))) (cs := (List.map .t _)) rfl rfl rfl rfl rfl rfl rfl rfl rfl ?_) | ((with_reducible refine g_unOp ?_); first | refine lx_cpl rfl rfl rfl rfl rfl ?_) | ((with_reducible refine g_convert ?_); first | refine lx_conv_int rfl rfl rfl rfl rfl ?_) | ((with_reducible refine g_call ?_); first | refine lx_callT rfl rfl hH rfl rfl (ArgsLE.refl _) rfl rfl rfl rfl rfl ?_) | refine c_condP rfl (fun hc => ?_) (fun hc => ?_))
        all_goals try (exfalso; omega)
        exact q_ret (resT_oneE rfl rfl rfl) (by simp)
    · have ec : ofL (Nd.mk 3 b n t ns is).cb = ofL (hdL 3 t.size) ++ t := by
        rw [show (Nd.mk 3 b n t ns is).cb = hdL 3 t.size ++ t.data.toList by simp [Nd.cb], ← ofL_append, ofL_of]
      have ht : t.size ≤ 65536 := by
        simp only [textB, Bool.and_eq_true, decide_eq_true_eq] at h5; omega
      rw [ec]
      have hH : Spec Tryd.prog 59 [.t (.int .i64 3), .t (.int .u64 (IntKind.u64.wrap (t.size : Int)))] [] (.t (.str (ofL (hdL 3 t.size)))) [] := by
        rw [wrapU64 (by omega) (by omega)]
        exact rHead_spec 3 (by omega) t.size (by omega)
      have hs : (ofL (hdL 3 t.size)).size ≤ 9 := by rw [ofL_size]; exact hdL_len
      generalize ofL (hdL 3 t.size) = R at hH hs ⊢
      refine spec_intro (env0 := [(0, _)]) (st0 := []) Tryd.func57 rfl rfl rfl rfl ?_
      repeat' (first | (with_reducible refine codeT_seq ?_) | (with_reducible refine codeT_block ?_) | (with_reducible refine codeT_ret ?_) | (with_reducible refine codeT_regionL ?_) | ((with_reducible refine codeT_region_drawL ?_ ?_); · rfl) | (with_reducible refine lx_nil ?_) | (with_reducible refine q_then ?_) | (with_reducible refine q_then_ret ?_) | (with_reducible refine q_block_ret ?_) | ((with_reducible refine q_region_draw ?_ ?_); · rfl) | refine c_condT rfl ?_ | refine c_condF rfl ?_ | ((with_reducible refine g_load ?_); first | refine lx_load_var rfl rfl rfl rfl rfl rfl rfl rfl ?_) | ((with_reducible refine g_fieldAddr ?_); first | refine lx_fieldAddr rfl rfl rfl rfl rfl rfl rfl ?_) | ((with_reducible refine g_binOp ?_); first | refine lx_arith rfl rfl rfl rfl rfl rfl rfl ?_ | refine lx_concat rfl rfl rfl rfl rfl rfl ?_ ?_) | ((with_reducible refine g_assign ?_); first | refine lx_assign (r := (.t _)) rfl rfl rfl rfl rfl ?_) | ((with_reducible refine g_box ?_); first | refine lx_box (r := (.t (.agg _))) (cs := (List.map .t _)) rfl rfl rfl rfl rfl rfl rfl rfl rfl ?_) | ((with_reducible refine g_convert ?_); first | refine lx_conv_int rfl rfl rfl rfl rfl ?_) | ((with_reducible refine g_len ?_); first | refine lx_len_str rfl rfl rfl rfl rfl ?_) | ((with_reducible refine g_call ?_); first | refine lx_callT rfl rfl hH rfl rfl (ArgsLE.refl _) rfl rfl rfl rfl rfl ?_))
      · omega
      exact q_ret (resT_oneE rfl rfl rfl) (by simp)
    · have hl : k = 5 → ns.length = is.length := fun h => by have := (h7 h).2; omega
      have ec : (Nd.mk k b n t ns is).cb = hdL k.toNat is.length ++ preB k ns is is.length := by
        have e1 : is.take is.length = is := List.take_length
        rcases hk with rfl | rfl
        · simp [Nd.cb, preB]
        · have e2 : ns.take is.length = ns := by rw [← (h7 rfl).2]; exact List.take_length
          simp [Nd.cb, preB, e2]
      rw [ec] at hb ⊢
      rw [List.length_append] at hb
      refine rWrite_seq k hk b n t ns is (by omega) hl (fun s hs => ?_) (by omega) fun i hi hb' => ?_
      · by_cases h : k = 5
        · have := ((namesOk_iff (textB V) ns []).1 (h7 h).1).2 s hs
          have := this.2
          simp only [textB, Bool.and_eq_true, decide_eq_true_eq] at this; omega
        · have hz : ns.length = 0 := by
            simp only [Nd.fieldsOK, Bool.and_eq_true, Bool.or_eq_true, decide_eq_true_eq] at h4
            have := h4.2; omega
          rw [List.eq_nil_of_length_eq_zero hz] at hs; cases hs
      · have hm : is.getD i default ∈ is := by rw [List.getD_eq_getElem?_getD, List.getElem?_eq_getElem hi]; exact List.getElem_mem _
        exact rWrite_spec (is.getD i default) (e - 1) (h8 _ hm) (i3 _ hm) hb'
termination_by x => SizeOf.sizeOf x
decreasing_by
  have := List.sizeOf_lt_of_mem hm
  simp only [Nd.mk.sizeOf_spec]
  omega

set_option maxHeartbeats 4000000 in
theorem rEnc_spec {oF oA : Obj} {V : ByteArray → Bool} (hS : VSpec oF oA V) (x : Nd) (hx : x.Ok) (hin : x.In) (hsz : x.validB V 8 = true → x.cb.length ≤ 49999999) : Spec Tryd.prog 35 [.t x.toT] [(.par 100, .dat (.fix 0 oF)), (.par 101, .dat (.fix 1 oA))] (.tup [.t (.str (cEnc V x).1), .t (.int .i64 (cEnc V x).2)]) [(.par 100, .dat (.fix 0 oF)), (.par 101, .dat (.fix 1 oA))] := by
  have hV := rValid_spec hS x hx
  have hT := x.toT_full
  unfold cEnc
  cases hv : x.validB V 8 with
  | false =>
    rw [hv] at hV
    rw [hT] at hV ⊢
    refine spec_intro (env0 := [(0, _)]) (st0 := [(_, some _), (_, some _)]) Tryd.func35 rfl rfl rfl rfl ?_
    repeat' (first | (with_reducible refine codeT_seq ?_) | (with_reducible refine codeT_ret ?_) | (with_reducible refine codeT_regionL ?_) | (with_reducible refine lx_nil ?_) | (with_reducible refine q_then ?_) | (with_reducible refine q_then_ret ?_) | refine c_condT rfl ?_ | ((with_reducible refine g_load ?_); first | refine lx_load_varA (r := (.t (.agg _))) rfl rfl rfl rfl rfl rfl rfl rfl rfl ?_) | ((with_reducible refine g_assign ?_); first | refine lx_assign (r := (.t _)) rfl rfl rfl rfl rfl ?_) | ((with_reducible refine g_box ?_); first | refine lx_box (r := (.t (.agg _))) (cs := (List.map .t _)) rfl rfl rfl rfl rfl rfl rfl rfl rfl ?_) | ((with_reducible refine g_unOp ?_); first | refine lx_not rfl rfl rfl rfl rfl ?_) | ((with_reducible refine g_call ?_); first | refine lx_call (r' := .t (.bool false)) [] rfl rfl hV (ArgsLE.refl _) rfl ⟨rfl, rfl, trivial⟩ rfl rfl rfl rfl rfl rfl rfl rfl rfl rfl ?_))
    exact q_ret (resT_twoE rfl rfl rfl rfl rfl) (stHas_spec ⟨rfl, rfl, trivial⟩)
  | true =>
    have hP := rWrite_spec x 8 hv hin (by have := hsz hv; omega)
    rw [hv] at hV
    have hlen : (ofL x.cb).size = x.cb.length := ofL_size _
    generalize ofL x.cb = W at hP hlen ⊢
    rw [hT] at hV hP ⊢
    refine spec_intro (env0 := [(0, _)]) (st0 := [(_, some _), (_, some _)]) Tryd.func35 rfl rfl rfl rfl ?_
    repeat' (first | (with_reducible refine codeT_seq ?_) | (with_reducible refine codeT_skip ?_) | (with_reducible refine codeT_ret ?_) | (with_reducible refine codeT_regionL ?_) | (with_reducible refine lx_nil ?_) | (with_reducible refine q_then ?_) | (with_reducible refine q_then_ret ?_) | refine c_condF rfl ?_ | ((with_reducible refine g_move ?_); first | refine lx_move (r := (.t _)) rfl rfl rfl rfl rfl ?_) | ((with_reducible refine g_load ?_); first | refine lx_load_varA (r := (.t (.agg _))) rfl rfl rfl rfl rfl rfl rfl rfl rfl ?_) | ((with_reducible refine g_binOp ?_); first | refine lx_arith rfl rfl rfl rfl rfl rfl rfl ?_) | ((with_reducible refine g_assign ?_); first | refine lx_assign (r := (.t _)) rfl rfl rfl rfl rfl ?_) | ((with_reducible refine g_box ?_); first | refine lx_box (r := (.t (.agg _))) (cs := (List.map .t _)) rfl rfl rfl rfl rfl rfl rfl rfl rfl ?_) | ((with_reducible refine g_unOp ?_); first | refine lx_not rfl rfl rfl rfl rfl ?_) | ((with_reducible refine g_len ?_); first | refine lx_len_str rfl rfl rfl rfl rfl ?_) | ((with_reducible refine g_call ?_); first | refine lx_call (r' := .t (.bool true)) [] rfl rfl hV (ArgsLE.refl _) rfl ⟨rfl, rfl, trivial⟩ rfl rfl rfl rfl rfl rfl rfl rfl rfl rfl ?_ | refine lx_callT rfl rfl hP rfl rfl (ArgsLE.refl _) rfl rfl rfl rfl rfl ?_) | refine c_condP rfl (fun hc => ?_) (fun hc => ?_))
    · exact q_ret (resT_twoE rfl rfl rfl (by rw [if_pos rfl, if_pos (by omega)]; rfl) (by rw [if_pos rfl, if_pos (by omega)])) (stHas_spec ⟨rfl, rfl, trivial⟩)
    · exact q_ret (resT_twoE rfl rfl rfl (by rw [if_pos rfl, if_neg (by omega)]) (by rw [if_pos rfl, if_neg (by omega)])) (stHas_spec ⟨rfl, rfl, trivial⟩)
end Go.AL
/- That the law CborWrites is true, as a contract. -/
set_option linter.unusedVariables false
namespace Go.AL
open Go Go.Proofs Go.RowKit

theorem cbm_le9 {C : Nat} : ∀ {ns : List ByteArray} {l : List Nd}, (∀ s ∈ ns, s.size ≤ C) → (Nd.cbm ns l).length ≤ (Nd.cbs l).length + l.length * (C + 9)
  | [], l, _ => by cases l <;> simp [Nd.cbm]
  | s :: ns, [], _ => by simp [Nd.cbm, Nd.cbs]
  | s :: ns, x :: l, h => by
    have h1 := h s (by simp)
    have h2 := cbm_le9 (ns := ns) (l := l) (fun y hy => h y (by simp [hy]))
    have h3 := hdL_len (m := 3) (n := s.size)
    simp only [Nd.cbm, Nd.cbs, List.length_append, List.length_cons, toList_len, Nat.add_mul]; omega
theorem few_cb {V : ByteArray → Bool} {x : Nd} {e : Int} {B : Nat} (hv : x.validB V e = true) (hB : ∀ y ∈ x.items, y.cb.length ≤ B) : x.cb.length ≤ 65545 + x.items.length * (B + 65545) := by
  cases x with
  | mk k b n t ns is =>
  rw [valid_mk] at hv
  obtain ⟨_, h2, h3, h4, h5, h6, h7, _⟩ := hv
  simp only [Nd.items] at hB ⊢
  have hk : k = 0 ∨ k = 1 ∨ k = 2 ∨ k = 3 ∨ k = 4 ∨ k = 5 := by omega
  have hmul : is.length * (B + 65545) = is.length * B + is.length * 65545 := Nat.mul_add _ _ _
  rcases hk with rfl | rfl | rfl | rfl | rfl | rfl
  · rw [show (Nd.mk 0 b n t ns is).cb = hdL 7 22 by simp [Nd.cb]]
    have := hdL_len (m := 7) (n := 22); omega
  · have e : (Nd.mk 1 b n t ns is).cb = hdL 7 (if b then 21 else 20) := by simp [Nd.cb]
    rw [e]
    have := hdL_len (m := 7) (n := if b then 21 else 20); omega
  · have e : (Nd.mk 2 b n t ns is).cb = if n < 0 then hdL 1 (-1 - n).toNat else hdL 0 n.toNat := by simp [Nd.cb]
    rw [e]
    have h1 := hdL_len (m := 1) (n := (-1 - n).toNat)
    have h0 := hdL_len (m := 0) (n := n.toNat)
    split <;> omega
  · have ht : t.size ≤ 65536 := by
      simp only [textB, Bool.and_eq_true, decide_eq_true_eq] at h5; omega
    rw [show (Nd.mk 3 b n t ns is).cb = hdL 3 t.size ++ t.data.toList by simp [Nd.cb], List.length_append, toList_len]
    have := hdL_len (m := 3) (n := t.size); omega
  · rw [show (Nd.mk 4 b n t ns is).cb = hdL 4 is.length ++ Nd.cbs is by simp [Nd.cb], List.length_append]
    have := hdL_len (m := 4) (n := is.length)
    have := cbs_le hB
    omega
  · have hs : ∀ s ∈ ns, s.size ≤ 65536 := fun s hs => by
      have := (((namesOk_iff (textB V) ns []).1 (h7 rfl).1).2 s hs).2
      simp only [textB, Bool.and_eq_true, decide_eq_true_eq] at this; omega
    rw [show (Nd.mk 5 b n t ns is).cb = hdL 5 is.length ++ Nd.cbm ns is by simp [Nd.cb], List.length_append]
    have := hdL_len (m := 5) (n := is.length)
    have := cbs_le hB
    have := cbm_le9 (l := is) hs
    omega
theorem flat_cb {V : ByteArray → Bool} {x : Nd} {e : Int} (hv : x.validB V e = true) (hi : x.items = []) : x.cb.length ≤ 65545 := by
  have := few_cb (B := 0) hv (by rw [hi]; simp)
  rw [hi] at this
  simpa using this
theorem flat2_cb {V : ByteArray → Bool} {x : Nd} {e : Int} (hv : x.validB V e = true) (h8 : x.items.length ≤ 8) (hi : ∀ y ∈ x.items, y.items = []) : x.cb.length ≤ 2000000 := by
  have h := few_cb (B := 65545) hv (fun y hy => by
    cases x with
    | mk k b n t ns is =>
    rw [valid_mk] at hv
    exact flat_cb (hv.2.2.2.2.2.2.2 y hy) (hi y hy))
  have : x.items.length * (65545 + 65545) ≤ 8 * (65545 + 65545) := Nat.mul_le_mul_right _ h8
  omega

/-- What a law asks of a node that it writes. -/
structure Enc1 (V : ByteArray → Bool) (x : Nd) : Prop where
  ok : x.Ok
  inn : x.In
  sz : x.validB V 8 = true → x.cb.length ≤ 49999999
set_option maxHeartbeats 16000000 in
theorem CborWrites_spec {oF oA : Obj} {V : ByteArray → Bool} (hS : VSpec oF oA V) (hV : VOk V) (l : List Int) (raw : Nd) (okR : raw.Ok) (inR : raw.In) : Spec Tryd.prog 6 [.t (.sl 1 (l.map (T.int .i64))), .t raw.toT] [(.par 100, .dat (.fix 0 oF)), (.par 101, .dat (.fix 1 oA))] (.t (.bool true)) [(.par 100, .dat (.fix 0 oF)), (.par 101, .dat (.fix 1 oA))] := by
  have hA := awake7_spec hS hV
  have hL := Light_spec l
  by_cases hl : (l.length : Int) ≤ 500
  · rw [decide_eq_true hl] at hL
    have rT := raw.toT_full
    rw [rT]
    by_cases hg : raw.items.length ≤ 8 ∧ raw.text.size ≤ 3000
    · refine spec_intro (env0 := [(0, _), (1, _)]) (st0 := [(_, some _), (_, some _)]) Tryd.func6 rfl rfl rfl rfl ?_
      repeat' (first | (with_reducible refine codeT_seq ?_) | (with_reducible refine codeT_block ?_) | (with_reducible refine codeT_skip ?_) | (with_reducible refine codeT_regionL ?_) | (with_reducible refine lx_nil ?_) | (with_reducible refine q_then ?_) | refine c_condT rfl ?_ | ((with_reducible refine g_guard ?_); first | refine lx_skip rfl rfl rfl ?_) | ((with_reducible refine g_move ?_); first | refine lx_move (r := (.t _)) rfl rfl rfl rfl rfl ?_) | ((with_reducible refine g_load ?_); first | refine lx_load_var rfl rfl rfl rfl rfl rfl rfl rfl ?_) | ((with_reducible refine g_fieldAddr ?_); first | refine lx_fieldAddr rfl rfl rfl rfl rfl rfl rfl ?_) | ((with_reducible refine g_binOp ?_); first | refine lx_arith rfl rfl rfl rfl rfl rfl rfl ?_) | ((with_reducible refine g_assign ?_); first | refine lx_assign (r := (.t _)) rfl rfl rfl rfl rfl ?_) | ((with_reducible refine g_pick ?_); first | refine lx_pickT (r := (.t _)) rfl rfl rfl rfl rfl rfl ?_ | refine lx_pickF (r := (.t _)) rfl rfl rfl rfl rfl rfl ?_) | ((with_reducible refine g_box ?_); first | refine lx_box (r := (.t (.agg _))) (cs := (List.map .t _)) rfl rfl rfl rfl rfl rfl rfl rfl rfl ?_) | ((with_reducible refine g_unOp ?_); first | refine lx_not rfl rfl rfl rfl rfl ?_) | ((with_reducible refine g_len ?_); first | refine lx_len_map rfl rfl rfl rfl rfl ?_ | refine lx_len_str rfl rfl rfl rfl rfl ?_) | ((with_reducible refine g_call ?_); first | exact absurd hg.1 (by omega) | refine lx_callT rfl rfl hL rfl rfl (ArgsLE.refl _) rfl rfl rfl rfl rfl ?_) | refine c_condP rfl (fun hc => ?_) (fun hc => ?_) | refine lx_splitP rfl (fun hc => ?_) (fun hc => ?_))
      all_goals try (exfalso; omega)
      refine codeT_ghost (ghost_keep2 [0, 3, 31, 32, 33] [.loc 3, .par 100, .par 101] rfl rfl) ?_
      refine codeT_loop (fun p env st => ∃ (j : Nat), j ≤ raw.items.length ∧ p = raw.items.length - j ∧ (∀ i, i < j → (raw.items.getD i default).items = []) ∧
          env = EnvL.get [(0, .t (.sl 1 (l.map (T.int .i64)))), (3, .ref (.loc 3) 0 0 0), (31, .t (.sl 6 (raw.items.map Nd.toT))), (32, .t (.int .i64 raw.items.length)), (33, .t (.int .i64 (j : Int)))] ∧
          st = StO.get [(.loc 3, some (.var 26 [.t (.int .i64 raw.kind), .t (.bool raw.bool), .t (.int .i64 raw.num), .t (.str raw.text), .t (.sl 1 (raw.names.map .str)), .t (.sl 6 (raw.items.map Nd.toT))])), (.par 100, some (.dat (.fix 0 oF))), (.par 101, some (.dat (.fix 1 oA)))])
        ?_ (n := raw.items.length) ⟨0, by omega, rfl, fun i hi => by omega, rfl, rfl⟩
      rintro p env st ⟨j, hj, rfl, hno, rfl, rfl⟩
      by_cases hlt : j < raw.items.length
      · have eI := (raw.items.getD (j : Int).toNat default).toT_full
        have hgI : raw.items.getD (j : Int).toNat default = raw.items.getD j default := rfl
        repeat' (first | (with_reducible refine codeT_seq ?_) | (with_reducible refine codeT_block ?_) | (with_reducible refine codeT_skip ?_) | (with_reducible refine codeT_ret ?_) | (with_reducible refine codeT_exit ?_) | (with_reducible refine codeT_regionL ?_) | (with_reducible refine lx_nil ?_) | (with_reducible refine q_then ?_) | (with_reducible refine q_then_exit ?_) | (with_reducible refine q_then_ret ?_) | (with_reducible refine q_block ?_) | (with_reducible refine q_block_ret ?_) | ((with_reducible refine q_block_same ?_ ?_); · rfl) | (with_reducible refine q_loop_exit ?_) | (with_reducible refine q_loop_ret ?_) | refine lx_load_tpAE rfl rfl eI rfl rfl rfl rfl rfl rfl ?_ | ((with_reducible refine g_move ?_); first | refine lx_move (r := (.t _)) rfl rfl rfl rfl rfl ?_) | ((with_reducible refine g_load ?_); first | refine lx_load_var rfl rfl rfl rfl rfl rfl rfl rfl ?_) | ((with_reducible refine g_fieldAddr ?_); first | refine lx_fieldAddr rfl rfl rfl rfl rfl rfl rfl ?_) | ((with_reducible refine g_binOp ?_); first | refine lx_arith rfl rfl rfl rfl rfl rfl rfl ?_) | ((with_reducible refine g_assign ?_); first | refine lx_assign (r := (.t _)) rfl rfl rfl rfl rfl ?_) | ((with_reducible refine g_alloc ?_); first | refine lx_alloc rfl rfl rfl rfl rfl rfl rfl ?_) | ((with_reducible refine g_store ?_); first | refine lx_store_var (r := (.t (.agg _))) rfl rfl rfl rfl rfl rfl rfl rfl rfl rfl ?_) | ((with_reducible refine g_indexAddr ?_); first | refine lx_indexAddr_map rfl rfl rfl rfl rfl rfl ?_ ?_ ?_) | ((with_reducible refine g_len ?_); first | refine lx_len_map rfl rfl rfl rfl rfl ?_) | ((with_reducible refine g_call ?_); first | refine lx_call (r' := .t (.bool true)) [] rfl rfl hA (ArgsLE.refl _) rfl ⟨rfl, rfl, trivial⟩ rfl rfl rfl rfl rfl rfl rfl rfl rfl rfl ?_) | refine c_condP rfl (fun hc => ?_) (fun hc => ?_))
        all_goals try omega
        · exact q_ret (resT_oneE rfl rfl rfl) (stHas_spec ⟨rfl, rfl, trivial⟩)
        · refine q_loop (n' := raw.items.length - (j + 1)) (by omega) (ghost_keep2 [0, 3, 31, 32, 33] [.loc 3, .par 100, .par 101] rfl rfl) ⟨j + 1, by omega, rfl, fun i hi => ?_, by rw [wrap64 (by omega) (by omega)]; rfl, rfl⟩
          rcases Nat.lt_or_ge i j with h | h
          · exact hno i h
          · obtain rfl : i = j := by omega
            rw [hgI] at hc
            exact List.eq_nil_of_length_eq_zero (by omega)
      · repeat' (first | (with_reducible refine codeT_seq ?_) | (with_reducible refine codeT_regionL ?_) | (with_reducible refine lx_nil ?_) | (with_reducible refine q_then ?_) | ((with_reducible refine g_binOp ?_); first | refine lx_arith rfl rfl rfl rfl rfl rfl rfl ?_))
        refine c_condP rfl (fun hc => absurd hc (by omega)) (fun hc => ?_)
        have hflat : ∀ y ∈ raw.items, y.items = [] := fun y hy => by
          obtain ⟨i, hi, rfl⟩ := List.getElem_of_mem hy
          have := hno i (by omega)
          rwa [List.getD_eq_getElem?_getD, List.getElem?_eq_getElem hi] at this
        have hR := Roll_spec l
        have hd0 : (Dc.mk l 0).l = l := rfl
        have hX1 := kNode_spec 4 (by omega) (Dc.mk l 0) (by rw [hd0]; omega)
        have eX1 : (kNode 4 (Dc.mk l 0)).2.l = l := by rw [kNode_l]
        have vX1 := kNode_ok hV 4 (Dc.mk l 0) 8 (by omega) (by omega)
        have cX1 := kNode_cb 4 (Dc.mk l 0)
        generalize kNode 4 (Dc.mk l 0) = q1 at hX1 eX1 vX1 cX1
        obtain ⟨x1, d1⟩ := q1
        simp only at hX1 eX1 vX1 cX1
        have hX2 := kMap_spec 3 (by omega) d1 (by rw [eX1]; omega)
        have eX2 : (kMap 3 d1).2.l = l := by rw [kMap_l, eX1]
        have vX2 := kMap_ok hV 3 d1 8 (by omega) (by omega)
        have cX2 := kMap_cb 3 d1
        generalize kMap 3 d1 = q2 at hX2 eX2 vX2 cX2
        obtain ⟨x2, d2⟩ := q2
        simp only at hX2 eX2 vX2 cX2
        have hN1 := Next_spec d2 9 (by omega) (by rw [eX2]; omega)
        have rN1 := d2.next_lt 9 (by omega)
        have eN1 : (d2.next 9).2.l = l := by rw [Dc.next_l, eX2]
        generalize d2.next 9 = q3 at hN1 rN1 eN1
        obtain ⟨a3, d3⟩ := q3
        simp only at hN1 rN1 eN1
        have hN2 := Next_spec d3 2 (by omega) (by rw [eN1]; omega)
        have rN2 := d3.next_lt 2 (by omega)
        generalize d3.next 2 = q4 at hN2 rN2
        obtain ⟨a4, d4⟩ := q4
        simp only at hN2 rN2
        have E1 : Enc1 V x1 := ⟨Nd.ok_of_valid x1 8 vX1, cX1.2, fun _ => Nat.le_trans cX1.1 (by decide)⟩
        have E2 : Enc1 V x2 := ⟨Nd.ok_of_valid x2 8 vX2, cX2.2, fun _ => Nat.le_trans cX2.1 (by decide)⟩
        have E3 : Enc1 V raw := ⟨okR, inR, fun hv => Nat.le_trans (flat2_cb hv hg.1 hflat) (by decide)⟩
        obtain ⟨x4, hx4⟩ : ∃ x4, x4 = Nd.mk (a3 - 1) false a4 eS [] [] := ⟨_, rfl⟩
        have E4 : Enc1 V x4 := ⟨by rw [hx4]; exact .mk (by simp) (by simp) (by simp), by rw [hx4]; exact .mk (by omega) (by omega) (by simp), fun hv => Nat.le_trans (flat_cb hv (by rw [hx4]; rfl)) (by decide)⟩
        have hX1 := hX1.res x1.toT_full
        have hX2 := hX2.res x2.toT_full
        clear vX1 cX1 vX2 cX2 hno
        repeat' (first | (with_reducible refine codeT_seq ?_) | (with_reducible refine codeT_block ?_) | (with_reducible refine codeT_exit ?_) | (with_reducible refine codeT_regionL ?_) | ((with_reducible refine codeT_region_drawL ?_ ?_); · rfl) | (with_reducible refine lx_nil ?_) | (with_reducible refine q_then ?_) | (with_reducible refine q_then_exit ?_) | ((with_reducible refine q_block_same ?_ ?_); · rfl) | (with_reducible refine q_loop_exit ?_) | ((with_reducible refine q_region_draw ?_ ?_); · rfl) | ((with_reducible refine g_move ?_); first | refine lx_move (r := (.t _)) rfl rfl rfl rfl rfl ?_ | refine lx_move (r := (.ref _ _ _ _)) rfl rfl rfl rfl rfl ?_) | ((with_reducible refine g_load ?_); first | refine lx_load_varA (r := (.t (.agg _))) rfl rfl rfl rfl rfl rfl rfl rfl rfl ?_) | ((with_reducible refine g_binOp ?_); first | refine lx_arith rfl rfl rfl rfl rfl rfl rfl ?_) | ((with_reducible refine g_assign ?_); first | refine lx_assign (r := (.ref _ _ _ _)) rfl rfl rfl rfl rfl ?_) | ((with_reducible refine g_buildSlice ?_); first | refine lx_buildSlice rfl rfl rfl rfl rfl rfl rfl ?_) | ((with_reducible refine g_build ?_); first | refine lx_build (r := (.t (.agg _))) rfl rfl rfl rfl rfl rfl rfl ?_) | ((with_reducible refine g_len ?_); first | refine lx_len_row rfl rfl rfl rfl rfl rfl ?_) | ((with_reducible refine g_call ?_); first | refine lx_call (r' := .ref (.loc 900) 0 0 0) [(.res 0, .loc 900)] rfl rfl hR (ArgsLE.refl _) rfl trivial rfl rfl rfl rfl rfl rfl rfl rfl rfl rfl ?_ | refine lx_call (r' := .t (.agg [_, _, _, _, _, _])) [(.par 0, .loc 900)] rfl rfl hX1 (ArgsLE.refl _) rfl ⟨rfl, trivial⟩ rfl rfl rfl rfl rfl rfl rfl rfl rfl rfl ?_ | refine lx_call (r' := .t (.agg [_, _, _, _, _, _])) [(.par 0, .loc 900)] rfl rfl hX2 (ArgsLE.refl _) rfl ⟨rfl, trivial⟩ rfl rfl rfl rfl rfl rfl rfl rfl rfl rfl ?_ | refine lx_call (r' := .t (.int .i64 a3)) [(.par 0, .loc 900)] rfl rfl hN1 (ArgsLE.refl _) rfl ⟨rfl, trivial⟩ rfl rfl rfl rfl rfl rfl rfl rfl rfl rfl ?_ | refine lx_call (r' := .t (.int .i64 a4)) [(.par 0, .loc 900)] rfl rfl hN2 (ArgsLE.refl _) rfl ⟨rfl, trivial⟩ rfl rfl rfl rfl rfl rfl rfl rfl rfl rfl ?_))
        have hLx : ∀ x ∈ [x1, x2, raw, x4], Enc1 V x := by
          intro x hx
          simp only [List.mem_cons, List.not_mem_nil, or_false] at hx
          rcases hx with rfl | rfl | rfl | rfl
          · exact E1
          · exact E2
          · exact E3
          · exact E4
        have hle : TLe (.sl 6 [.agg [.int .i64 x1.kind, .bool x1.bool, .int .i64 x1.num, .str x1.text, .sl 1 (x1.names.map .str), .sl 6 (x1.items.map Nd.toT)], .agg [.int .i64 x2.kind, .bool x2.bool, .int .i64 x2.num, .str x2.text, .sl 1 (x2.names.map .str), .sl 6 (x2.items.map Nd.toT)], .agg [.int .i64 raw.kind, .bool raw.bool, .int .i64 raw.num, .str raw.text, .sl 1 (raw.names.map .str), .sl 6 (raw.items.map Nd.toT)], .agg [.int .i64 (IntKind.i64.wrap (a3 - 1)), .bool false, .int .i64 a4, .str ⟨#[]⟩, .nilsl, .nilsl]]) (.sl 6 ([x1, x2, raw, x4].map Nd.toT)) := by
          have e4 : x4.toT = .agg [.int .i64 (a3 - 1), .bool false, .int .i64 a4, .str ⟨#[]⟩, .sl 1 [], .sl 6 []] := by rw [hx4, Nd.toT_eq]; rfl
          rw [wrap64 (by omega) (by omega)]
          simp only [List.map_cons, List.map_nil]
          rw [← x1.toT_full, ← x2.toT_full, ← raw.toT_full, e4]
          exact .sl (.cons (.refl _) (.cons (.refl _) (.cons (.refl _) (.cons (by repeat first | exact TLe.refl _ | exact TLe.nil _ | exact TLe.esl _ | refine TLe.agg ?_ | refine TLs.cons ?_ ?_ | exact TLs.nil) .nil))))
        refine codeT_ghost (ghost_keep2 [56, 57, 58] [.loc 56, .par 100, .par 101] rfl rfl) ?_
        refine codeT_ghost (ghost_freezeL (id := .loc 56) rfl rfl rfl) ?_
        refine codeT_ghost (ghost_le 56 rfl hle rfl) ?_
        obtain ⟨L, hLe⟩ : ∃ L, L = [x1, x2, raw, x4] := ⟨_, rfl⟩
        have hL4 : L.length = 4 := by rw [hLe]; rfl
        rw [← hLe] at hLx ⊢
        refine codeT_ghost (ghost_keep2 [56, 57, 58] [.par 100, .par 101] rfl rfl) ?_
        refine codeT_loop (fun p env st => ∃ (j : Nat), j ≤ 4 ∧ p = 4 - j ∧
            env = EnvL.get [(56, .t (.sl 6 (L.map Nd.toT))), (57, .t (.int .i64 4)), (58, .t (.int .i64 (j : Int)))] ∧ st = StO.get [(.par 100, some (.dat (.fix 0 oF))), (.par 101, some (.dat (.fix 1 oA)))])
          ?_ (n := 4) ⟨0, by omega, rfl, rfl, rfl⟩
        clear hX1 hX2 hN1 hN2 hle hc hlt hj hR hL
        rintro p env st ⟨j, hj, rfl, rfl, rfl⟩
        by_cases hlt : j < 4
        · have eI := (L.getD (j : Int).toNat default).toT_full
          have hm : L.getD (j : Int).toNat default ∈ L := by
            rw [List.getD_eq_getElem?_getD, List.getElem?_eq_getElem (by omega)]; exact List.getElem_mem _
          have hE := hLx _ hm
          have hC1 := cEnc_spec hS _ hE.ok hE.inn hE.sz
          have hC2 := rEnc_spec hS _ hE.ok hE.inn hE.sz
          generalize (cEnc V (L.getD (j : Int).toNat default)).1 = w1 at hC1 hC2
          generalize (cEnc V (L.getD (j : Int).toNat default)).2 = w2 at hC1 hC2
          rw [eI] at hC1 hC2
          repeat' (first | (with_reducible refine codeT_seq ?_) | (with_reducible refine codeT_regionL ?_) | (with_reducible refine lx_nil ?_) | (with_reducible refine q_then ?_) | ((with_reducible refine g_binOp ?_); first | refine lx_arith rfl rfl rfl rfl rfl rfl rfl ?_))
          refine c_condP rfl (fun hc => ?_) (fun hc => absurd (by omega) hc)
          repeat' (first | (with_reducible refine codeT_seq ?_) | (with_reducible refine codeT_block ?_) | (with_reducible refine codeT_skip ?_) | (with_reducible refine codeT_regionL ?_) | (with_reducible refine lx_nil ?_) | (with_reducible refine q_then ?_) | refine lx_load_tpAE rfl rfl eI rfl rfl rfl rfl rfl rfl ?_ | ((with_reducible refine g_move ?_); first | refine lx_move (r := (.t _)) rfl rfl rfl rfl rfl ?_ | refine lx_move (r := (.tup _)) rfl rfl rfl rfl rfl ?_) | ((with_reducible refine g_load ?_); first | refine lx_load_varA (r := (.t (.agg _))) rfl rfl rfl rfl rfl rfl rfl rfl rfl ?_) | ((with_reducible refine g_binOp ?_); first | refine lx_str_ne rfl rfl rfl rfl rfl rfl ?_) | ((with_reducible refine g_assign ?_); first | refine lx_assign (r := (.t _)) rfl rfl rfl rfl rfl ?_) | ((with_reducible refine g_alloc ?_); first | refine lx_alloc rfl rfl rfl rfl rfl rfl rfl ?_) | ((with_reducible refine g_store ?_); first | refine lx_store_var (r := (.t (.agg _))) rfl rfl rfl rfl rfl rfl rfl rfl rfl rfl ?_) | ((with_reducible refine g_indexAddr ?_); first | refine lx_indexAddr_map rfl rfl rfl rfl rfl rfl ?_ ?_ ?_) | ((with_reducible refine g_extract ?_); first | refine lx_extract rfl rfl rfl rfl rfl rfl ?_) | ((with_reducible refine g_call ?_); first | refine lx_call (r' := .tup [.t (.str w1), .t (.int .i64 w2)]) [] rfl rfl hC1 (ArgsLE.refl _) rfl ⟨rfl, rfl, trivial⟩ rfl rfl rfl rfl rfl rfl rfl rfl rfl rfl ?_ | refine lx_call (r' := .tup [.t (.str w1), .t (.int .i64 w2)]) [] rfl rfl hC2 (ArgsLE.refl _) rfl ⟨rfl, rfl, trivial⟩ rfl rfl rfl rfl rfl rfl rfl rfl rfl rfl ?_))
          · omega
          · omega
          refine lx_splitN rfl (fun hx => ?_) (fun hx => absurd rfl hx)
          repeat' (first | (with_reducible refine lx_nil ?_) | (with_reducible refine q_then ?_) | ((with_reducible refine g_move ?_); first | refine lx_move (r := (.t _)) rfl rfl rfl rfl rfl ?_) | ((with_reducible refine g_binOp ?_); first | refine lx_arith rfl rfl rfl rfl rfl rfl rfl ?_) | ((with_reducible refine g_pick ?_); first | refine lx_pickF (r := (.t _)) rfl rfl rfl rfl rfl rfl ?_))
          refine c_condN rfl (fun hx => ?_) (fun hx => absurd rfl hx)
          repeat' (first | (with_reducible refine codeT_skip ?_) | (with_reducible refine codeT_regionL ?_) | (with_reducible refine lx_nil ?_) | (with_reducible refine q_then ?_) | (with_reducible refine q_block ?_) | ((with_reducible refine g_move ?_); first | refine lx_move (r := (.t _)) rfl rfl rfl rfl rfl ?_) | ((with_reducible refine g_binOp ?_); first | refine lx_arith rfl rfl rfl rfl rfl rfl rfl ?_))
          exact q_loop (n' := 4 - (j + 1)) (by omega) (ghost_keep2 [56, 57, 58] [.par 100, .par 101] rfl rfl) ⟨j + 1, by omega, rfl, by rw [wrap64 (by omega) (by omega)]; rfl, rfl⟩
        · repeat' (first | (with_reducible refine codeT_seq ?_) | (with_reducible refine codeT_regionL ?_) | (with_reducible refine lx_nil ?_) | (with_reducible refine q_then ?_) | ((with_reducible refine g_binOp ?_); first | refine lx_arith rfl rfl rfl rfl rfl rfl rfl ?_))
          refine c_condP rfl (fun hc => absurd hc (by omega)) (fun hc => ?_)
          repeat' (first | (with_reducible refine codeT_seq ?_) | (with_reducible refine codeT_ret ?_) | (with_reducible refine codeT_exit ?_) | (with_reducible refine codeT_regionL ?_) | (with_reducible refine lx_nil ?_) | (with_reducible refine q_then ?_) | (with_reducible refine q_then_exit ?_) | ((with_reducible refine q_block_same ?_ ?_); · rfl) | (with_reducible refine q_loop_exit ?_) | ((with_reducible refine g_assign ?_); first | refine lx_assign (r := (.t _)) rfl rfl rfl rfl rfl ?_) | ((with_reducible refine g_call ?_); first | refine lx_call (r' := .t (.bool true)) [] rfl rfl hA (ArgsLE.refl _) rfl ⟨rfl, rfl, trivial⟩ rfl rfl rfl rfl rfl rfl rfl rfl rfl rfl ?_))
          exact q_ret (resT_oneE rfl rfl rfl) (stHas_spec ⟨rfl, rfl, trivial⟩)
    · refine spec_intro (env0 := [(0, _), (1, _)]) (st0 := [(_, some _), (_, some _)]) Tryd.func6 rfl rfl rfl rfl ?_
      repeat' (first | (with_reducible refine codeT_seq ?_) | (with_reducible refine codeT_block ?_) | (with_reducible refine codeT_skip ?_) | (with_reducible refine codeT_ret ?_) | (with_reducible refine codeT_regionL ?_) | (with_reducible refine lx_nil ?_) | (with_reducible refine q_then ?_) | (with_reducible refine q_then_ret ?_) | refine c_condT rfl ?_ | ((with_reducible refine g_guard ?_); first | refine lx_skip rfl rfl rfl ?_) | ((with_reducible refine g_move ?_); first | refine lx_move (r := (.t _)) rfl rfl rfl rfl rfl ?_) | ((with_reducible refine g_load ?_); first | refine lx_load_var rfl rfl rfl rfl rfl rfl rfl rfl ?_) | ((with_reducible refine g_fieldAddr ?_); first | refine lx_fieldAddr rfl rfl rfl rfl rfl rfl rfl ?_) | ((with_reducible refine g_binOp ?_); first | refine lx_arith rfl rfl rfl rfl rfl rfl rfl ?_) | ((with_reducible refine g_assign ?_); first | refine lx_assign (r := (.t _)) rfl rfl rfl rfl rfl ?_) | ((with_reducible refine g_pick ?_); first | refine lx_pickT (r := (.t _)) rfl rfl rfl rfl rfl rfl ?_ | refine lx_pickF (r := (.t _)) rfl rfl rfl rfl rfl rfl ?_) | ((with_reducible refine g_box ?_); first | refine lx_box (r := (.t (.agg _))) (cs := (List.map .t _)) rfl rfl rfl rfl rfl rfl rfl rfl rfl ?_) | ((with_reducible refine g_unOp ?_); first | refine lx_not rfl rfl rfl rfl rfl ?_) | ((with_reducible refine g_len ?_); first | refine lx_len_map rfl rfl rfl rfl rfl ?_ | refine lx_len_str rfl rfl rfl rfl rfl ?_) | ((with_reducible refine g_call ?_); first | refine lx_callT rfl rfl hL rfl rfl (ArgsLE.refl _) rfl rfl rfl rfl rfl ?_ | refine lx_call (r' := .t (.bool true)) [] rfl rfl hA (ArgsLE.refl _) rfl ⟨rfl, rfl, trivial⟩ rfl rfl rfl rfl rfl rfl rfl rfl rfl rfl ?_) | refine c_condP rfl (fun hc => ?_) (fun hc => ?_) | refine lx_splitP rfl (fun hc => ?_) (fun hc => ?_))
      all_goals try (exfalso; omega)
      all_goals exact q_ret (resT_oneE rfl rfl rfl) (stHas_spec ⟨rfl, rfl, trivial⟩)
  · rw [decide_eq_false hl] at hL
    have rT := raw.toT_full
    rw [rT]
    refine spec_intro (env0 := [(0, _), (1, _)]) (st0 := [(_, some _), (_, some _)]) Tryd.func6 rfl rfl rfl rfl ?_
    repeat' (first | (with_reducible refine codeT_seq ?_) | (with_reducible refine codeT_ret ?_) | (with_reducible refine codeT_regionL ?_) | (with_reducible refine lx_nil ?_) | (with_reducible refine q_then ?_) | (with_reducible refine q_then_ret ?_) | refine c_condT rfl ?_ | ((with_reducible refine g_guard ?_); first | refine lx_skip rfl rfl rfl ?_) | ((with_reducible refine g_move ?_); first | refine lx_move (r := (.t _)) rfl rfl rfl rfl rfl ?_) | ((with_reducible refine g_assign ?_); first | refine lx_assign (r := (.t _)) rfl rfl rfl rfl rfl ?_) | ((with_reducible refine g_pick ?_); first | refine lx_pickT (r := (.t _)) rfl rfl rfl rfl rfl rfl ?_) | ((with_reducible refine g_box ?_); first | refine lx_box (r := (.t (.agg _))) (cs := (List.map .t _)) rfl rfl rfl rfl rfl rfl rfl rfl rfl ?_) | ((with_reducible refine g_unOp ?_); first | refine lx_not rfl rfl rfl rfl rfl ?_) | ((with_reducible refine g_call ?_); first | refine lx_callT rfl rfl hL rfl rfl (ArgsLE.refl _) rfl rfl rfl rfl rfl ?_ | refine lx_call (r' := .t (.bool true)) [] rfl rfl hA (ArgsLE.refl _) rfl ⟨rfl, rfl, trivial⟩ rfl rfl rfl rfl rfl rfl rfl rfl rfl rfl ?_))
    exact q_ret (resT_oneE rfl rfl rfl) (stHas_spec ⟨rfl, rfl, trivial⟩)
theorem NdB.inn {mul : TypeId → Nat} {B : Nat} {x : Nd} (h : NdB mul B x) : x.In := by
  induction h with
  | mk h1 h2 h3 h4 h5 h6 h7 ih => exact .mk (wf_i64 h2).1 (wf_i64 h2).2 ih
end Go.AL
