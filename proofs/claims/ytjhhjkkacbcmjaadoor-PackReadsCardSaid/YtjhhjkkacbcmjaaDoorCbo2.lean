/- What an argument that is a node reads as. -/
import Derived.Test.YtjhhjkkacbcmjaaDoorTy
import Derived.Test.YtjhhjkkacbcmjaaDoorNod1
import Derived.Test.YtjhhjkkacbcmjaaDoorAl3
import Derived.Test.YtjhhjkkacbcmjaaDoorCbo1
import Derived.Test.YtjhhjkkacbcmjaaDoorNod2
set_option linter.unusedVariables false
namespace Go.AL
open Go Go.Proofs Go.RowKit Go.ChangeShapes Go.WideShapes

inductive NdB (mul : TypeId → Nat) (B : Nat) : Nd → Prop
  | mk {k : Int} {b : Bool} {n : Int} {t : ByteArray} {ns : List ByteArray} {is : List Nd} : (Lit.int .i64 k).wf = true → (Lit.int .i64 n).wf = true → t.size ≤ B → ns.length * mul 9 ≤ B → (∀ s ∈ ns, s.size ≤ B) → is.length * mul 26 ≤ B → (∀ x ∈ is, NdB mul B x) → NdB mul B (.mk k b n t ns is)

set_option maxRecDepth 100000 in
theorem node_open {H : Type} {enc : TypeId × Value → H} {w : World} {base : Nat} {spare : Nat → Bool} {held : Bool} {mul : TypeId → Nat} {wt : TypeId → DataW H → List Nat} {B : Nat} (hwt : WtOK Tryd.prog mul wt) : ∀ (fuel : Nat) (cs : List Value) (d : DataW H × List MemPlace), DataW.trod enc Tryd.prog w base spare held fuel 26 cs = some d → (∀ n ∈ wt 26 d.1, n ≤ B) →
    ∃ x : Nd, NdB mul B x ∧ cs.length = 6 ∧ ∀ (g : Nat → Option Value) (o : Nat), (∀ i u, cs[i]? = some u → g (o + i) = some u) → RepL (heapOf w) g o x.toT.cells := by
  intro fuel
  induction fuel using Nat.strongRecOn with
  | _ fuel ih =>
  intro cs d h hB
  obtain ⟨xs, m, hfu, rfl, hl, hlen, hf⟩ := DataW.trod_struct Tryd.underlying26 h
  have hc6 : Tryd.prog.cellsOf 26 = 6 := by kernel_rfl
  rw [hc6] at hl
  have hlen6 : xs.length = 6 := hlen
  obtain ⟨y0, y1, y2, y3, y4, y5, rfl⟩ : ∃ y0 y1 y2 y3 y4 y5, xs = [y0, y1, y2, y3, y4, y5] := by
    match xs, hlen6 with
    | [y0, y1, y2, y3, y4, y5], _ => exact ⟨_, _, _, _, _, _, rfl⟩
  obtain ⟨u0, u1, u2, u3, u4, u5, rfl⟩ : ∃ u0 u1 u2 u3 u4 u5, cs = [u0, u1, u2, u3, u4, u5] := by
    match cs, hl with
    | [u0, u1, u2, u3, u4, u5], _ => exact ⟨_, _, _, _, _, _, rfl⟩
  have part : ∀ {fs : Array Field} (hu : Tryd.prog.underlying 26 = some (.struct fs)) (i : Nat) (f : Field) (p : DataW H × List MemPlace), fs[i]? = some f → [y0, y1, y2, y3, y4, y5][i]? = some p → ∀ n ∈ wt f.type p.1, n ≤ B := fun {fs} hu i f p h1 h2 n hn => by
    obtain ⟨q, k1, k2⟩ := hwt.part 26 fs ([y0, y1, y2, y3, y4, y5].map (·.1)) i f p.1 hu h1 (by rw [List.getElem?_map, h2]; rfl) n hn
    exact Nat.le_trans k2 (hB q k1)
  have c3 : Tryd.prog.cellsOf 3 = 1 := by kernel_rfl
  have c4 : Tryd.prog.cellsOf 4 = 1 := by kernel_rfl
  have c9 : Tryd.prog.cellsOf 9 = 1 := by kernel_rfl
  have c23 : Tryd.prog.cellsOf 23 = 1 := by kernel_rfl
  have c24 : Tryd.prog.cellsOf 24 = 1 := by kernel_rfl
  have f0 : DataW.trod enc Tryd.prog w base spare held m 3 (([u0, u1, u2, u3, u4, u5].drop 0).take (Tryd.prog.cellsOf 3)) = some y0 := hf 0 _ rfl
  rw [c3] at f0
  have f1 : DataW.trod enc Tryd.prog w base spare held m 4 (([u0, u1, u2, u3, u4, u5].drop 1).take (Tryd.prog.cellsOf 4)) = some y1 := hf 1 _ rfl
  rw [c4] at f1
  have f2 : DataW.trod enc Tryd.prog w base spare held m 3 (([u0, u1, u2, u3, u4, u5].drop 2).take (Tryd.prog.cellsOf 3)) = some y2 := hf 2 _ rfl
  rw [c3] at f2
  have f3 : DataW.trod enc Tryd.prog w base spare held m 9 (([u0, u1, u2, u3, u4, u5].drop 3).take (Tryd.prog.cellsOf 9)) = some y3 := hf 3 _ rfl
  rw [c9] at f3
  have f4 : DataW.trod enc Tryd.prog w base spare held m 23 (([u0, u1, u2, u3, u4, u5].drop 4).take (Tryd.prog.cellsOf 23)) = some y4 := hf 4 _ rfl
  rw [c23] at f4
  have f5 : DataW.trod enc Tryd.prog w base spare held m 24 (([u0, u1, u2, u3, u4, u5].drop 5).take (Tryd.prog.cellsOf 24)) = some y5 := hf 5 _ rfl
  rw [c24] at f5
  obtain ⟨k, hk, _, r0⟩ := (Rd.int (k := .i64) Tryd.underlying3).opens f0 hwt (part Tryd.underlying26 0 _ y0 rfl rfl)
  obtain ⟨b, _, _, r1⟩ := (Rd.bool Tryd.underlying4).opens f1 hwt (part Tryd.underlying26 1 _ y1 rfl rfl)
  obtain ⟨n, hn, _, r2⟩ := (Rd.int (k := .i64) Tryd.underlying3).opens f2 hwt (part Tryd.underlying26 2 _ y2 rfl rfl)
  obtain ⟨t, ht, _, r3⟩ := (Rd.str Tryd.underlying9).opens f3 hwt (part Tryd.underlying26 3 _ y3 rfl rfl)
  obtain ⟨ns, hns, _, r4⟩ := (Rd.list Tryd.underlying23 c9 (by decide) (Rd.str Tryd.underlying9)).opens f4 hwt (part Tryd.underlying26 4 _ y4 rfl rfl)
  obtain ⟨v5, e5, o5, is, his, r5⟩ := slice_openF (toT := Nd.toT) (okX := NdB mul B) Tryd.underlying24 hc6 (by decide) (fun x => x.toT_agg.2) f5 hwt (fun fuel' hlt cs d hd hB' => ih fuel' (by omega) cs d hd hB') (part Tryd.underlying26 5 _ y5 rfl rfl)
  simp at e5
  subst e5
  have his' : (is.getD []).length * mul 26 ≤ B ∧ ∀ y ∈ is.getD [], NdB mul B y := by
    cases is with
    | none => exact ⟨by simp, by simp⟩
    | some l => exact (his l rfl).2
  refine ⟨.mk k b n t ns (is.getD []), .mk hk hn ht.2 hns.2.1 (fun s hs => (hns.2.2 s hs).2) his'.1 his'.2, rfl, fun g o hg => ?_⟩
  rw [Nd.toT_eq]
  simp only [T.cells, RepL, and_true]
  have s0 := r0 g o (fun i u hu => by match i, hu with | 0, hu => exact hg 0 u hu)
  have s1 := r1 g (o + 1) (fun i u hu => by match i, hu with | 0, hu => exact hg 1 u hu)
  have s2 := r2 g (o + 2) (fun i u hu => by match i, hu with | 0, hu => exact hg 2 u hu)
  have s3 := r3 g (o + 3) (fun i u hu => by match i, hu with | 0, hu => exact hg 3 u hu)
  have s4 := r4 g (o + 4) (fun i u hu => by match i, hu with | 0, hu => exact hg 4 u hu)
  have g5 := hg 5 u5 rfl
  simp only [Rd.int, Rd.bool, Rd.str, Rd.list, T.cells, RepL, and_true] at s0 s1 s2 s3 s4
  exact ⟨s0, s1, s2, s3, s4, u5, g5, o5, optT_sl r5⟩

set_option maxRecDepth 100000 in
def rdNode : Rd Tryd.prog 26 6 Nd where
  toT := Nd.toT
  ok mul B x := NdB mul B x
  len x := x.toT_agg.2
  opens h mul wt B hwt hB := node_open hwt _ _ _ h hB
  one hd hv mul wt B hwt hB := by
    obtain ⟨fuel, hf⟩ := hd
    obtain ⟨vs, rfl, hs⟩ := okWide_struct Tryd.underlying26 hv
    obtain ⟨x, h1, h2, h3⟩ := node_open hwt _ _ _ hf hB
    refine ⟨x, h1, ?_⟩
    have hc := h3 (fun j => vs[j]?) 0 (fun i u hu => by simpa [Value.cells] using hu)
    cases x
    rw [Nd.toT_eq] at hc ⊢
    simp only [RepT]
    simp only [T.cells] at hc
    refine ⟨vs, rfl, ?_, hc⟩
    have hc6 : Tryd.prog.cellsOf 26 = 6 := by kernel_rfl
    rw [hs, hc6]; rfl
theorem wf_i64 {n : Int} (h : (Lit.int .i64 n).wf = true) : -9223372036854775808 ≤ n ∧ n ≤ 9223372036854775807 := by
  simpa [Lit.wf, IntKind.min, IntKind.max, IntKind.signed, IntKind.bits] using h
theorem NdB.ok {x : Nd} (h : NdB Tryd.prog.bytesOf reachBytes x) : x.Ok := by
  induction h with
  | mk h1 h2 h3 h4 h5 h6 h7 ih =>
    have b9 : Tryd.prog.bytesOf 9 = 16 := by kernel_rfl
    have b26 : Tryd.prog.bytesOf 26 = 88 := by kernel_rfl
    rw [b9] at h4
    rw [b26] at h6
    have : reachBytes = 140737488351232 := rfl
    exact .mk (by omega) (by omega) ih
end Go.AL
/- That the law CborHeads is true, as a contract. -/
set_option linter.unusedVariables false
namespace Go.AL
open Go Go.Proofs Go.RowKit

def wantOf (k : Nat) : Int := if 4294967296 ≤ k then 9 else if 65536 ≤ k then 5 else if 256 ≤ k then 3 else if 24 ≤ k then 2 else 1
end Go.AL
/- What the document's test of a node answers. -/
set_option linter.unusedVariables false
namespace Go.AL
open Go Go.Proofs Go.RowKit

set_option maxHeartbeats 2000000 in
theorem rText_spec {oF oA : Obj} {V : ByteArray → Bool} (hV : VSpec oF oA V) (s : ByteArray) : Spec Tryd.prog 87 [.t (.str s)] [(.par 100, .dat (.fix 0 oF)), (.par 101, .dat (.fix 1 oA))] (.t (.bool (textB V s))) [(.par 100, .dat (.fix 0 oF)), (.par 101, .dat (.fix 1 oA))] := by
  by_cases hs : (s.size : Int) ≤ 65536
  · have h := hV s (by omega)
    have e : textB V s = V s := by simp [textB, hs]
    rw [e]
    generalize V s = v at h
    refine spec_intro (env0 := [(0, _)]) (st0 := [(_, some _), (_, some _)]) Tryd.func87 rfl rfl rfl rfl ?_
    repeat' (first | (with_reducible refine codeT_seq ?_) | (with_reducible refine codeT_ret ?_) | (with_reducible refine codeT_regionL ?_) | (with_reducible refine lx_nil ?_) | (with_reducible refine q_then ?_) | ((with_reducible refine g_guard ?_); first | refine lx_skip rfl rfl rfl ?_) | ((with_reducible refine g_move ?_); first | refine lx_move (r := (.t _)) rfl rfl rfl rfl rfl ?_) | ((with_reducible refine g_binOp ?_); first | refine lx_arith rfl rfl rfl rfl rfl rfl rfl ?_) | ((with_reducible refine g_assign ?_); first | refine lx_assign (r := (.t _)) rfl rfl rfl rfl rfl ?_) | ((with_reducible refine g_pick ?_); first | refine lx_pickT (r := (.t _)) rfl rfl rfl rfl rfl rfl ?_ | refine lx_pickF (r := (.t _)) rfl rfl rfl rfl rfl rfl ?_) | ((with_reducible refine g_len ?_); first | refine lx_len_str rfl rfl rfl rfl rfl ?_) | ((with_reducible refine g_call ?_); first | refine lx_call (r' := .t (.bool v)) [] rfl rfl h (ArgsLE.refl _) rfl ⟨rfl, rfl, trivial⟩ rfl rfl rfl rfl rfl rfl rfl rfl rfl rfl ?_) | refine lx_splitP rfl (fun hc => ?_) (fun hc => ?_))
    · exact q_ret (resT_oneE rfl rfl rfl) (stHas_spec ⟨rfl, rfl, trivial⟩)
    · omega
  · have e : textB V s = false := by simp [textB, hs]
    rw [e]
    refine spec_intro (env0 := [(0, _)]) (st0 := [(_, some _), (_, some _)]) Tryd.func87 rfl rfl rfl rfl ?_
    repeat' (first | (with_reducible refine codeT_seq ?_) | (with_reducible refine codeT_ret ?_) | (with_reducible refine codeT_regionL ?_) | (with_reducible refine lx_nil ?_) | (with_reducible refine q_then ?_) | ((with_reducible refine g_guard ?_); first | refine lx_skip rfl rfl rfl ?_) | ((with_reducible refine g_move ?_); first | refine lx_move (r := (.t _)) rfl rfl rfl rfl rfl ?_) | ((with_reducible refine g_binOp ?_); first | refine lx_arith rfl rfl rfl rfl rfl rfl rfl ?_) | ((with_reducible refine g_assign ?_); first | refine lx_assign (r := (.t _)) rfl rfl rfl rfl rfl ?_) | ((with_reducible refine g_pick ?_); first | refine lx_pickF (r := (.t _)) rfl rfl rfl rfl rfl rfl ?_) | ((with_reducible refine g_len ?_); first | refine lx_len_str rfl rfl rfl rfl rfl ?_) | ((with_reducible refine g_call ?_); first | exact absurd ‹(s.size : Int) ≤ 65536› hs) | refine lx_splitP rfl (fun hc => ?_) (fun hc => ?_))
    all_goals first | (exfalso; omega) | exact q_ret (resT_oneE rfl rfl rfl) (stHas_spec ⟨rfl, rfl, trivial⟩)
def badB (k : Int) (b : Bool) (n : Int) (t : ByteArray) (ns : List ByteArray) (is : List Nd) (dp : Int) : Bool :=
  decide (dp < 1) || decide (k < 0) || decide (5 < k) || !(Nd.mk k b n t ns is).fieldsOK
set_option maxHeartbeats 8000000 in
theorem rvalid_spec {oF oA : Obj} {V : ByteArray → Bool} (hV : VSpec oF oA V) : ∀ x : Nd, x.Ok → ∀ dp : Int, -900 ≤ dp → dp ≤ 1000 → Spec Tryd.prog 63 [.t x.toT, .t (.int .i64 dp)] [(.par 100, .dat (.fix 0 oF)), (.par 101, .dat (.fix 1 oA))] (.t (.bool (x.validB V dp))) [(.par 100, .dat (.fix 0 oF)), (.par 101, .dat (.fix 1 oA))] := by
  intro x hx
  induction hx with
  | @mk k b n t ns is h1 h2 h3 ih =>
  intro dp hd1 hd2
  have ht := rText_spec hV t
  rw [Nd.toT_eq]
  refine spec_intro (env0 := [(0, _), (1, _)]) (st0 := [(_, some _), (_, some _)]) Tryd.func63 rfl rfl rfl rfl ?_
  refine codeT_seq ?_
  repeat' (first | (with_reducible refine codeT_regionL ?_) | (with_reducible refine lx_nil ?_) | ((with_reducible refine g_assign ?_); first | refine lx_assign (r := (.t _)) rfl rfl rfl rfl rfl ?_) | ((with_reducible refine g_box ?_); first | refine lx_box (r := (.t (.agg _))) (cs := (List.map .t _)) rfl rfl rfl rfl rfl rfl rfl rfl rfl ?_))
  refine q_then ?_
  refine codeT_cut (env1 := [(1, .t (.int .i64 dp)), (2, .ref (.loc 2) 0 0 0), (5, .t (.bool (badB k b n t ns is dp)))]) (st1 := [(.loc 2, some (.var 26 [.t (.int .i64 k), .t (.bool b), .t (.int .i64 n), .t (.str t), .t (.sl 1 (ns.map .str)), .t (.sl 6 (is.map Nd.toT))])), (.par 100, some (.dat (.fix 0 oF))), (.par 101, some (.dat (.fix 1 oA)))]) ?_ ?_
  · repeat' (first | (with_reducible refine codeT_regionL ?_) | (with_reducible refine lx_nil ?_) | ((with_reducible refine g_guard ?_); first | refine lx_skip rfl rfl rfl ?_) | ((with_reducible refine g_move ?_); first | refine lx_move (r := (.t _)) rfl rfl rfl rfl rfl ?_) | ((with_reducible refine g_load ?_); first | refine lx_load_var rfl rfl rfl rfl rfl rfl rfl rfl ?_) | ((with_reducible refine g_fieldAddr ?_); first | refine lx_fieldAddr rfl rfl rfl rfl rfl rfl rfl ?_) | ((with_reducible refine g_binOp ?_); first | refine lx_arith rfl rfl rfl rfl rfl rfl rfl ?_ | refine lx_str_ne rfl rfl rfl rfl rfl rfl ?_) | ((with_reducible refine g_assign ?_); first | refine lx_assign (r := (.t _)) rfl rfl rfl rfl rfl ?_) | ((with_reducible refine g_pick ?_); first | refine lx_pickT (r := (.t _)) rfl rfl rfl rfl rfl rfl ?_ | refine lx_pickF (r := (.t _)) rfl rfl rfl rfl rfl rfl ?_) | ((with_reducible refine g_len ?_); first | refine lx_len_map rfl rfl rfl rfl rfl ?_) | refine lx_splitP rfl (fun hc => ?_) (fun hc => ?_) | refine lx_splitN rfl (fun hc => ?_) (fun hc => ?_) | refine lx_splitB rfl (fun hc => ?_) (fun hc => ?_))
    all_goals refine ⟨rfl, ghost_keep2 [1, 2, 5] [.loc 2, .par 100, .par 101] (env3 ?_) rfl⟩
    all_goals clear ih h3 ht hV
    all_goals first | (simp_all [badB, Nd.fieldsOK, List.length_pos_iff]; done) | (rcases (show k = 0 ∨ k = 1 ∨ k = 2 ∨ k = 3 ∨ k = 4 ∨ k = 5 by omega) with rfl | rfl | rfl | rfl | rfl | rfl <;> simp_all [badB, Nd.fieldsOK, List.length_pos_iff] <;> omega)
  · obtain ⟨bv, hbv⟩ : ∃ v, v = badB k b n t ns is dp := ⟨_, rfl⟩
    rw [← hbv]
    have hval : (Nd.mk k b n t ns is).validB V dp = (!(bv || !textB V t || decide (256 < (is.length : Int))) && (!decide (k = 5) || (namesOk (textB V) [] ns && decide ((ns.length : Int) = is.length))) && !Nd.anyBad V is (dp - 1)) := by
      rw [hbv, Nd.validB]; rfl
    rw [hval]
    have hns : bv = false → k ≠ 5 → ns = [] := fun e h5 => by
      rw [e] at hbv
      have : (Nd.mk k b n t ns is).fieldsOK = true := by
        unfold badB at hbv
        have h := hbv.symm
        simp only [Bool.or_eq_false_iff, Bool.not_eq_false'] at h
        exact h.2
      simp only [Nd.fieldsOK, Bool.and_eq_true, Bool.or_eq_true, decide_eq_true_eq] at this
      exact List.eq_nil_of_length_eq_zero (by have := this.2; omega)
    have hdp : bv = false → 1 ≤ dp := fun e => by
      rw [e] at hbv
      unfold badB at hbv
      have h := hbv.symm
      simp only [Bool.or_eq_false_iff, decide_eq_false_iff_not] at h
      omega
    generalize textB V t = tv at ht ⊢
    clear hbv hval
    cases bv with
    | true =>
      repeat' (first | (with_reducible refine codeT_seq ?_) | (with_reducible refine codeT_ret ?_) | (with_reducible refine codeT_regionL ?_) | (with_reducible refine lx_nil ?_) | (with_reducible refine q_then ?_) | (with_reducible refine q_then_ret ?_) | refine c_condT rfl ?_ | ((with_reducible refine g_guard ?_); first | refine lx_skip rfl rfl rfl ?_) | ((with_reducible refine g_move ?_); first | refine lx_move (r := (.t _)) rfl rfl rfl rfl rfl ?_) | ((with_reducible refine g_assign ?_); first | refine lx_assign (r := (.t _)) rfl rfl rfl rfl rfl ?_) | ((with_reducible refine g_pick ?_); first | refine lx_pickT (r := (.t _)) rfl rfl rfl rfl rfl rfl ?_))
      exact q_ret (resT_oneE rfl rfl (by simp)) (stHas_spec ⟨rfl, rfl, trivial⟩)
    | false =>
    cases tv with
    | false =>
      repeat' (first | (with_reducible refine codeT_seq ?_) | (with_reducible refine codeT_ret ?_) | (with_reducible refine codeT_regionL ?_) | (with_reducible refine lx_nil ?_) | (with_reducible refine q_then ?_) | (with_reducible refine q_then_ret ?_) | refine c_condT rfl ?_ | ((with_reducible refine g_guard ?_); first | refine lx_skip rfl rfl rfl ?_) | ((with_reducible refine g_move ?_); first | refine lx_move (r := (.t _)) rfl rfl rfl rfl rfl ?_) | ((with_reducible refine g_load ?_); first | refine lx_load_var rfl rfl rfl rfl rfl rfl rfl rfl ?_) | ((with_reducible refine g_fieldAddr ?_); first | refine lx_fieldAddr rfl rfl rfl rfl rfl rfl rfl ?_) | ((with_reducible refine g_assign ?_); first | refine lx_assign (r := (.t _)) rfl rfl rfl rfl rfl ?_) | ((with_reducible refine g_pick ?_); first | refine lx_pickT (r := (.t _)) rfl rfl rfl rfl rfl rfl ?_ | refine lx_pickF (r := (.t _)) rfl rfl rfl rfl rfl rfl ?_) | ((with_reducible refine g_unOp ?_); first | refine lx_not rfl rfl rfl rfl rfl ?_) | ((with_reducible refine g_call ?_); first | refine lx_call (r' := .t (.bool false)) [] rfl rfl ht (ArgsLE.refl _) rfl ⟨rfl, rfl, trivial⟩ rfl rfl rfl rfl rfl rfl rfl rfl rfl rfl ?_))
      exact q_ret (resT_oneE rfl rfl (by simp)) (stHas_spec ⟨rfl, rfl, trivial⟩)
    | true =>
    have hdp1 := hdp rfl
    by_cases hm : is.length ≤ 256 ∧ (k = 5 → ns.length = is.length)
    · have e1 : (!(false || !true || decide (256 < (is.length : Int))) && (!decide (k = 5) || (namesOk (textB V) [] ns && decide ((ns.length : Int) = is.length))) && !Nd.anyBad V is (dp - 1)) = (namesOk (textB V) [] ns && !Nd.anyBad V is (dp - 1)) := by
        have : ¬ (256 : Int) < is.length := by omega
        by_cases h5 : k = 5
        · have := hm.2 h5
          simp [*]
        · have h0 := hns rfl h5
          subst h0
          simp [*, namesOk]
      rw [e1]
      refine codeT_cut (env1 := [(1, .t (.int .i64 dp)), (2, .ref (.loc 2) 0 0 0)]) (st1 := [(.loc 2, some (.var 26 [.t (.int .i64 k), .t (.bool b), .t (.int .i64 n), .t (.str t), .t (.sl 1 (ns.map .str)), .t (.sl 6 (is.map Nd.toT))])), (.par 100, some (.dat (.fix 0 oF))), (.par 101, some (.dat (.fix 1 oA)))]) ?_ ?_
      · repeat' (first | (with_reducible refine codeT_seq ?_) | (with_reducible refine codeT_skip ?_) | (with_reducible refine codeT_ret ?_) | (with_reducible refine codeT_regionL ?_) | (with_reducible refine lx_nil ?_) | (with_reducible refine q_then ?_) | refine c_condT rfl ?_ | refine c_condF rfl ?_ | ((with_reducible refine g_guard ?_); first | refine lx_skip rfl rfl rfl ?_) | ((with_reducible refine g_move ?_); first | refine lx_move (r := (.t _)) rfl rfl rfl rfl rfl ?_) | ((with_reducible refine g_load ?_); first | refine lx_load_var rfl rfl rfl rfl rfl rfl rfl rfl ?_) | ((with_reducible refine g_fieldAddr ?_); first | refine lx_fieldAddr rfl rfl rfl rfl rfl rfl rfl ?_) | ((with_reducible refine g_binOp ?_); first | refine lx_arith rfl rfl rfl rfl rfl rfl rfl ?_) | ((with_reducible refine g_assign ?_); first | refine lx_assign (r := (.t _)) rfl rfl rfl rfl rfl ?_) | ((with_reducible refine g_pick ?_); first | refine lx_pickT (r := (.t _)) rfl rfl rfl rfl rfl rfl ?_ | refine lx_pickF (r := (.t _)) rfl rfl rfl rfl rfl rfl ?_) | ((with_reducible refine g_unOp ?_); first | refine lx_not rfl rfl rfl rfl rfl ?_) | ((with_reducible refine g_len ?_); first | refine lx_len_map rfl rfl rfl rfl rfl ?_) | ((with_reducible refine g_call ?_); first | refine lx_call (r' := .t (.bool true)) [] rfl rfl ht (ArgsLE.refl _) rfl ⟨rfl, rfl, trivial⟩ rfl rfl rfl rfl rfl rfl rfl rfl rfl rfl ?_) | refine c_condN rfl (fun hc => ?_) (fun hc => ?_) | refine lx_splitP rfl (fun hc => ?_) (fun hc => ?_))
        all_goals first | (exfalso; omega) | exact ⟨rfl, ghost_keep2 [1, 2] [.loc 2, .par 100, .par 101] rfl rfl⟩
      · clear ht hns e1 hm
        repeat' (first | (with_reducible refine codeT_seq ?_) | (with_reducible refine codeT_block ?_) | (with_reducible refine codeT_regionL ?_) | (with_reducible refine lx_nil ?_) | (with_reducible refine q_then ?_) | ((with_reducible refine g_move ?_); first | refine lx_move (r := (.t _)) rfl rfl rfl rfl rfl ?_) | ((with_reducible refine g_load ?_); first | refine lx_load_var rfl rfl rfl rfl rfl rfl rfl rfl ?_) | ((with_reducible refine g_fieldAddr ?_); first | refine lx_fieldAddr rfl rfl rfl rfl rfl rfl rfl ?_) | ((with_reducible refine g_assign ?_); first | refine lx_assign (r := (.row _)) rfl rfl rfl rfl rfl ?_) | ((with_reducible refine g_len ?_); first | refine lx_len_map rfl rfl rfl rfl rfl ?_) | ((with_reducible refine g_makeMap ?_); first | refine lx_makeMap rfl rfl rfl rfl rfl ?_))
        refine codeT_ghost (ghost_keep2 [1, 2, 6, 103, 104, 105] [.loc 101, .loc 2, .par 100, .par 101] rfl rfl) ?_
        refine codeT_loop (fun m env st => ∃ (j : Nat) (seen : List ByteArray) (es : List (T × T)), j ≤ ns.length ∧ m = ns.length - j ∧ keysOK .string es = true ∧ (∀ s, (mget es (.str s)).getD (.bool false) = .bool (inB s seen)) ∧ namesOk (textB V) [] ns = namesOk (textB V) seen (ns.drop j) ∧
            env = EnvL.get [(1, .t (.int .i64 dp)), (2, .ref (.loc 2) 0 0 0), (6, .row (.loc 101)), (103, .t (.sl 1 (ns.map .str))), (104, .t (.int .i64 ns.length)), (105, .t (.int .i64 (j : Int)))] ∧
            st = StO.get [(.loc 101, some (.dat (.map es))), (.loc 2, some (.var 26 [.t (.int .i64 k), .t (.bool b), .t (.int .i64 n), .t (.str t), .t (.sl 1 (ns.map .str)), .t (.sl 6 (is.map Nd.toT))])), (.par 100, some (.dat (.fix 0 oF))), (.par 101, some (.dat (.fix 1 oA)))])
          ?_ (n := ns.length) ⟨0, [], [], by omega, rfl, rfl, fun s => rfl, rfl, rfl, rfl⟩
        rintro m env st ⟨j, seen, es, hj, rfl, hes, hget, hi, rfl, rfl⟩
        by_cases hlt : j < ns.length
        · have hd : ns.drop j = ns[j] :: ns.drop (j + 1) := List.drop_eq_getElem_cons hlt
          have hg : ns.getD (j : Int).toNat default = ns[j] := by simp [List.getD_eq_getElem?_getD, hlt]
          have ht := rText_spec hV (ns.getD (j : Int).toNat default)
          have hy := hget (ns.getD (j : Int).toNat default)
          have hi2 : namesOk (textB V) [] ns = if inB (ns.getD (j : Int).toNat default) seen || !textB V (ns.getD (j : Int).toNat default) then false else namesOk (textB V) (ns.getD (j : Int).toNat default :: seen) (ns.drop (j + 1)) := by rw [hi, hd, hg]; rfl
          generalize textB V (ns.getD (j : Int).toNat default) = tv at ht hi2
          generalize inB (ns.getD (j : Int).toNat default) seen = sv at hy hi2
          repeat' (first | (with_reducible refine codeT_seq ?_) | (with_reducible refine codeT_block ?_) | (with_reducible refine codeT_skip ?_) | (with_reducible refine codeT_ret ?_) | (with_reducible refine codeT_exit ?_) | (with_reducible refine codeT_regionL ?_) | (with_reducible refine lx_nil ?_) | (with_reducible refine q_then ?_) | (with_reducible refine q_then_exit ?_) | (with_reducible refine q_then_ret ?_) | (with_reducible refine q_block ?_) | (with_reducible refine q_block_ret ?_) | ((with_reducible refine q_block_same ?_ ?_); · rfl) | (with_reducible refine q_loop_exit ?_) | (with_reducible refine q_loop_ret ?_) | refine c_condT rfl ?_ | refine lx_lookup_as rfl rfl rfl rfl hy (fun _ => rfl) rfl rfl rfl rfl ?_ ?_ | ((with_reducible refine g_guard ?_); first | refine lx_skip rfl rfl rfl ?_) | ((with_reducible refine g_move ?_); first | refine lx_move (r := (.t _)) rfl rfl rfl rfl rfl ?_ | refine lx_move (r := (.row _)) rfl rfl rfl rfl rfl ?_) | ((with_reducible refine g_load ?_); first | refine lx_load_var rfl rfl rfl rfl rfl rfl rfl rfl ?_ | refine lx_load_tp rfl rfl rfl rfl rfl rfl rfl ?_) | ((with_reducible refine g_fieldAddr ?_); first | refine lx_fieldAddr rfl rfl rfl rfl rfl rfl rfl ?_) | ((with_reducible refine g_binOp ?_); first | refine lx_arith rfl rfl rfl rfl rfl rfl rfl ?_) | ((with_reducible refine g_assign ?_); first | refine lx_assign (r := (.t _)) rfl rfl rfl rfl rfl ?_) | ((with_reducible refine g_pick ?_); first | refine lx_pickT (r := (.t _)) rfl rfl rfl rfl rfl rfl ?_ | refine lx_pickF (r := (.t _)) rfl rfl rfl rfl rfl rfl ?_) | ((with_reducible refine g_indexAddr ?_); first | refine lx_indexAddr_map rfl rfl rfl rfl rfl rfl ?_ ?_ ?_) | ((with_reducible refine g_unOp ?_); first | refine lx_not rfl rfl rfl rfl rfl ?_) | ((with_reducible refine g_len ?_); first | refine lx_len_map rfl rfl rfl rfl rfl ?_) | ((with_reducible refine g_mapUpdate ?_); first | refine lx_mapUpdate rfl rfl rfl rfl rfl rfl rfl rfl ?_ ?_) | ((with_reducible refine g_call ?_); first | refine lx_call (r' := .t (.bool tv)) [] rfl rfl ht (ArgsLE.refl _) rfl ⟨rfl, rfl, trivial⟩ rfl rfl rfl rfl rfl rfl rfl rfl rfl rfl ?_) | refine c_condP rfl (fun hc => ?_) (fun hc => ?_) | refine c_condB rfl (fun hc => ?_) (fun hc => ?_) | refine lx_splitB rfl (fun hc => ?_) (fun hc => ?_))
          all_goals try first | omega | exact hes
          · refine q_ret (resT_oneE rfl rfl (congrArg T.bool ?_)) (stHas_spec ⟨rfl, rfl, trivial⟩)
            rw [hi2, show tv = false by simpa using hc]; simp
          · refine q_ret (resT_oneE rfl rfl (congrArg T.bool ?_)) (stHas_spec ⟨rfl, rfl, trivial⟩)
            rw [hi2, hc]; simp
          · have htv : tv = true := by simpa using ‹(!tv) = false›
            refine q_loop (n' := ns.length - (j + 1)) (by omega) (ghost_keep2 [1, 2, 6, 103, 104, 105] [.loc 101, .loc 2, .par 100, .par 101] rfl rfl) ⟨j + 1, ns.getD (j : Int).toNat default :: seen, mset es (.str (ns.getD (j : Int).toNat default)) (.bool true), by omega, rfl, keysOK_mset _ _ _ _ hes rfl, ?_, ?_, ?_, rfl⟩
            · intro s
              rw [mget_mset_str _ _ _ _ hes]
              by_cases e : s = ns.getD (j : Int).toNat default
              · rw [if_pos e]; simp [inB, e]
              · rw [if_neg e, hget s]
                simp only [inB, List.any_cons]
                rw [decide_eq_false e]; rfl
            · rw [hi2, hc, htv]; rfl
            · rw [wrap64 (by omega) (by omega)]; rfl
        · have hdr : ns.drop j = [] := List.drop_eq_nil_of_le (by omega)
          rw [hdr] at hi
          have hi3 : namesOk (textB V) [] ns = true := hi
          rw [hi3, Bool.true_and]
          clear hi hi3 hget hdr
          repeat' (first | (with_reducible refine codeT_seq ?_) | (with_reducible refine codeT_block ?_) | (with_reducible refine codeT_skip ?_) | (with_reducible refine codeT_exit ?_) | (with_reducible refine codeT_regionL ?_) | (with_reducible refine lx_nil ?_) | (with_reducible refine q_then ?_) | (with_reducible refine q_then_exit ?_) | ((with_reducible refine q_block_same ?_ ?_); · rfl) | (with_reducible refine q_loop_exit ?_) | ((with_reducible refine g_move ?_); first | refine lx_move (r := (.t _)) rfl rfl rfl rfl rfl ?_) | ((with_reducible refine g_load ?_); first | refine lx_load_var rfl rfl rfl rfl rfl rfl rfl rfl ?_ | refine lx_load_tp rfl rfl rfl rfl rfl rfl rfl ?_) | ((with_reducible refine g_fieldAddr ?_); first | refine lx_fieldAddr rfl rfl rfl rfl rfl rfl rfl ?_) | ((with_reducible refine g_binOp ?_); first | refine lx_arith rfl rfl rfl rfl rfl rfl rfl ?_) | ((with_reducible refine g_assign ?_); first | refine lx_assign (r := (.t _)) rfl rfl rfl rfl rfl ?_) | ((with_reducible refine g_indexAddr ?_); first | refine lx_indexAddr_map rfl rfl rfl rfl rfl rfl ?_ ?_ ?_) | ((with_reducible refine g_len ?_); first | refine lx_len_map rfl rfl rfl rfl rfl ?_) | ((with_reducible refine g_call ?_); first | exact absurd hlt (by omega)) | refine c_condP rfl (fun hc => ?_) (fun hc => ?_))
          all_goals try (exfalso; omega)
          refine codeT_ghost (ghost_keep2 [1, 2, 121, 122, 123] [.loc 2, .par 100, .par 101] rfl rfl) ?_
          refine codeT_loop (fun m env st => ∃ (j : Nat), j ≤ is.length ∧ m = is.length - j ∧ Nd.anyBad V is (dp - 1) = Nd.anyBad V (is.drop j) (dp - 1) ∧
              env = EnvL.get [(1, .t (.int .i64 dp)), (2, .ref (.loc 2) 0 0 0), (121, .t (.sl 6 (is.map Nd.toT))), (122, .t (.int .i64 is.length)), (123, .t (.int .i64 (j : Int)))] ∧
              st = StO.get [(.loc 2, some (.var 26 [.t (.int .i64 k), .t (.bool b), .t (.int .i64 n), .t (.str t), .t (.sl 1 (ns.map .str)), .t (.sl 6 (is.map Nd.toT))])), (.par 100, some (.dat (.fix 0 oF))), (.par 101, some (.dat (.fix 1 oA)))])
            ?_ (n := is.length) ⟨0, by omega, rfl, rfl, rfl, rfl⟩
          clear hj hlt hes
          rintro m env st ⟨j, hj, rfl, hi, rfl, rfl⟩
          by_cases hlt : j < is.length
          · have hd : is.drop j = is[j] :: is.drop (j + 1) := List.drop_eq_getElem_cons hlt
            have hg : is.getD (j : Int).toNat default = is[j] := by simp [List.getD_eq_getElem?_getD, hlt]
            have hX := ih is[j] (List.getElem_mem hlt) (dp - 1) (by omega) (by omega)
            rw [← hg] at hX
            rw [hd, ← hg, Nd.anyBad] at hi
            have eX := (is.getD (j : Int).toNat default).toT_full
            rw [eX, ← wrap64 (n := dp - 1) (by omega) (by omega)] at hX
            rw [wrap64 (n := dp - 1) (by omega) (by omega)] at hX
            generalize (is.getD (j : Int).toNat default).validB V (dp - 1) = v at hX hi
            rw [← wrap64 (n := dp - 1) (by omega) (by omega)] at hX
            repeat' (first | (with_reducible refine codeT_seq ?_) | (with_reducible refine codeT_block ?_) | (with_reducible refine codeT_skip ?_) | (with_reducible refine codeT_ret ?_) | (with_reducible refine codeT_exit ?_) | (with_reducible refine codeT_regionL ?_) | (with_reducible refine lx_nil ?_) | (with_reducible refine q_then ?_) | (with_reducible refine q_then_exit ?_) | (with_reducible refine q_then_ret ?_) | (with_reducible refine q_block ?_) | (with_reducible refine q_block_ret ?_) | ((with_reducible refine q_block_same ?_ ?_); · rfl) | (with_reducible refine q_loop_exit ?_) | (with_reducible refine q_loop_ret ?_) | refine lx_load_tpAE rfl rfl eX rfl rfl rfl rfl rfl rfl ?_ | ((with_reducible refine g_move ?_); first | refine lx_move (r := (.t _)) rfl rfl rfl rfl rfl ?_) | ((with_reducible refine g_load ?_); first | refine lx_load_varA (r := (.t (.agg _))) rfl rfl rfl rfl rfl rfl rfl rfl rfl ?_) | ((with_reducible refine g_binOp ?_); first | refine lx_arith rfl rfl rfl rfl rfl rfl rfl ?_) | ((with_reducible refine g_assign ?_); first | refine lx_assign (r := (.t _)) rfl rfl rfl rfl rfl ?_) | ((with_reducible refine g_alloc ?_); first | refine lx_alloc rfl rfl rfl rfl rfl rfl rfl ?_) | ((with_reducible refine g_store ?_); first | refine lx_store_var (r := (.t (.agg _))) rfl rfl rfl rfl rfl rfl rfl rfl rfl rfl ?_) | ((with_reducible refine g_indexAddr ?_); first | refine lx_indexAddr_map rfl rfl rfl rfl rfl rfl ?_ ?_ ?_) | ((with_reducible refine g_unOp ?_); first | refine lx_not rfl rfl rfl rfl rfl ?_) | ((with_reducible refine g_call ?_); first | refine lx_call (r' := .t (.bool v)) [] rfl rfl hX (ArgsLE.refl _) rfl ⟨rfl, rfl, trivial⟩ rfl rfl rfl rfl rfl rfl rfl rfl rfl rfl ?_) | refine c_condP rfl (fun hc => ?_) (fun hc => ?_) | refine c_condB rfl (fun hc => ?_) (fun hc => ?_))
            all_goals try omega
            · refine q_ret (resT_oneE rfl rfl (congrArg T.bool ?_)) (stHas_spec ⟨rfl, rfl, trivial⟩)
              rw [hi, show v = false by simpa using hc]; rfl
            · refine q_loop (n' := is.length - (j + 1)) (by omega) (ghost_keep2 [1, 2, 121, 122, 123] [.loc 2, .par 100, .par 101] rfl rfl) ⟨j + 1, by omega, rfl, ?_, by rw [wrap64 (by omega) (by omega)]; rfl, rfl⟩
              rw [hi, show v = true by simpa using hc]; rfl
          · have hdr : is.drop j = [] := List.drop_eq_nil_of_le (by omega)
            rw [hdr] at hi
            repeat' (first | (with_reducible refine codeT_seq ?_) | (with_reducible refine codeT_block ?_) | (with_reducible refine codeT_skip ?_) | (with_reducible refine codeT_ret ?_) | (with_reducible refine codeT_exit ?_) | (with_reducible refine codeT_regionL ?_) | (with_reducible refine lx_nil ?_) | (with_reducible refine q_then ?_) | (with_reducible refine q_then_exit ?_) | ((with_reducible refine q_block_same ?_ ?_); · rfl) | (with_reducible refine q_loop_exit ?_) | ((with_reducible refine g_binOp ?_); first | refine lx_arith rfl rfl rfl rfl rfl rfl rfl ?_) | ((with_reducible refine g_assign ?_); first | refine lx_assign (r := (.t _)) rfl rfl rfl rfl rfl ?_) | ((with_reducible refine g_indexAddr ?_); first | refine lx_indexAddr_map rfl rfl rfl rfl rfl rfl ?_ ?_ ?_) | refine c_condP rfl (fun hc => ?_) (fun hc => ?_))
            all_goals try (exfalso; omega)
            refine q_ret (resT_oneE rfl rfl (congrArg T.bool ?_)) (stHas_spec ⟨rfl, rfl, trivial⟩)
            rw [hi]; rfl
    · have e1 : (!(false || !true || decide (256 < (is.length : Int))) && (!decide (k = 5) || (namesOk (textB V) [] ns && decide ((ns.length : Int) = is.length))) && !Nd.anyBad V is (dp - 1)) = false := by
        by_cases h : is.length ≤ 256
        · have h5 : k = 5 ∧ ns.length ≠ is.length := ⟨Classical.byContradiction fun h5 => hm ⟨h, fun e => absurd e h5⟩, fun e => hm ⟨h, fun _ => e⟩⟩
          have : ¬ ((ns.length : Int) = is.length) := by omega
          simp [h5.1, this]
        · have : (256 : Int) < is.length := by omega
          simp [this]
      rw [e1]
      repeat' (first | (with_reducible refine codeT_seq ?_) | (with_reducible refine codeT_block ?_) | (with_reducible refine codeT_skip ?_) | (with_reducible refine codeT_ret ?_) | (with_reducible refine codeT_regionL ?_) | (with_reducible refine lx_nil ?_) | (with_reducible refine q_then ?_) | (with_reducible refine q_then_ret ?_) | refine c_condT rfl ?_ | refine c_condF rfl ?_ | ((with_reducible refine g_guard ?_); first | refine lx_skip rfl rfl rfl ?_) | ((with_reducible refine g_move ?_); first | refine lx_move (r := (.t _)) rfl rfl rfl rfl rfl ?_) | ((with_reducible refine g_load ?_); first | refine lx_load_var rfl rfl rfl rfl rfl rfl rfl rfl ?_) | ((with_reducible refine g_fieldAddr ?_); first | refine lx_fieldAddr rfl rfl rfl rfl rfl rfl rfl ?_) | ((with_reducible refine g_binOp ?_); first | refine lx_arith rfl rfl rfl rfl rfl rfl rfl ?_) | ((with_reducible refine g_assign ?_); first | refine lx_assign (r := (.t _)) rfl rfl rfl rfl rfl ?_ | refine lx_assign (r := (.row _)) rfl rfl rfl rfl rfl ?_) | ((with_reducible refine g_pick ?_); first | refine lx_pickT (r := (.t _)) rfl rfl rfl rfl rfl rfl ?_ | refine lx_pickF (r := (.t _)) rfl rfl rfl rfl rfl rfl ?_) | ((with_reducible refine g_unOp ?_); first | refine lx_not rfl rfl rfl rfl rfl ?_) | ((with_reducible refine g_len ?_); first | refine lx_len_map rfl rfl rfl rfl rfl ?_) | ((with_reducible refine g_makeMap ?_); first | refine lx_makeMap rfl rfl rfl rfl rfl ?_) | ((with_reducible refine g_call ?_); first | refine lx_call (r' := .t (.bool true)) [] rfl rfl ht (ArgsLE.refl _) rfl ⟨rfl, rfl, trivial⟩ rfl rfl rfl rfl rfl rfl rfl rfl rfl rfl ?_) | refine c_condN rfl (fun hc => ?_) (fun hc => ?_) | refine lx_splitP rfl (fun hc => ?_) (fun hc => ?_))
      all_goals first | exact q_ret (resT_oneE rfl rfl rfl) (stHas_spec ⟨rfl, rfl, trivial⟩) | (exfalso; omega)

set_option maxHeartbeats 2000000 in
theorem rValid_spec {oF oA : Obj} {V : ByteArray → Bool} (hV : VSpec oF oA V) (x : Nd) (hx : x.Ok) : Spec Tryd.prog 41 [.t x.toT] [(.par 100, .dat (.fix 0 oF)), (.par 101, .dat (.fix 1 oA))] (.t (.bool (x.validB V 8))) [(.par 100, .dat (.fix 0 oF)), (.par 101, .dat (.fix 1 oA))] := by
  have h := rvalid_spec hV x hx 8 (by omega) (by omega)
  generalize x.validB V 8 = v at h ⊢
  have eX := x.toT_full
  rw [eX] at h ⊢
  refine spec_intro (env0 := [(0, _)]) (st0 := [(_, some _), (_, some _)]) Tryd.func41 rfl rfl rfl rfl ?_
  repeat' (first | (with_reducible refine codeT_seq ?_) | (with_reducible refine codeT_ret ?_) | (with_reducible refine codeT_regionL ?_) | (with_reducible refine lx_nil ?_) | (with_reducible refine q_then ?_) | ((with_reducible refine g_load ?_); first | refine lx_load_varA (r := (.t (.agg _))) rfl rfl rfl rfl rfl rfl rfl rfl rfl ?_) | ((with_reducible refine g_assign ?_); first | refine lx_assign (r := (.t _)) rfl rfl rfl rfl rfl ?_) | ((with_reducible refine g_box ?_); first | refine lx_box (r := (.t (.agg _))) (cs := (List.map .t _)) rfl rfl rfl rfl rfl rfl rfl rfl rfl ?_) | ((with_reducible refine g_call ?_); first | refine lx_call (r' := .t (.bool v)) [] rfl rfl h (ArgsLE.refl _) rfl ⟨rfl, rfl, trivial⟩ rfl rfl rfl rfl rfl rfl rfl rfl rfl rfl ?_))
  exact q_ret (resT_oneE rfl rfl rfl) (stHas_spec ⟨rfl, rfl, trivial⟩)
end Go.AL
/- What the document's Write and Encode answer. -/
set_option linter.unusedVariables false
namespace Go.AL
open Go Go.Proofs Go.RowKit

end Go.AL
/- That the law CborWrites is true, as a contract. -/
set_option linter.unusedVariables false
namespace Go.AL
open Go Go.Proofs Go.RowKit

/-- What a law asks of a node that it writes. -/
structure Enc1 (V : ByteArray → Bool) (x : Nd) : Prop where
  ok : x.Ok
  inn : x.In
  sz : x.validB V 8 = true → x.cb.length ≤ 49999999
theorem NdB.inn {mul : TypeId → Nat} {B : Nat} {x : Nd} (h : NdB mul B x) : x.In := by
  induction h with
  | mk h1 h2 h3 h4 h5 h6 h7 ih => exact .mk (wf_i64 h2).1 (wf_i64 h2).2 ih
end Go.AL
