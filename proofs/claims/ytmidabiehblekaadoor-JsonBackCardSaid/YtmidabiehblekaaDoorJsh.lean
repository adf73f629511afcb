/- That the law JsonBack is true, as a contract. -/
import Derived.Test.YtmidabiehblekaaDoorJsg
import Derived.Test.YtmidabiehblekaaDoorJsd
import Derived.Test.YtmidabiehblekaaDoorNod2
import Derived.Test.YtmidabiehblekaaDoorJnc
import Derived.Test.YtmidabiehblekaaDoorJne
set_option linter.unusedVariables false
namespace Go.AL
open Go Go.Proofs Go.RowKit

set_option maxHeartbeats 16000000 in
theorem JsonBack_spec {oF oA oP oS oR : Obj} {V : ByteArray → Bool} (hS : VSpec oF oA V) (hPw : isTabOf .u64 Lib.pow10Tab oP) (G : EOk oS oR) (hV : VOk V) (l : List Int) : Spec Tryd.prog 4 [.t (.sl 1 (l.map (T.int .i64)))] [(.par 100, .dat (.fix 0 oF)), (.par 101, .dat (.fix 1 oA)), (.par 102, .dat (.fix 2 oP)), (.par 103, .dat (.fix 3 oS)), (.par 104, .dat (.fix 4 oR))] (.t (.bool true)) [(.par 100, .dat (.fix 0 oF)), (.par 101, .dat (.fix 1 oA)), (.par 102, .dat (.fix 2 oP)), (.par 103, .dat (.fix 3 oS)), (.par 104, .dat (.fix 4 oR))] := by
  have hA := awake6_spec hS hPw hV
  have hL := Light_spec l
  by_cases hl : (l.length : Int) ≤ 500
  · rw [decide_eq_true hl] at hL
    have hR := Roll_spec l
    have hd0 : (Dc.mk l 0).l = l := rfl
    have hX1 := kNode_spec 4 (by omega) (Dc.mk l 0) (by rw [hd0]; omega)
    have eX1 : (kNode 4 (Dc.mk l 0)).2.l = l := by rw [kNode_l]
    have vX1 := kNode_ok hV 4 (Dc.mk l 0) 8 (by omega) (by omega)
    have cX1 : _ ∧ _ := ⟨kNode_jb 4 (Dc.mk l 0), (kNode_cb 4 (Dc.mk l 0)).2⟩
    generalize kNode 4 (Dc.mk l 0) = q1 at hX1 eX1 vX1 cX1
    obtain ⟨x1, d1⟩ := q1
    simp only at hX1 eX1 vX1 cX1
    have hX2 := kMap_spec 3 (by omega) d1 (by rw [eX1]; omega)
    have vX2 := kMap_ok hV 3 d1 8 (by omega) (by omega)
    have cX2 : _ ∧ _ := ⟨kMap_jb 3 d1, (kMap_cb 3 d1).2⟩
    generalize kMap 3 d1 = q2 at hX2 vX2 cX2
    obtain ⟨x2, d2⟩ := q2
    simp only at hX2 vX2 cX2
    have o1 := Nd.ok_of_valid x1 8 vX1
    have o2 := Nd.ok_of_valid x2 8 vX2
    have z1 : (jsC.E x1).length ≤ 65536 := Nat.le_trans cX1.1 (by decide)
    have z2 : (jsC.E x2).length ≤ 65536 := Nat.le_trans cX2.1 (by decide)
    have hC1 := jEnc_spec hS hPw x1 o1 cX1.2 (fun _ => by have : x1.jb.length ≤ 65536 := z1; omega)
    have hC2 := jEnc_spec hS hPw x2 o2 cX2.2 (fun _ => by have : x2.jb.length ≤ 65536 := z2; omega)
    have hD1 := jDec_spec hS hPw G (ofL (jsC.E x1)) (by rw [ofL_size]; omega)
    have hD2 := jDec_spec hS hPw G (ofL (jsC.E x2)) (by rw [ofL_size]; omega)
    have hV1 := rValid_spec hS x1 o1
    have hV2 := rValid_spec hS x2 o2
    rw [jEnc_gEnc, gEnc_ok (C := jsC) vX1 z1] at hC1
    rw [jEnc_gEnc, gEnc_ok (C := jsC) vX2 z2] at hC2
    rw [gDec_back (C := jsC) vX1 cX1.2 z1] at hD1
    rw [gDec_back (C := jsC) vX2 cX2.2 z2] at hD2
    rw [vX1] at hV1
    rw [vX2] at hV2
    have hS1 := rSame_spec x1 o1 x1
    have hS2 := rSame_spec x2 o2 x2
    have hS3 := rSame_spec x1 o1 x2
    rw [Nd.same_refl] at hS1 hS2
    have e3 : x1.same x2 = decide (ofL (jsC.E x1) = ofL (jsC.E x2)) := by
      by_cases h : ofL (jsC.E x1) = ofL (jsC.E x2)
      · rw [g_inj (C := jsC) vX1 cX1.2 vX2 cX2.2 h, Nd.same_refl]; simp
      · rw [decide_eq_false h]
        cases hs : x1.same x2 with
        | false => rfl
        | true => exact absurd (by rw [(Nd.same_iff x1 x2).1 hs]) h
    rw [e3] at hS3
    clear e3 vX1 vX2 cX1 cX2 z1 z2 o1 o2 eX1
    have t1 := x1.toT_full
    have t2 := x2.toT_full
    generalize ofL (jsC.E x1) = s1 at *
    generalize ofL (jsC.E x2) = s2 at *
    simp only at hC1 hC2 hD1 hD2
    rw [t1] at hX1 hC1 hD1 hV1 hS1 hS3
    rw [t2] at hX2 hC2 hD2 hV2 hS2 hS3
    by_cases h12 : s1 = s2
    · subst h12
      rw [decide_eq_true rfl] at hS3
      refine spec_intro (env0 := [(0, _)]) (st0 := [(_, some _), (_, some _), (_, some _), (_, some _), (_, some _)]) Tryd.func4 rfl rfl rfl rfl ?_
      repeat' (first | (with_reducible refine codeT_seq ?_) | (with_reducible refine codeT_skip ?_) | (with_reducible refine codeT_ret ?_) | (with_reducible refine codeT_regionL ?_) | (with_reducible refine lx_nil ?_) | (with_reducible refine q_then ?_) | refine c_condF rfl ?_ | ((with_reducible refine g_guard ?_); first | refine lx_skip rfl rfl rfl ?_) | ((with_reducible refine g_move ?_); first | refine lx_move (r := (.t _)) rfl rfl rfl rfl rfl ?_ | refine lx_move (r := (.ref _ _ _ _)) rfl rfl rfl rfl rfl ?_ | refine lx_move (r := (.tup _)) rfl rfl rfl rfl rfl ?_) | ((with_reducible refine g_load ?_); first | refine lx_load_varA (r := (.t (.agg _))) rfl rfl rfl rfl rfl rfl rfl rfl rfl ?_) | ((with_reducible refine g_binOp ?_); first | refine lx_arith rfl rfl rfl rfl rfl rfl rfl ?_ | refine lx_str_eq rfl rfl rfl rfl rfl rfl ?_ | refine lx_bool_eq rfl rfl rfl rfl rfl rfl ?_ | refine lx_bool_ne rfl rfl rfl rfl rfl rfl ?_) | ((with_reducible refine g_assign ?_); first | refine lx_assign (r := (.t _)) rfl rfl rfl rfl rfl ?_ | refine lx_assign (r := (.ref _ _ _ _)) rfl rfl rfl rfl rfl ?_) | ((with_reducible refine g_pick ?_); first | refine lx_pickT (r := (.t _)) rfl rfl rfl rfl rfl rfl ?_ | refine lx_pickF (r := (.t _)) rfl rfl rfl rfl rfl rfl ?_) | ((with_reducible refine g_alloc ?_); first | refine lx_alloc rfl rfl rfl rfl rfl rfl rfl ?_) | ((with_reducible refine g_store ?_); first | refine lx_store_var (r := (.t (.agg _))) rfl rfl rfl rfl rfl rfl rfl rfl rfl rfl ?_) | ((with_reducible refine g_unOp ?_); first | refine lx_not rfl rfl rfl rfl rfl ?_) | ((with_reducible refine g_extract ?_); first | refine lx_extract rfl rfl rfl rfl rfl rfl ?_) | ((with_reducible refine g_call ?_); first | refine lx_callT rfl rfl hL rfl rfl (ArgsLE.refl _) rfl rfl rfl rfl rfl ?_ | refine lx_call (r' := .ref (.loc 900) 0 0 0) [(.res 0, .loc 900)] rfl rfl hR (ArgsLE.refl _) rfl trivial rfl rfl rfl rfl rfl rfl rfl rfl rfl rfl ?_ | refine lx_call (r' := .t (.agg [_, _, _, _, _, _])) [(.par 0, .loc 900)] rfl rfl hX1 (ArgsLE.refl _) rfl ⟨rfl, trivial⟩ rfl rfl rfl rfl rfl rfl rfl rfl rfl rfl ?_ | refine lx_call (r' := .t (.agg [_, _, _, _, _, _])) [(.par 0, .loc 900)] rfl rfl hX2 (ArgsLE.refl _) rfl ⟨rfl, trivial⟩ rfl rfl rfl rfl rfl rfl rfl rfl rfl rfl ?_ | refine lx_call (r' := .tup [.t (.str s1), .t (.int .i64 0)]) [] rfl rfl hC1 (ArgsLE.refl _) rfl ⟨rfl, rfl, rfl, trivial⟩ rfl rfl rfl rfl rfl rfl rfl rfl rfl rfl ?_ | refine lx_call (r' := .tup [.t (.str s1), .t (.int .i64 0)]) [] rfl rfl hC2 (ArgsLE.refl _) rfl ⟨rfl, rfl, rfl, trivial⟩ rfl rfl rfl rfl rfl rfl rfl rfl rfl rfl ?_ | refine lx_call (r' := .t (.bool true)) [] rfl rfl hV1 (ArgsLE.refl _) rfl ⟨rfl, rfl, trivial⟩ rfl rfl rfl rfl rfl rfl rfl rfl rfl rfl ?_ | refine lx_call (r' := .t (.bool true)) [] rfl rfl hV2 (ArgsLE.refl _) rfl ⟨rfl, rfl, trivial⟩ rfl rfl rfl rfl rfl rfl rfl rfl rfl rfl ?_ | refine lx_call (r' := .tup [.t (.agg [_, _, _, _, _, _]), .t (.int .i64 0)]) [] rfl rfl hD1 (ArgsLE.refl _) rfl ⟨rfl, rfl, rfl, rfl, rfl, trivial⟩ rfl rfl rfl rfl rfl rfl rfl rfl rfl rfl ?_ | refine lx_callT rfl rfl hS1 rfl rfl (ArgsLE.refl _) rfl rfl rfl rfl rfl ?_ | refine lx_callT rfl rfl hS3 rfl rfl (ArgsLE.refl _) rfl rfl rfl rfl rfl ?_ | refine lx_call (r' := .t (.bool true)) [] rfl rfl hA (ArgsLE.refl _) rfl ⟨rfl, rfl, rfl, trivial⟩ rfl rfl rfl rfl rfl rfl rfl rfl rfl rfl ?_) | refine lx_splitP rfl (fun hc => ?_) (fun hc => ?_))
      · exact q_ret (resT_oneE rfl rfl rfl) (stHas_spec ⟨rfl, rfl, rfl, rfl, rfl, trivial⟩)
      · exact absurd (decide_eq_true rfl) hc
    · rw [decide_eq_false h12] at hS3
      refine spec_intro (env0 := [(0, _)]) (st0 := [(_, some _), (_, some _), (_, some _), (_, some _), (_, some _)]) Tryd.func4 rfl rfl rfl rfl ?_
      repeat' (first | (with_reducible refine codeT_seq ?_) | (with_reducible refine codeT_skip ?_) | (with_reducible refine codeT_ret ?_) | (with_reducible refine codeT_regionL ?_) | (with_reducible refine lx_nil ?_) | (with_reducible refine q_then ?_) | refine c_condF rfl ?_ | ((with_reducible refine g_guard ?_); first | refine lx_skip rfl rfl rfl ?_) | ((with_reducible refine g_move ?_); first | refine lx_move (r := (.t _)) rfl rfl rfl rfl rfl ?_ | refine lx_move (r := (.ref _ _ _ _)) rfl rfl rfl rfl rfl ?_ | refine lx_move (r := (.tup _)) rfl rfl rfl rfl rfl ?_) | ((with_reducible refine g_load ?_); first | refine lx_load_varA (r := (.t (.agg _))) rfl rfl rfl rfl rfl rfl rfl rfl rfl ?_) | ((with_reducible refine g_binOp ?_); first | refine lx_arith rfl rfl rfl rfl rfl rfl rfl ?_ | refine lx_str_eq rfl rfl rfl rfl rfl rfl ?_ | refine lx_bool_eq rfl rfl rfl rfl rfl rfl ?_ | refine lx_bool_ne rfl rfl rfl rfl rfl rfl ?_) | ((with_reducible refine g_assign ?_); first | refine lx_assign (r := (.t _)) rfl rfl rfl rfl rfl ?_ | refine lx_assign (r := (.ref _ _ _ _)) rfl rfl rfl rfl rfl ?_) | ((with_reducible refine g_pick ?_); first | refine lx_pickT (r := (.t _)) rfl rfl rfl rfl rfl rfl ?_ | refine lx_pickF (r := (.t _)) rfl rfl rfl rfl rfl rfl ?_) | ((with_reducible refine g_alloc ?_); first | refine lx_alloc rfl rfl rfl rfl rfl rfl rfl ?_) | ((with_reducible refine g_store ?_); first | refine lx_store_var (r := (.t (.agg _))) rfl rfl rfl rfl rfl rfl rfl rfl rfl rfl ?_) | ((with_reducible refine g_unOp ?_); first | refine lx_not rfl rfl rfl rfl rfl ?_) | ((with_reducible refine g_extract ?_); first | refine lx_extract rfl rfl rfl rfl rfl rfl ?_) | ((with_reducible refine g_call ?_); first | refine lx_callT rfl rfl hL rfl rfl (ArgsLE.refl _) rfl rfl rfl rfl rfl ?_ | refine lx_call (r' := .ref (.loc 900) 0 0 0) [(.res 0, .loc 900)] rfl rfl hR (ArgsLE.refl _) rfl trivial rfl rfl rfl rfl rfl rfl rfl rfl rfl rfl ?_ | refine lx_call (r' := .t (.agg [_, _, _, _, _, _])) [(.par 0, .loc 900)] rfl rfl hX1 (ArgsLE.refl _) rfl ⟨rfl, trivial⟩ rfl rfl rfl rfl rfl rfl rfl rfl rfl rfl ?_ | refine lx_call (r' := .t (.agg [_, _, _, _, _, _])) [(.par 0, .loc 900)] rfl rfl hX2 (ArgsLE.refl _) rfl ⟨rfl, trivial⟩ rfl rfl rfl rfl rfl rfl rfl rfl rfl rfl ?_ | refine lx_call (r' := .tup [.t (.str s1), .t (.int .i64 0)]) [] rfl rfl hC1 (ArgsLE.refl _) rfl ⟨rfl, rfl, rfl, trivial⟩ rfl rfl rfl rfl rfl rfl rfl rfl rfl rfl ?_ | refine lx_call (r' := .tup [.t (.str s2), .t (.int .i64 0)]) [] rfl rfl hC2 (ArgsLE.refl _) rfl ⟨rfl, rfl, rfl, trivial⟩ rfl rfl rfl rfl rfl rfl rfl rfl rfl rfl ?_ | refine lx_call (r' := .t (.bool true)) [] rfl rfl hV1 (ArgsLE.refl _) rfl ⟨rfl, rfl, trivial⟩ rfl rfl rfl rfl rfl rfl rfl rfl rfl rfl ?_ | refine lx_call (r' := .t (.bool true)) [] rfl rfl hV2 (ArgsLE.refl _) rfl ⟨rfl, rfl, trivial⟩ rfl rfl rfl rfl rfl rfl rfl rfl rfl rfl ?_ | refine lx_call (r' := .tup [.t (.agg [_, _, _, _, _, _]), .t (.int .i64 0)]) [] rfl rfl hD1 (ArgsLE.refl _) rfl ⟨rfl, rfl, rfl, rfl, rfl, trivial⟩ rfl rfl rfl rfl rfl rfl rfl rfl rfl rfl ?_ | refine lx_call (r' := .tup [.t (.agg [_, _, _, _, _, _]), .t (.int .i64 0)]) [] rfl rfl hD2 (ArgsLE.refl _) rfl ⟨rfl, rfl, rfl, rfl, rfl, trivial⟩ rfl rfl rfl rfl rfl rfl rfl rfl rfl rfl ?_ | refine lx_callT rfl rfl hS1 rfl rfl (ArgsLE.refl _) rfl rfl rfl rfl rfl ?_ | refine lx_callT rfl rfl hS2 rfl rfl (ArgsLE.refl _) rfl rfl rfl rfl rfl ?_ | refine lx_callT rfl rfl hS3 rfl rfl (ArgsLE.refl _) rfl rfl rfl rfl rfl ?_ | refine lx_call (r' := .t (.bool true)) [] rfl rfl hA (ArgsLE.refl _) rfl ⟨rfl, rfl, rfl, trivial⟩ rfl rfl rfl rfl rfl rfl rfl rfl rfl rfl ?_) | refine lx_splitP rfl (fun hc => ?_) (fun hc => ?_))
      · exact q_ret (resT_oneE rfl rfl rfl) (stHas_spec ⟨rfl, rfl, rfl, rfl, rfl, trivial⟩)
      · exact absurd (decide_eq_false h12) hc
  · rw [decide_eq_false hl] at hL
    refine spec_intro (env0 := [(0, _)]) (st0 := [(_, some _), (_, some _), (_, some _), (_, some _), (_, some _)]) Tryd.func4 rfl rfl rfl rfl ?_
    repeat' (first | (with_reducible refine codeT_seq ?_) | (with_reducible refine codeT_ret ?_) | (with_reducible refine codeT_regionL ?_) | (with_reducible refine lx_nil ?_) | (with_reducible refine q_then ?_) | (with_reducible refine q_then_ret ?_) | refine c_condT rfl ?_ | ((with_reducible refine g_move ?_); first | refine lx_move (r := (.t _)) rfl rfl rfl rfl rfl ?_) | ((with_reducible refine g_assign ?_); first | refine lx_assign (r := (.t _)) rfl rfl rfl rfl rfl ?_) | ((with_reducible refine g_unOp ?_); first | refine lx_not rfl rfl rfl rfl rfl ?_) | ((with_reducible refine g_call ?_); first | refine lx_callT rfl rfl hL rfl rfl (ArgsLE.refl _) rfl rfl rfl rfl rfl ?_ | refine lx_call (r' := .t (.bool true)) [] rfl rfl hA (ArgsLE.refl _) rfl ⟨rfl, rfl, rfl, trivial⟩ rfl rfl rfl rfl rfl rfl rfl rfl rfl rfl ?_))
    exact q_ret (resT_oneE rfl rfl rfl) (stHas_spec ⟨rfl, rfl, rfl, rfl, rfl, trivial⟩)
end Go.AL
