/- That the law VersionBack is true, as a contract. -/
import Derived.Test.YtkfjchmmhabocaaDoorVer3
import Derived.Test.YtkfjchmmhabocaaDoorAl4
set_option linter.unusedVariables false
namespace Go.AL
open Go Go.Proofs Go.RowKit

theorem eq24a : Tryd.prog.stoodInHeld 24 = false := by kernel_rfl
theorem eq24b : Tryd.prog.eqGuardType Tryd.prog.depth 24 = false := by kernel_rfl
theorem eq24 : eq1B Tryd.prog 24 = true := by unfold eq1B; rw [eq24a, eq24b]; rfl
theorem flat24 (p p' : ByteArray) (a b c d a' b' c' d' : Int) : FlatE Tryd.prog [{ name := "Protocol", type := 9, offset := 0, embedded := false, tag := "", pkgPath := "", byteOffset := 0 }, { name := "Major", type := 3, offset := 1, embedded := false, tag := "", pkgPath := "", byteOffset := 16 }, { name := "Minor", type := 3, offset := 2, embedded := false, tag := "", pkgPath := "", byteOffset := 24 }, { name := "Form", type := 3, offset := 3, embedded := false, tag := "", pkgPath := "", byteOffset := 32 }, { name := "Size", type := 3, offset := 4, embedded := false, tag := "", pkgPath := "", byteOffset := 40 }] 0 [.str p, .int .i64 a, .int .i64 b, .int .i64 c, .int .i64 d] [.str p', .int .i64 a', .int .i64 b', .int .i64 c', .int .i64 d'] :=
  ⟨by decide, rfl, Tryd.underlying9, Tryd.underlying9, by decide, rfl, Tryd.underlying3, Tryd.underlying3, by decide, rfl, Tryd.underlying3, Tryd.underlying3, by decide, rfl, Tryd.underlying3, Tryd.underlying3, by decide, rfl, Tryd.underlying3, Tryd.underlying3, trivial⟩
theorem vs_eq (p : ByteArray) (a b c d : Int) : tEqs [.str p, .int .i64 a, .int .i64 b, .int .i64 c, .int .i64 d] [.str p, .int .i64 a, .int .i64 b, .int .i64 c, .int .i64 d] = true := tEqs_refl (flat24 p p a b c d a b c d)
set_option maxHeartbeats 16000000 in
theorem VersionBack_spec {oS oR oD : Obj} (G : GOk oS oR oD) (l : List Int) (x y : Int) : Spec Tryd.prog 4 [.t (.sl 1 (l.map (T.int .i64))), .t (.int .i64 x), .t (.int .i64 y)] [(.par 100, .dat (.fix 1 oS)), (.par 101, .dat (.fix 2 oR)), (.par 102, .dat (.fix 5 oD))] (.t (.bool true)) [(.par 100, .dat (.fix 1 oS)), (.par 101, .dat (.fix 2 oR)), (.par 102, .dat (.fix 5 oD))] := by
  have hA := awake9_spec G
  have hL := Light_spec l
  by_cases h5 : l.length ≤ 500
  · rw [show decide ((l.length : Int) ≤ 500) = true from decide_eq_true (by omega)] at hL
    have hR := Roll_spec l
    have hS := some_spec ⟨l, 0⟩ (by show l.length ≤ 1000; omega)
    have hp := someV_p ⟨l, 0⟩

    generalize someV ⟨l, 0⟩ = q at *
    obtain ⟨v, d1⟩ := q
    simp only at *

    have hT := VText_spec G v (by omega)
    have hV := VValid_spec v (by omega)
    by_cases hv : v.valid = true
    · have hP := VParse_spec G v.text (by have := text_size hv; omega)
      rw [parse_text hv] at hP
      have hz := text_size hv
      rw [show v.err = 0 from if_pos hv] at hT
      generalize v.text = s at *
      have hSp := Spoil_spec s x y (by omega)
      have hsz := spoil_size s x y
      generalize spoil s x y = s2 at *
      have hP2 := VParse_spec G s2 (by omega)
      have hT2 := VText_spec G (parseV s2).1 (by have := parseV_p s2; omega)
      have hok := fun h => parseV_ok (s := s2) h
      generalize parseV s2 = Y at *
      obtain ⟨v2, g⟩ := Y
      simp only at *
      generalize hx2 : v2.text = tx at *
      generalize hy2 : v2.err = er at *
      clear hx2 hy2 hv hp
      unfold Vr.toT at *
      obtain ⟨p, mj, mn, fm, sz⟩ := v
      obtain ⟨p2, mj2, mn2, fm2, sz2⟩ := v2
      simp only at *
      by_cases hg : g = 0
      · obtain ⟨h1, h2⟩ := hok hg
        refine spec_intro (env0 := [(0, _), (1, _), (2, _)]) (st0 := [(_, some _), (_, some _), (_, some _)]) Tryd.func4 rfl rfl rfl rfl ?_
        repeat' (first | (with_reducible refine codeT_seq ?_) | (with_reducible refine codeT_skip ?_) | (with_reducible refine codeT_ret ?_) | (with_reducible refine codeT_regionL ?_) | (with_reducible refine lx_nil ?_) | (with_reducible refine q_then ?_) | refine c_condF rfl ?_ | refine lx_eqagg (flat24 _ _ _ _ _ _ _ _ _ _) eq24 (vs_eq _ _ _ _ _) rfl rfl rfl rfl rfl rfl ?_ | (exfalso; omega) | exact absurd h2 ‹_› | ((with_reducible refine g_move ?_); first | refine lx_move (r := (.t _)) rfl rfl rfl rfl rfl ?_ | refine lx_move (r := (.tup _)) rfl rfl rfl rfl rfl ?_) | ((with_reducible refine g_load ?_); first | refine lx_load_varA (r := (.t (.agg _))) rfl rfl rfl rfl rfl rfl rfl rfl rfl ?_) | ((with_reducible refine g_binOp ?_); first | refine lx_arith rfl rfl rfl rfl rfl rfl rfl ?_ | refine lx_str_eq rfl rfl rfl rfl rfl rfl ?_) | ((with_reducible refine g_assign ?_); first | refine lx_assign (r := (.t _)) rfl rfl rfl rfl rfl ?_) | ((with_reducible refine g_pick ?_); first | refine lx_pickT (r := (.t _)) rfl rfl rfl rfl rfl rfl ?_ | refine lx_pickF (r := (.t _)) rfl rfl rfl rfl rfl rfl ?_) | ((with_reducible refine g_alloc ?_); first | refine lx_alloc rfl rfl rfl rfl rfl rfl rfl ?_) | ((with_reducible refine g_store ?_); first | refine lx_store_var (r := (.t (.agg _))) rfl rfl rfl rfl rfl rfl rfl rfl rfl rfl ?_) | ((with_reducible refine g_unOp ?_); first | refine lx_not rfl rfl rfl rfl rfl ?_) | ((with_reducible refine g_extract ?_); first | refine lx_extract rfl rfl rfl rfl rfl rfl ?_) | ((with_reducible refine g_len ?_); first | refine lx_len_str rfl rfl rfl rfl rfl ?_) | ((with_reducible refine g_call ?_); first | refine lx_callT rfl rfl hL rfl rfl (ArgsLE.refl _) rfl rfl rfl rfl rfl ?_ | refine lx_callR (r' := (.t (.bool true))) [] rfl rfl hA (ArgsLE.refl _) rfl ⟨rfl, rfl, rfl, trivial⟩ rfl rfl rfl rfl rfl rfl rfl rfl ?_ | refine lx_call (r' := .ref (.loc 901) 0 0 0) [(.res 0, .loc 901)] rfl rfl hR (ArgsLE.refl _) rfl trivial rfl rfl rfl rfl rfl rfl rfl rfl rfl rfl ?_ | refine lx_call (r' := .t (.agg [.str p, .int .i64 mj, .int .i64 mn, .int .i64 fm, .int .i64 sz])) [(.par 0, .loc 901)] rfl rfl hS (ArgsLE.refl _) rfl ⟨rfl, trivial⟩ rfl rfl rfl rfl rfl rfl rfl rfl rfl rfl ?_ | refine lx_callR (r' := (.tup [.t (.str s), .t (.int .i64 0)])) [] rfl rfl hT (ArgsLE.refl _) rfl ⟨rfl, rfl, rfl, trivial⟩ rfl rfl rfl rfl rfl rfl rfl rfl ?_ | refine lx_callR (r' := (.tup [.t (.str tx), .t (.int .i64 er)])) [] rfl rfl hT2 (ArgsLE.refl _) rfl ⟨rfl, rfl, rfl, trivial⟩ rfl rfl rfl rfl rfl rfl rfl rfl ?_ | refine lx_callT rfl rfl hSp rfl rfl (ArgsLE.refl _) rfl rfl rfl rfl rfl ?_ | refine lx_callR (r' := (.tup [.t (.agg [.str p, .int .i64 mj, .int .i64 mn, .int .i64 fm, .int .i64 sz]), .t (.int .i64 0)])) [] rfl rfl hP (ArgsLE.refl _) rfl ⟨rfl, rfl, rfl, trivial⟩ rfl rfl rfl rfl rfl rfl rfl rfl ?_ | refine lx_callR (r' := (.tup [.t (.agg [.str p2, .int .i64 mj2, .int .i64 mn2, .int .i64 fm2, .int .i64 sz2]), .t (.int .i64 g)])) [] rfl rfl hP2 (ArgsLE.refl _) rfl ⟨rfl, rfl, rfl, trivial⟩ rfl rfl rfl rfl rfl rfl rfl rfl ?_) | refine lx_splitP rfl (fun hc => ?_) (fun hc => ?_) | refine lx_splitN rfl (fun hc => ?_) (fun hc => ?_))
        all_goals exact q_ret (resT_oneE rfl rfl rfl) (stHas_spec ⟨rfl, rfl, rfl, trivial⟩)
      · refine spec_intro (env0 := [(0, _), (1, _), (2, _)]) (st0 := [(_, some _), (_, some _), (_, some _)]) Tryd.func4 rfl rfl rfl rfl ?_
        repeat' (first | (with_reducible refine codeT_seq ?_) | (with_reducible refine codeT_skip ?_) | (with_reducible refine codeT_ret ?_) | (with_reducible refine codeT_regionL ?_) | (with_reducible refine lx_nil ?_) | (with_reducible refine q_then ?_) | refine c_condF rfl ?_ | refine lx_eqagg (flat24 _ _ _ _ _ _ _ _ _ _) eq24 (vs_eq _ _ _ _ _) rfl rfl rfl rfl rfl rfl ?_ | (exfalso; omega) | ((with_reducible refine g_guard ?_); first | refine lx_skip rfl rfl rfl ?_) | ((with_reducible refine g_move ?_); first | refine lx_move (r := (.t _)) rfl rfl rfl rfl rfl ?_ | refine lx_move (r := (.tup _)) rfl rfl rfl rfl rfl ?_) | ((with_reducible refine g_load ?_); first | refine lx_load_varA (r := (.t (.agg _))) rfl rfl rfl rfl rfl rfl rfl rfl rfl ?_) | ((with_reducible refine g_binOp ?_); first | refine lx_arith rfl rfl rfl rfl rfl rfl rfl ?_) | ((with_reducible refine g_assign ?_); first | refine lx_assign (r := (.t _)) rfl rfl rfl rfl rfl ?_) | ((with_reducible refine g_pick ?_); first | refine lx_pickT (r := (.t _)) rfl rfl rfl rfl rfl rfl ?_) | ((with_reducible refine g_alloc ?_); first | refine lx_alloc rfl rfl rfl rfl rfl rfl rfl ?_) | ((with_reducible refine g_store ?_); first | refine lx_store_var (r := (.t (.agg _))) rfl rfl rfl rfl rfl rfl rfl rfl rfl rfl ?_) | ((with_reducible refine g_unOp ?_); first | refine lx_not rfl rfl rfl rfl rfl ?_) | ((with_reducible refine g_extract ?_); first | refine lx_extract rfl rfl rfl rfl rfl rfl ?_) | ((with_reducible refine g_len ?_); first | refine lx_len_str rfl rfl rfl rfl rfl ?_) | ((with_reducible refine g_call ?_); first | refine lx_callT rfl rfl hL rfl rfl (ArgsLE.refl _) rfl rfl rfl rfl rfl ?_ | refine lx_callR (r' := (.t (.bool true))) [] rfl rfl hA (ArgsLE.refl _) rfl ⟨rfl, rfl, rfl, trivial⟩ rfl rfl rfl rfl rfl rfl rfl rfl ?_ | refine lx_call (r' := .ref (.loc 901) 0 0 0) [(.res 0, .loc 901)] rfl rfl hR (ArgsLE.refl _) rfl trivial rfl rfl rfl rfl rfl rfl rfl rfl rfl rfl ?_ | refine lx_call (r' := .t (.agg [.str p, .int .i64 mj, .int .i64 mn, .int .i64 fm, .int .i64 sz])) [(.par 0, .loc 901)] rfl rfl hS (ArgsLE.refl _) rfl ⟨rfl, trivial⟩ rfl rfl rfl rfl rfl rfl rfl rfl rfl rfl ?_ | refine lx_callR (r' := (.tup [.t (.str s), .t (.int .i64 0)])) [] rfl rfl hT (ArgsLE.refl _) rfl ⟨rfl, rfl, rfl, trivial⟩ rfl rfl rfl rfl rfl rfl rfl rfl ?_ | refine lx_callR (r' := (.tup [.t (.str tx), .t (.int .i64 er)])) [] rfl rfl hT2 (ArgsLE.refl _) rfl ⟨rfl, rfl, rfl, trivial⟩ rfl rfl rfl rfl rfl rfl rfl rfl ?_ | refine lx_callT rfl rfl hSp rfl rfl (ArgsLE.refl _) rfl rfl rfl rfl rfl ?_ | refine lx_callR (r' := (.tup [.t (.agg [.str p, .int .i64 mj, .int .i64 mn, .int .i64 fm, .int .i64 sz]), .t (.int .i64 0)])) [] rfl rfl hP (ArgsLE.refl _) rfl ⟨rfl, rfl, rfl, trivial⟩ rfl rfl rfl rfl rfl rfl rfl rfl ?_ | refine lx_callR (r' := (.tup [.t (.agg [.str p2, .int .i64 mj2, .int .i64 mn2, .int .i64 fm2, .int .i64 sz2]), .t (.int .i64 g)])) [] rfl rfl hP2 (ArgsLE.refl _) rfl ⟨rfl, rfl, rfl, trivial⟩ rfl rfl rfl rfl rfl rfl rfl rfl ?_) | refine lx_splitP rfl (fun hc => ?_) (fun hc => ?_) | refine lx_splitN rfl (fun hc => ?_) (fun hc => ?_))
        all_goals exact q_ret (resT_oneE rfl rfl rfl) (stHas_spec ⟨rfl, rfl, rfl, trivial⟩)
    · rw [show v.err = 2 from if_neg hv, show v.text = ⟨#[]⟩ from if_neg hv] at hT
      rw [show v.valid = false by simpa using hv] at hV
      clear hv hp
      unfold Vr.toT at *
      obtain ⟨p, mj, mn, fm, sz⟩ := v
      simp only at *
      refine spec_intro (env0 := [(0, _), (1, _), (2, _)]) (st0 := [(_, some _), (_, some _), (_, some _)]) Tryd.func4 rfl rfl rfl rfl ?_
      repeat' (first | (with_reducible refine codeT_seq ?_) | (with_reducible refine codeT_skip ?_) | (with_reducible refine codeT_ret ?_) | (with_reducible refine codeT_regionL ?_) | (with_reducible refine lx_nil ?_) | (with_reducible refine q_then ?_) | (with_reducible refine q_then_ret ?_) | refine c_condT rfl ?_ | refine c_condF rfl ?_ | ((with_reducible refine g_move ?_); first | refine lx_move (r := (.t _)) rfl rfl rfl rfl rfl ?_ | refine lx_move (r := (.tup _)) rfl rfl rfl rfl rfl ?_) | ((with_reducible refine g_load ?_); first | refine lx_load_varA (r := (.t (.agg _))) rfl rfl rfl rfl rfl rfl rfl rfl rfl ?_) | ((with_reducible refine g_binOp ?_); first | refine lx_arith rfl rfl rfl rfl rfl rfl rfl ?_ | refine lx_str_eq rfl rfl rfl rfl rfl rfl ?_) | ((with_reducible refine g_assign ?_); first | refine lx_assign (r := (.t _)) rfl rfl rfl rfl rfl ?_) | ((with_reducible refine g_pick ?_); first | refine lx_pickT (r := (.t _)) rfl rfl rfl rfl rfl rfl ?_) | ((with_reducible refine g_alloc ?_); first | refine lx_alloc rfl rfl rfl rfl rfl rfl rfl ?_) | ((with_reducible refine g_store ?_); first | refine lx_store_var (r := (.t (.agg _))) rfl rfl rfl rfl rfl rfl rfl rfl rfl rfl ?_) | ((with_reducible refine g_unOp ?_); first | refine lx_not rfl rfl rfl rfl rfl ?_) | ((with_reducible refine g_extract ?_); first | refine lx_extract rfl rfl rfl rfl rfl rfl ?_) | ((with_reducible refine g_call ?_); first | refine lx_callT rfl rfl hL rfl rfl (ArgsLE.refl _) rfl rfl rfl rfl rfl ?_ | refine lx_callT rfl rfl hV rfl rfl (ArgsLE.refl _) rfl rfl rfl rfl rfl ?_ | refine lx_callR (r' := (.t (.bool true))) [] rfl rfl hA (ArgsLE.refl _) rfl ⟨rfl, rfl, rfl, trivial⟩ rfl rfl rfl rfl rfl rfl rfl rfl ?_ | refine lx_call (r' := .ref (.loc 901) 0 0 0) [(.res 0, .loc 901)] rfl rfl hR (ArgsLE.refl _) rfl trivial rfl rfl rfl rfl rfl rfl rfl rfl rfl rfl ?_ | refine lx_call (r' := .t (.agg [.str p, .int .i64 mj, .int .i64 mn, .int .i64 fm, .int .i64 sz])) [(.par 0, .loc 901)] rfl rfl hS (ArgsLE.refl _) rfl ⟨rfl, trivial⟩ rfl rfl rfl rfl rfl rfl rfl rfl rfl rfl ?_ | refine lx_callR (r' := (.tup [.t (.str ⟨#[]⟩), .t (.int .i64 2)])) [] rfl rfl hT (ArgsLE.refl _) rfl ⟨rfl, rfl, rfl, trivial⟩ rfl rfl rfl rfl rfl rfl rfl rfl ?_))
      all_goals exact q_ret (resT_oneE rfl rfl rfl) (stHas_spec ⟨rfl, rfl, rfl, trivial⟩)
  · rw [show decide ((l.length : Int) ≤ 500) = false from decide_eq_false (by omega)] at hL
    refine spec_intro (env0 := [(0, _), (1, _), (2, _)]) (st0 := [(_, some _), (_, some _), (_, some _)]) Tryd.func4 rfl rfl rfl rfl ?_
    repeat' (first | (with_reducible refine codeT_seq ?_) | (with_reducible refine codeT_ret ?_) | (with_reducible refine codeT_regionL ?_) | (with_reducible refine lx_nil ?_) | (with_reducible refine q_then ?_) | (with_reducible refine q_then_ret ?_) | refine c_condT rfl ?_ | ((with_reducible refine g_move ?_); first | refine lx_move (r := (.t _)) rfl rfl rfl rfl rfl ?_) | ((with_reducible refine g_assign ?_); first | refine lx_assign (r := (.t _)) rfl rfl rfl rfl rfl ?_) | ((with_reducible refine g_unOp ?_); first | refine lx_not rfl rfl rfl rfl rfl ?_) | ((with_reducible refine g_call ?_); first | refine lx_callT rfl rfl hL rfl rfl (ArgsLE.refl _) rfl rfl rfl rfl rfl ?_ | refine lx_callR (r' := (.t (.bool true))) [] rfl rfl hA (ArgsLE.refl _) rfl ⟨rfl, rfl, rfl, trivial⟩ rfl rfl rfl rfl rfl rfl rfl rfl ?_))
    exact q_ret (resT_oneE rfl rfl rfl) (stHas_spec ⟨rfl, rfl, rfl, trivial⟩)
end Go.AL
