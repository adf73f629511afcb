/- What version.Valid and Text answer, of both sides. -/
import Derived.Test.YtkfjchmmhabocaaDoorVer1
set_option linter.unusedVariables false
namespace Go.AL
open Go Go.Proofs Go.RowKit

theorem nm_some (k : Int) : (mget nmL (.int .i64 k)).isSome = decide (1 ≤ k ∧ k ≤ 3) := by
  simp only [nmL, mget, keyEq]
  by_cases h1 : k = 1
  · simp [h1]
  · by_cases h2 : k = 2
    · simp [h1, h2]
    · by_cases h3 : k = 3
      · simp [h1, h2, h3]
      · simp only [h1, h2, h3, decide_false, Bool.false_eq_true, if_false, Option.isSome_none]
        symm; exact decide_eq_false (by omega)
set_option maxHeartbeats 4000000 in
theorem VValid_spec (v : Vr) (hs : v.p.size ≤ 1000000000) : Spec Tryd.prog 13 [.t v.toT] [] (.t (.bool v.valid)) [] := by
  have hN := names_spec
  have hP := protocol_spec v.p hs
  have hn := nm_some v.fm
  unfold Vr.toT Vr.valid
  generalize isUp v.p = u at *
  obtain ⟨p, mj, mn, fm, sz⟩ := v
  simp only at *
  refine spec_intro (env0 := [(0, _)]) (st0 := []) Tryd.func13 rfl rfl rfl rfl ?_
  repeat' (first | (with_reducible refine codeT_seq ?_) | (with_reducible refine codeT_ret ?_) | (with_reducible refine codeT_regionL ?_) | ((with_reducible refine codeT_region_drawL ?_ ?_); · rfl) | (with_reducible refine lx_nil ?_) | (with_reducible refine q_then ?_) | ((with_reducible refine q_region_draw ?_ ?_); · rfl) | ((with_reducible refine g_guard ?_); first | refine lx_skip rfl rfl rfl ?_) | ((with_reducible refine g_move ?_); first | refine lx_move (r := (.t _)) rfl rfl rfl rfl rfl ?_ | refine lx_move (r := (.tup _)) rfl rfl rfl rfl rfl ?_) | ((with_reducible refine g_load ?_); first | refine lx_load_var rfl rfl rfl rfl rfl rfl rfl rfl ?_) | ((with_reducible refine g_fieldAddr ?_); first | refine lx_fieldAddr rfl rfl rfl rfl rfl rfl rfl ?_) | ((with_reducible refine g_binOp ?_); first | refine lx_arith rfl rfl rfl rfl rfl rfl rfl ?_) | ((with_reducible refine g_assign ?_); first | refine lx_assign (r := (.t _)) rfl rfl rfl rfl rfl ?_) | ((with_reducible refine g_pick ?_); first | refine lx_pickT (r := (.t _)) rfl rfl rfl rfl rfl rfl ?_ | refine lx_pickF (r := (.t _)) rfl rfl rfl rfl rfl rfl ?_) | ((with_reducible refine g_box ?_); first | refine lx_box (r := (.t (.agg _))) (cs := (List.map .t _)) rfl rfl rfl rfl rfl rfl rfl rfl rfl ?_) | ((with_reducible refine g_extract ?_); first | refine lx_extract rfl rfl rfl rfl rfl rfl ?_) | ((with_reducible refine g_lookup ?_); first | refine lx_lookup_ok (zT := .str _) rfl rfl rfl (fun _ => rfl) rfl rfl rfl rfl rfl ?_ ?_) | ((with_reducible refine g_call ?_); first | refine lx_call (r' := .row (.loc 900)) [(.res 0, .loc 900)] rfl rfl hN (ArgsLE.refl _) rfl trivial rfl rfl rfl rfl rfl rfl rfl rfl rfl rfl ?_ | refine lx_callT rfl rfl hP rfl rfl (ArgsLE.refl _) rfl rfl rfl rfl rfl ?_) | refine lx_splitP rfl (fun hc => ?_) (fun hc => ?_) | refine lx_splitB rfl (fun hc => ?_) (fun hc => ?_))
  · rfl
  all_goals refine q_ret (resT_oneE rfl rfl (congrArg T.bool ?_)) (by simp)
  all_goals rw [← hn]
  all_goals clear hn
  all_goals generalize (mget nmL (T.int IntKind.i64 fm)).isSome = m at *
  all_goals cases m <;> cases u <;> simp_all <;> omega
theorem nm_get (k : Int) (h : 1 ≤ k ∧ k ≤ 3) : (mget nmL (.int .i64 k)).getD (.str ⟨#[]⟩) = .str (ofL (fname k)) := by
  obtain rfl | rfl | rfl : k = 1 ∨ k = 2 ∨ k = 3 := by omega
  all_goals rfl
theorem fname_len (k : Int) (h : 1 ≤ k ∧ k ≤ 3) : (fname k).length = 4 := by
  obtain rfl | rfl | rfl : k = 1 ∨ k = 2 ∨ k = 3 := by omega
  all_goals rfl
theorem valid_facts {v : Vr} (h : v.valid = true) : (1 ≤ v.fm ∧ v.fm ≤ 3) ∧ isUp v.p = true ∧ v.p.size = 4 ∧ 0 ≤ v.mj ∧ v.mj ≤ 15 ∧ 0 ≤ v.mn ∧ v.mn ≤ 15 ∧ 0 ≤ v.sz ∧ v.sz ≤ 16777215 := by
  unfold Vr.valid at h
  simp only [Bool.and_eq_true, decide_eq_true_eq] at h
  refine ⟨h.1.1, h.1.2, ?_, h.2⟩
  have := h.1.2
  unfold isUp at this
  simp only [Bool.and_eq_true, decide_eq_true_eq] at this
  exact this.1
theorem ofL_app (a b : List UInt8) : ofL a ++ ofL b = ofL (a ++ b) := by
  apply ByteArray.ext; simp [ofL]
theorem ofL_data (s : ByteArray) : ofL s.data.toList = s := by cases s; rfl
set_option maxHeartbeats 4000000 in
theorem VText_spec {oS oR oD : Obj} (G : GOk oS oR oD) (v : Vr) (hs : v.p.size ≤ 1000000000) : Spec Tryd.prog 11 [.t v.toT] [(.par 100, .dat (.fix 1 oS)), (.par 101, .dat (.fix 2 oR)), (.par 102, .dat (.fix 5 oD))] (.tup [.t (.str v.text), .t (.int .i64 v.err)]) [(.par 100, .dat (.fix 1 oS)), (.par 101, .dat (.fix 2 oR)), (.par 102, .dat (.fix 5 oD))] := by
  have hV := VValid_spec v hs
  have hN := names_spec
  by_cases hv : v.valid = true
  · obtain ⟨hf, _, hp, a1, a2, b1, b2, c1, c2⟩ := valid_facts hv
    rw [show v.text = ofL v.txt from if_pos hv, show v.err = 0 from if_pos hv]
    rw [hv] at hV
    have h1 := vhex_spec G v.mj.toNat 1 (by omega) (by omega) (by omega)
    have h2 := vhex_spec G v.mn.toNat 1 (by omega) (by omega) (by omega)
    have h3 := vhex_spec G v.sz.toNat 6 (by omega) (by omega) (by omega)
    rw [Int.toNat_of_nonneg a1] at h1
    rw [Int.toNat_of_nonneg b1] at h2
    rw [Int.toNat_of_nonneg c1] at h3
    have hg := nm_get v.fm hf
    have hfl := fname_len v.fm hf
    have ht : ofL v.txt = v.p ++ ofL (lowHex 1 v.mj.toNat) ++ ofL (lowHex 1 v.mn.toNat) ++ ofL (fname v.fm) ++ ofL (lowHex 6 v.sz.toNat) ++ ⟨#[95]⟩ := by
      rw [show (⟨#[95]⟩ : ByteArray) = ofL [95] from rfl]
      conv => rhs; rw [← ofL_data v.p]
      simp only [ofL_app]
      rfl
    rw [ht]
    have s1 : (ofL (lowHex 1 v.mj.toNat)).size = 1 := by rw [ofL_size, lowHex_len]
    have s2 : (ofL (lowHex 1 v.mn.toNat)).size = 1 := by rw [ofL_size, lowHex_len]
    have s3 : (ofL (lowHex 6 v.sz.toNat)).size = 6 := by rw [ofL_size, lowHex_len]
    have s4 : (ofL (fname v.fm)).size = 4 := by rw [ofL_size, hfl]
    have s5 : (⟨#[95]⟩ : ByteArray).size = 1 := rfl
    clear ht
    generalize ofL (lowHex 1 v.mj.toNat) = x1 at *
    generalize ofL (lowHex 1 v.mn.toNat) = x2 at *
    generalize ofL (lowHex 6 v.sz.toNat) = x3 at *
    generalize ofL (fname v.fm) = x4 at *
    unfold Vr.toT at *
    obtain ⟨p, mj, mn, fm, sz⟩ := v
    simp only at *
    clear hv
    refine spec_intro (env0 := [(0, _)]) (st0 := [(_, some _), (_, some _), (_, some _)]) Tryd.func11 rfl rfl rfl rfl ?_
    repeat' (first | (with_reducible refine codeT_seq ?_) | (with_reducible refine codeT_skip ?_) | (with_reducible refine codeT_ret ?_) | (with_reducible refine codeT_regionL ?_) | ((with_reducible refine codeT_region_drawL ?_ ?_); · rfl) | (with_reducible refine lx_nil ?_) | (with_reducible refine q_then ?_) | ((with_reducible refine q_region_draw ?_ ?_); · rfl) | refine c_condF rfl ?_ | refine lx_lookup_as rfl rfl rfl rfl hg (fun _ => rfl) rfl rfl rfl rfl rfl ?_ | ((with_reducible refine g_load ?_); first | refine lx_load_var rfl rfl rfl rfl rfl rfl rfl rfl ?_ | refine lx_load_varA (r := (.t (.agg _))) rfl rfl rfl rfl rfl rfl rfl rfl rfl ?_) | ((with_reducible refine g_fieldAddr ?_); first | refine lx_fieldAddr rfl rfl rfl rfl rfl rfl rfl ?_) | ((with_reducible refine g_binOp ?_); first | refine lx_concat rfl rfl rfl rfl rfl rfl ?_ ?_) | ((with_reducible refine g_assign ?_); first | refine lx_assign (r := (.t _)) rfl rfl rfl rfl rfl ?_) | ((with_reducible refine g_box ?_); first | refine lx_box (r := (.t (.agg _))) (cs := (List.map .t _)) rfl rfl rfl rfl rfl rfl rfl rfl rfl ?_) | ((with_reducible refine g_unOp ?_); first | refine lx_not rfl rfl rfl rfl rfl ?_) | ((with_reducible refine g_call ?_); first | refine lx_call (r' := .row (.loc 900)) [(.res 0, .loc 900)] rfl rfl hN (ArgsLE.refl _) rfl trivial rfl rfl rfl rfl rfl rfl rfl rfl rfl rfl ?_ | refine lx_callT rfl rfl hV rfl rfl (ArgsLE.refl _) rfl rfl rfl rfl rfl ?_ | refine lx_call (r' := (.t (.str x1))) [] rfl rfl h1 (ArgsLE.refl _) rfl ⟨rfl, rfl, rfl, trivial⟩ rfl rfl rfl rfl rfl rfl rfl rfl rfl rfl ?_ | refine lx_call (r' := (.t (.str x2))) [] rfl rfl h2 (ArgsLE.refl _) rfl ⟨rfl, rfl, rfl, trivial⟩ rfl rfl rfl rfl rfl rfl rfl rfl rfl rfl ?_ | refine lx_call (r' := (.t (.str x3))) [] rfl rfl h3 (ArgsLE.refl _) rfl ⟨rfl, rfl, rfl, trivial⟩ rfl rfl rfl rfl rfl rfl rfl rfl rfl rfl ?_))
    all_goals try rfl
    all_goals try (simp only [ByteArray.size_append, s5]; omega)
    all_goals try omega
    exact q_ret (resT_twoE rfl rfl rfl rfl rfl) (stHas_spec ⟨rfl, rfl, rfl, trivial⟩)
  · rw [show v.text = ⟨#[]⟩ from if_neg hv, show v.err = 2 from if_neg hv]
    rw [show v.valid = false by simpa using hv] at hV
    unfold Vr.toT at *
    obtain ⟨p, mj, mn, fm, sz⟩ := v
    simp only at *
    clear hv
    refine spec_intro (env0 := [(0, _)]) (st0 := [(_, some _), (_, some _), (_, some _)]) Tryd.func11 rfl rfl rfl rfl ?_
    repeat' (first | (with_reducible refine codeT_seq ?_) | (with_reducible refine codeT_ret ?_) | (with_reducible refine codeT_regionL ?_) | (with_reducible refine lx_nil ?_) | (with_reducible refine q_then ?_) | (with_reducible refine q_then_ret ?_) | refine c_condT rfl ?_ | ((with_reducible refine g_load ?_); first | refine lx_load_varA (r := (.t (.agg _))) rfl rfl rfl rfl rfl rfl rfl rfl rfl ?_) | ((with_reducible refine g_assign ?_); first | refine lx_assign (r := (.t _)) rfl rfl rfl rfl rfl ?_) | ((with_reducible refine g_box ?_); first | refine lx_box (r := (.t (.agg _))) (cs := (List.map .t _)) rfl rfl rfl rfl rfl rfl rfl rfl rfl ?_) | ((with_reducible refine g_unOp ?_); first | refine lx_not rfl rfl rfl rfl rfl ?_) | ((with_reducible refine g_call ?_); first | refine lx_callT rfl rfl hV rfl rfl (ArgsLE.refl _) rfl rfl rfl rfl rfl ?_))
    exact q_ret (resT_twoE rfl rfl rfl rfl rfl) (stHas_spec ⟨rfl, rfl, rfl, trivial⟩)
end Go.AL
/- What the document's Valid, hex and Text of versions answer. -/
set_option linter.unusedVariables false
namespace Go.AL
open Go Go.Proofs Go.RowKit

set_option maxHeartbeats 4000000 in
theorem RValid_spec (v : Vr) (hs : v.p.size ≤ 1000000000) : Spec Tryd.prog 14 [.t v.toT] [] (.t (.bool v.valid)) [] := by
  have hls := ba_len2 v.p
  by_cases h4 : v.p.size = 4
  · obtain ⟨X, hX⟩ : ∃ X, X = v.valid := ⟨_, rfl⟩
    rw [← hX]
    unfold Vr.valid at hX
    unfold Vr.toT
    obtain ⟨p, mj, mn, fm, sz⟩ := v
    simp only at *
    refine spec_intro (env0 := [(0, _)]) (st0 := []) Tryd.func14 rfl rfl rfl rfl ?_
    repeat' (first | (with_reducible refine codeT_seq ?_) | (with_reducible refine codeT_block ?_) | (with_reducible refine codeT_skip ?_) | (with_reducible refine codeT_regionL ?_) | (with_reducible refine lx_nil ?_) | (with_reducible refine q_then ?_) | (exfalso; omega) | ((with_reducible refine g_move ?_); first | refine lx_move (r := (.t _)) rfl rfl rfl rfl rfl ?_) | ((with_reducible refine g_load ?_); first | refine lx_load_var rfl rfl rfl rfl rfl rfl rfl rfl ?_) | ((with_reducible refine g_fieldAddr ?_); first | refine lx_fieldAddr rfl rfl rfl rfl rfl rfl rfl ?_) | ((with_reducible refine g_binOp ?_); first | refine lx_arith rfl rfl rfl rfl rfl rfl rfl ?_) | ((with_reducible refine g_assign ?_); first | refine lx_assign (r := (.t _)) rfl rfl rfl rfl rfl ?_) | ((with_reducible refine g_box ?_); first | refine lx_box (r := (.t (.agg _))) (cs := (List.map .t _)) rfl rfl rfl rfl rfl rfl rfl rfl rfl ?_) | ((with_reducible refine g_len ?_); first | refine lx_len_str rfl rfl rfl rfl rfl ?_) | refine c_condN rfl (fun hc => ?_) (fun hc => ?_))
    refine codeT_ghost (ghost_keep2 [1, 8] [.loc 1] rfl rfl) ?_
    refine codeT_loop (fun q env st => ∃ (j : Nat), j ≤ 4 ∧ q = 4 - j ∧ (∀ i, i < j → decide (65 ≤ (p.data.toList.getD i default).toNat ∧ (p.data.toList.getD i default).toNat ≤ 90) = true) ∧
        env = EnvL.get [(1, .ref (.loc 1) 0 0 0), (8, .t (.int .i64 (j : Int)))] ∧ st = StO.get [(.loc 1, some (.var 24 [.t (.str p), .t (.int .i64 mj), .t (.int .i64 mn), .t (.int .i64 fm), .t (.int .i64 sz)]))])
      ?_ (n := 4) ⟨0, by omega, rfl, fun i hi => by omega, rfl, rfl⟩
    rintro q env st ⟨j, hj, rfl, hall, rfl, rfl⟩
    have wj : IntKind.i64.wrap ((j : Int) + 1) = ((j + 1 : Nat) : Int) := by rw [wrap64 (by omega) (by omega)]; omega
    have hb : bAt p (j : Int) = ((p.data.toList.getD j default).toNat : Int) := rfl
    by_cases hlt : j < 4
    · by_cases hin : 65 ≤ (p.data.toList.getD j default).toNat ∧ (p.data.toList.getD j default).toNat ≤ 90
      · repeat' (first | (with_reducible refine codeT_seq ?_) | (with_reducible refine codeT_block ?_) | (with_reducible refine codeT_skip ?_) | (with_reducible refine codeT_exit ?_) | (with_reducible refine codeT_regionL ?_) | (with_reducible refine lx_nil ?_) | (with_reducible refine q_then ?_) | (with_reducible refine q_then_exit ?_) | (with_reducible refine q_block ?_) | ((with_reducible refine q_block_same ?_ ?_); · rfl) | (with_reducible refine q_loop_exit ?_) | (exfalso; omega) | ((with_reducible refine g_move ?_); first | refine lx_move (r := (.t _)) rfl rfl rfl rfl rfl ?_) | ((with_reducible refine g_load ?_); first | refine lx_load_var rfl rfl rfl rfl rfl rfl rfl rfl ?_) | ((with_reducible refine g_fieldAddr ?_); first | refine lx_fieldAddr rfl rfl rfl rfl rfl rfl rfl ?_) | ((with_reducible refine g_binOp ?_); first | refine lx_arith rfl rfl rfl rfl rfl rfl rfl ?_) | ((with_reducible refine g_assign ?_); first | refine lx_assign (r := (.t _)) rfl rfl rfl rfl rfl ?_) | ((with_reducible refine g_pick ?_); first | refine lx_pickF (r := (.t _)) rfl rfl rfl rfl rfl rfl ?_) | ((with_reducible refine g_index ?_); first | refine lx_index_str rfl rfl rfl rfl rfl rfl ?_ ?_ ?_) | refine c_condP rfl (fun hc => ?_) (fun hc => ?_) | refine lx_splitP rfl (fun hc => ?_) (fun hc => ?_))
        all_goals try omega
        exact q_loop (n' := 4 - (j + 1)) (by omega) (ghost_keep2 [1, 8] [.loc 1] rfl rfl) ⟨j + 1, by omega, rfl, fun i hi => by
          rcases Nat.lt_or_ge i j with h | h
          · exact hall i h
          · obtain rfl : i = j := by omega
            exact decide_eq_true hin, by rw [wj]; rfl, rfl⟩
      · have hF : X = false := by
          rw [hX]
          unfold isUp
          rw [all_split p.data.toList _ j (by omega) (decide_eq_false hin), Bool.and_false, Bool.and_false, Bool.false_and]
        rw [hF]
        repeat' (first | (with_reducible refine codeT_seq ?_) | (with_reducible refine codeT_block ?_) | (with_reducible refine codeT_skip ?_) | (with_reducible refine codeT_ret ?_) | (with_reducible refine codeT_exit ?_) | (with_reducible refine codeT_regionL ?_) | (with_reducible refine lx_nil ?_) | (with_reducible refine q_then ?_) | (with_reducible refine q_then_exit ?_) | (with_reducible refine q_then_ret ?_) | (with_reducible refine q_block ?_) | (with_reducible refine q_block_ret ?_) | ((with_reducible refine q_block_same ?_ ?_); · rfl) | (with_reducible refine q_loop_exit ?_) | (with_reducible refine q_loop_ret ?_) | refine c_condT rfl ?_ | (exfalso; omega) | ((with_reducible refine g_guard ?_); first | refine lx_skip rfl rfl rfl ?_) | ((with_reducible refine g_move ?_); first | refine lx_move (r := (.t _)) rfl rfl rfl rfl rfl ?_) | ((with_reducible refine g_load ?_); first | refine lx_load_var rfl rfl rfl rfl rfl rfl rfl rfl ?_) | ((with_reducible refine g_fieldAddr ?_); first | refine lx_fieldAddr rfl rfl rfl rfl rfl rfl rfl ?_) | ((with_reducible refine g_binOp ?_); first | refine lx_arith rfl rfl rfl rfl rfl rfl rfl ?_) | ((with_reducible refine g_assign ?_); first | refine lx_assign (r := (.t _)) rfl rfl rfl rfl rfl ?_) | ((with_reducible refine g_pick ?_); first | refine lx_pickT (r := (.t _)) rfl rfl rfl rfl rfl rfl ?_ | refine lx_pickF (r := (.t _)) rfl rfl rfl rfl rfl rfl ?_) | ((with_reducible refine g_index ?_); first | refine lx_index_str rfl rfl rfl rfl rfl rfl ?_ ?_ ?_) | refine c_condP rfl (fun hc => ?_) (fun hc => ?_) | refine lx_splitP rfl (fun hc => ?_) (fun hc => ?_))
        all_goals try omega
        all_goals exact q_ret (resT_oneE rfl rfl rfl) (by simp)
    · have hU : isUp p = true := by
        unfold isUp
        rw [all_of _ _ fun i hi => hall i (by omega), decide_eq_true h4]
        rfl
      rw [hU] at hX
      repeat' (first | (with_reducible refine codeT_seq ?_) | (with_reducible refine codeT_block ?_) | (with_reducible refine codeT_skip ?_) | (with_reducible refine codeT_ret ?_) | (with_reducible refine codeT_exit ?_) | (with_reducible refine codeT_regionL ?_) | (with_reducible refine lx_nil ?_) | (with_reducible refine q_then ?_) | (with_reducible refine q_then_exit ?_) | ((with_reducible refine q_block_same ?_ ?_); · rfl) | (with_reducible refine q_loop_exit ?_) | (exfalso; omega) | ((with_reducible refine g_guard ?_); first | refine lx_skip rfl rfl rfl ?_) | ((with_reducible refine g_move ?_); first | refine lx_move (r := (.t _)) rfl rfl rfl rfl rfl ?_) | ((with_reducible refine g_load ?_); first | refine lx_load_var rfl rfl rfl rfl rfl rfl rfl rfl ?_) | ((with_reducible refine g_fieldAddr ?_); first | refine lx_fieldAddr rfl rfl rfl rfl rfl rfl rfl ?_) | ((with_reducible refine g_binOp ?_); first | refine lx_arith rfl rfl rfl rfl rfl rfl rfl ?_) | ((with_reducible refine g_assign ?_); first | refine lx_assign (r := (.t _)) rfl rfl rfl rfl rfl ?_) | ((with_reducible refine g_pick ?_); first | refine lx_pickT (r := (.t _)) rfl rfl rfl rfl rfl rfl ?_ | refine lx_pickF (r := (.t _)) rfl rfl rfl rfl rfl rfl ?_) | refine c_condP rfl (fun hc => ?_) (fun hc => ?_) | refine lx_splitP rfl (fun hc => ?_) (fun hc => ?_))
      all_goals refine q_ret (resT_oneE rfl rfl (congrArg T.bool ?_)) (by simp)
      all_goals rw [hX]
      all_goals (rw [Bool.eq_iff_iff]; simp only [Bool.and_eq_true, decide_eq_true_eq, and_true, Bool.false_eq_true]; exact ⟨fun h => by first | exact h.elim | omega, fun h => by omega⟩)
  · have hF : v.valid = false := by
      unfold Vr.valid isUp
      rw [decide_eq_false h4]; simp
    rw [hF]
    unfold Vr.toT
    obtain ⟨p, mj, mn, fm, sz⟩ := v
    simp only at *
    refine spec_intro (env0 := [(0, _)]) (st0 := []) Tryd.func14 rfl rfl rfl rfl ?_
    repeat' (first | (with_reducible refine codeT_seq ?_) | (with_reducible refine codeT_skip ?_) | (with_reducible refine codeT_ret ?_) | (with_reducible refine codeT_regionL ?_) | (with_reducible refine lx_nil ?_) | (with_reducible refine q_then ?_) | (with_reducible refine q_then_ret ?_) | (exfalso; omega) | ((with_reducible refine g_load ?_); first | refine lx_load_var rfl rfl rfl rfl rfl rfl rfl rfl ?_) | ((with_reducible refine g_fieldAddr ?_); first | refine lx_fieldAddr rfl rfl rfl rfl rfl rfl rfl ?_) | ((with_reducible refine g_binOp ?_); first | refine lx_arith rfl rfl rfl rfl rfl rfl rfl ?_) | ((with_reducible refine g_assign ?_); first | refine lx_assign (r := (.t _)) rfl rfl rfl rfl rfl ?_) | ((with_reducible refine g_box ?_); first | refine lx_box (r := (.t (.agg _))) (cs := (List.map .t _)) rfl rfl rfl rfl rfl rfl rfl rfl rfl ?_) | ((with_reducible refine g_len ?_); first | refine lx_len_str rfl rfl rfl rfl rfl ?_) | refine c_condN rfl (fun hc => ?_) (fun hc => ?_))
    exact q_ret (resT_oneE rfl rfl rfl) (by simp)
theorem and15i (n : Nat) (h : n < 18446744073709551616) : IntKind.i64.wrap ((BitVec.ofInt IntKind.i64.bits (n : Int) &&& BitVec.ofInt IntKind.i64.bits 15).toNat : Int) = ((n % 16 : Nat) : Int) := by
  rw [BitVec.toNat_and, BitVec.ofInt_natCast, show (15 : Int) = ((15 : Nat) : Int) from rfl, BitVec.ofInt_natCast, BitVec.toNat_ofNat, BitVec.toNat_ofNat]
  have : IntKind.i64.bits = 64 := rfl
  rw [this, Nat.mod_eq_of_lt (by omega), show 15 % 2 ^ 64 = 2 ^ 4 - 1 from rfl, Nat.and_two_pow_sub_one_eq_mod]
  exact wrap64 (by omega) (by omega)
abbrev hexR : ByteArray := ⟨#[48, 49, 50, 51, 52, 53, 54, 55, 56, 57, 97, 98, 99, 100, 101, 102]⟩
theorem hex_digitR : ∀ d : Fin 16, ((hexR.data.toList.getD d.val 0).toNat : Int) = ((hexC d.val).toNat : Int) := by decide +kernel
theorem hex_bAtR {d : Int} {n : Nat} (hd : d = (n : Int)) (h : n < 16) : bAt hexR d = ((hexC n).toNat : Int) := by
  subst hd
  have := hex_digitR ⟨n, h⟩
  simpa [bAt] using this
set_option maxHeartbeats 4000000 in
theorem rhex_spec (n dg : Nat) (h1 : 1 ≤ dg) (h6 : dg ≤ 6) (hn : n < 16 ^ dg) : Spec Tryd.prog 24 [.t (.int .i64 (n : Int)), .t (.int .i64 (dg : Int))] [] (.t (.str (ofL (lowHex dg n)))) [] := by
  have hn6 : n < 16777216 := Nat.lt_of_lt_of_le hn (Nat.pow_le_pow_right (n := 16) (i := dg) (j := 6) (by omega) h6)
  have w0 : IntKind.i64.wrap ((dg : Int) - 1) = (dg : Int) - 1 := by rw [wrap64 (by omega) (by omega)]
  refine spec_intro (env0 := [(0, _), (1, _)]) (st0 := []) Tryd.func24 rfl rfl rfl rfl ?_
  repeat' (first | (with_reducible refine codeT_seq ?_) | (with_reducible refine codeT_block ?_) | (with_reducible refine codeT_regionL ?_) | (with_reducible refine lx_nil ?_) | (with_reducible refine q_then ?_) | ((with_reducible refine g_move ?_); first | refine lx_move (r := (.t _)) rfl rfl rfl rfl rfl ?_) | ((with_reducible refine g_binOp ?_); first | refine lx_arith rfl rfl rfl rfl rfl rfl rfl ?_) | ((with_reducible refine g_assign ?_); first | refine lx_assign (r := (.t _)) rfl rfl rfl rfl rfl ?_))
  rw [w0]
  refine codeT_ghost (ghost_nilL 5 (.loc 905) 5 1 rfl rfl rfl) ?_
  refine codeT_ghost (ghost_keep2 [0, 5, 6] [.loc 905] rfl rfl) ?_
  refine codeT_loop (fun q env st => ∃ (k : Nat) (pre : List UInt8), k ≤ dg ∧ q = k ∧ pre ++ lowHex k n = lowHex dg n ∧
      env = EnvL.get [(0, .t (.int .i64 (n : Int))), (5, .row (.loc 905)), (6, .t (.int .i64 ((k : Int) - 1)))] ∧ st = StO.get [(.loc 905, some (.slt 5 1 (pre.map u8T)))])
    ?_ (n := dg) ⟨dg, [], by omega, rfl, rfl, rfl, rfl⟩
  rintro q env st ⟨k, pre, hk, rfl, hpre, rfl, rfl⟩
  by_cases hlt : 0 < q
  · obtain ⟨m, rfl⟩ : ∃ m, q = m + 1 := ⟨q - 1, by omega⟩
    have hsh : IntKind.u64.wrap (IntKind.i64.wrap (4 * (((m + 1 : Nat) : Int) - 1))) = ((4 * m : Nat) : Int) := by
      rw [wrap64 (by omega) (by omega), wrapU64 (by omega) (by omega)]; omega
    have hmin : min (((4 * m : Nat) : Int)).toNat IntKind.i64.bits = 4 * m := by
      rw [show IntKind.i64.bits = 64 from rfl, Int.toNat_natCast]; omega
    have hdv : (n : Int) / 2 ^ min (IntKind.u64.wrap (IntKind.i64.wrap (4 * (((m + 1 : Nat) : Int) - 1)))).toNat IntKind.i64.bits = ((n / 16 ^ m : Nat) : Int) := by
      rw [hsh, hmin, show (2 : Int) ^ (4 * m) = ((16 ^ m : Nat) : Int) from by rw [show 16 = 2 ^ 4 from rfl, ← Nat.pow_mul]; simp]
      exact (Int.natCast_ediv n (16 ^ m)).symm
    have hle : n / 16 ^ m ≤ n := Nat.div_le_self _ _
    have hV : IntKind.i64.wrap ((BitVec.ofInt IntKind.i64.bits ((n : Int) / 2 ^ min (IntKind.u64.wrap (IntKind.i64.wrap (4 * (((m + 1 : Nat) : Int) - 1)))).toNat IntKind.i64.bits) &&& BitVec.ofInt IntKind.i64.bits 15).toNat : Int) = ((n / 16 ^ m % 16 : Nat) : Int) := by
      rw [hdv]; exact and15i _ (by omega)
    have hlen : pre.length + (m + 1) = dg := by
      have := congrArg List.length hpre
      rwa [List.length_append, lowHex_len, lowHex_len] at this
    have wm : IntKind.i64.wrap (((m + 1 : Nat) : Int) - 1 - 1) = ((m : Nat) : Int) - 1 := by rw [wrap64 (by omega) (by omega)]; omega
    repeat' (first | (with_reducible refine codeT_seq ?_) | (with_reducible refine codeT_block ?_) | (with_reducible refine codeT_skip ?_) | (with_reducible refine codeT_exit ?_) | (with_reducible refine codeT_regionL ?_) | (with_reducible refine lx_nil ?_) | (with_reducible refine q_then ?_) | (with_reducible refine q_then_exit ?_) | (with_reducible refine q_block ?_) | ((with_reducible refine q_block_same ?_ ?_); · rfl) | (with_reducible refine q_loop_exit ?_) | (exfalso; omega) | ((with_reducible refine g_move ?_); first | refine lx_move (r := (.t _)) rfl rfl rfl rfl rfl ?_ | refine lx_move (r := (.row _)) rfl rfl rfl rfl rfl ?_) | ((with_reducible refine g_binOp ?_); first | refine lx_arith rfl rfl rfl rfl rfl rfl rfl ?_ | refine lx_shr rfl rfl rfl rfl rfl rfl ?_ ?_) | ((with_reducible refine g_assign ?_); first | refine lx_assign (r := (.t _)) rfl rfl rfl rfl rfl ?_ | refine lx_assign (r := (.row _)) rfl rfl rfl rfl rfl ?_) | ((with_reducible refine g_index ?_); first | refine lx_index_str rfl rfl rfl rfl rfl rfl ?_ ?_ ?_) | ((with_reducible refine g_convert ?_); first | refine lx_conv_int rfl rfl rfl rfl rfl ?_) | ((with_reducible refine g_buildSlice ?_); first | refine lx_buildSlice rfl rfl rfl rfl rfl rfl rfl ?_) | ((with_reducible refine g_append ?_); first | refine lx_append_row rfl rfl rfl rfl rfl rfl rfl rfl rfl rfl ?_ ?_ ?_) | refine c_condP rfl (fun hc => ?_) (fun hc => ?_))
    all_goals try rw [hV]
    all_goals try omega
    all_goals try (simp only [List.length_map, List.length_cons, List.length_nil]; omega)
    · show ((n / 16 ^ m % 16 : Nat) : Int) < 16
      omega
    rw [show bAt _ ((n / 16 ^ m % 16 : Nat) : Int) = ((hexC (n / 16 ^ m % 16)).toNat : Int) from hex_bAtR rfl (by omega)]
    refine q_loop (n' := m) (by omega) ((ghost_keep2 [0, 5, 6] [.loc 22] rfl rfl).trans (ghost_renL2 (.loc 22) (.loc 905) rfl rfl rfl rfl)) ⟨m, pre ++ [hexC (n / 16 ^ m % 16)], by omega, rfl, ?_, by rw [wm]; rfl, ?_⟩
    · rw [List.append_assoc]; exact hpre
    · rw [List.map_append]; rfl
  · obtain rfl : q = 0 := by omega
    rw [lowHex, List.append_nil] at hpre
    repeat' (first | (with_reducible refine codeT_seq ?_) | (with_reducible refine codeT_ret ?_) | (with_reducible refine codeT_exit ?_) | (with_reducible refine codeT_regionL ?_) | (with_reducible refine lx_nil ?_) | (with_reducible refine q_then ?_) | (with_reducible refine q_then_exit ?_) | ((with_reducible refine q_block_same ?_ ?_); · rfl) | (with_reducible refine q_loop_exit ?_) | refine c_condF rfl ?_ | ((with_reducible refine g_move ?_); first | refine lx_move (r := (.t _)) rfl rfl rfl rfl rfl ?_ | refine lx_move (r := (.row _)) rfl rfl rfl rfl rfl ?_) | ((with_reducible refine g_binOp ?_); first | refine lx_arith rfl rfl rfl rfl rfl rfl rfl ?_) | ((with_reducible refine g_assign ?_); first | refine lx_assign (r := (.t _)) rfl rfl rfl rfl rfl ?_) | ((with_reducible refine g_convert ?_); first | refine lx_ofBytes_row rfl rfl rfl rfl rfl rfl ?_ ?_))
    all_goals try exact isU8_map _
    rw [strT_map, hpre]
    exact q_ret (resT_oneE rfl rfl rfl) (by simp)
set_option maxHeartbeats 4000000 in
theorem RText_spec (v : Vr) (hs : v.p.size ≤ 1000000000) : Spec Tryd.prog 12 [.t v.toT] [] (.tup [.t (.str v.text), .t (.int .i64 v.err)]) [] := by
  have hV := RValid_spec v hs
  by_cases hv : v.valid = true
  · obtain ⟨hf, _, hp, a1, a2, b1, b2, c1, c2⟩ := valid_facts hv
    rw [show v.text = ofL v.txt from if_pos hv, show v.err = 0 from if_pos hv]
    rw [hv] at hV
    have h1 := rhex_spec v.mj.toNat 1 (by omega) (by omega) (by omega)
    have h2 := rhex_spec v.mn.toNat 1 (by omega) (by omega) (by omega)
    have h3 := rhex_spec v.sz.toNat 6 (by omega) (by omega) (by omega)
    rw [Int.toNat_of_nonneg a1] at h1
    rw [Int.toNat_of_nonneg b1] at h2
    rw [Int.toNat_of_nonneg c1] at h3
    have hfl := fname_len v.fm hf
    have hfg : ([⟨#[]⟩, ⟨#[74, 83, 79, 78]⟩, ⟨#[67, 66, 79, 82]⟩, ⟨#[77, 71, 80, 75]⟩] : List ByteArray).getD v.fm.toNat default = ofL (fname v.fm) := by
      obtain h | h | h : v.fm = 1 ∨ v.fm = 2 ∨ v.fm = 3 := by omega
      all_goals rw [h]; rfl
    have ht : ofL v.txt = v.p ++ ofL (lowHex 1 v.mj.toNat) ++ ofL (lowHex 1 v.mn.toNat) ++ ofL (fname v.fm) ++ ofL (lowHex 6 v.sz.toNat) ++ ⟨#[95]⟩ := by
      rw [show (⟨#[95]⟩ : ByteArray) = ofL [95] from rfl]
      conv => rhs; rw [← ofL_data v.p]
      simp only [ofL_app]
      rfl
    rw [ht]
    have s1 : (ofL (lowHex 1 v.mj.toNat)).size = 1 := by rw [ofL_size, lowHex_len]
    have s2 : (ofL (lowHex 1 v.mn.toNat)).size = 1 := by rw [ofL_size, lowHex_len]
    have s3 : (ofL (lowHex 6 v.sz.toNat)).size = 6 := by rw [ofL_size, lowHex_len]
    have s4 : (ofL (fname v.fm)).size = 4 := by rw [ofL_size, hfl]
    have s5 : (⟨#[95]⟩ : ByteArray).size = 1 := rfl
    clear ht
    generalize ofL (lowHex 1 v.mj.toNat) = x1 at *
    generalize ofL (lowHex 1 v.mn.toNat) = x2 at *
    generalize ofL (lowHex 6 v.sz.toNat) = x3 at *
    generalize ofL (fname v.fm) = x4 at *
    unfold Vr.toT at *
    obtain ⟨p, mj, mn, fm, sz⟩ := v
    simp only at *
    clear hv
    refine spec_intro (env0 := [(0, _)]) (st0 := []) Tryd.func12 rfl rfl rfl rfl ?_
    repeat' (first | (with_reducible refine codeT_seq ?_) | (with_reducible refine codeT_skip ?_) | (with_reducible refine codeT_ret ?_) | (with_reducible refine codeT_regionL ?_) | ((with_reducible refine codeT_region_drawL ?_ ?_); · rfl) | (with_reducible refine lx_nil ?_) | (with_reducible refine q_then ?_) | ((with_reducible refine q_region_draw ?_ ?_); · rfl) | refine c_condF rfl ?_ | refine lx_load_elsM (f := T.str) (l := [⟨#[]⟩, ⟨#[74, 83, 79, 78]⟩, ⟨#[67, 66, 79, 82]⟩, ⟨#[77, 71, 80, 75]⟩]) rfl rfl rfl rfl rfl rfl rfl rfl ?_ ?_ | ((with_reducible refine g_load ?_); first | refine lx_load_var rfl rfl rfl rfl rfl rfl rfl rfl ?_ | refine lx_load_varA (r := (.t (.agg _))) rfl rfl rfl rfl rfl rfl rfl rfl rfl ?_) | ((with_reducible refine g_fieldAddr ?_); first | refine lx_fieldAddr rfl rfl rfl rfl rfl rfl rfl ?_) | ((with_reducible refine g_binOp ?_); first | refine lx_concat rfl rfl rfl rfl rfl rfl ?_ ?_) | ((with_reducible refine g_assign ?_); first | refine lx_assign (r := (.t _)) rfl rfl rfl rfl rfl ?_) | ((with_reducible refine g_box ?_); first | refine lx_box (r := (.t (.agg _))) (cs := (List.map .t _)) rfl rfl rfl rfl rfl rfl rfl rfl rfl ?_) | ((with_reducible refine g_indexAddr ?_); first | refine lx_indexAddr_row rfl rfl rfl rfl rfl rfl rfl ?_ ?_ ?_) | ((with_reducible refine g_unOp ?_); first | refine lx_not rfl rfl rfl rfl rfl ?_) | ((with_reducible refine g_buildSlice ?_); first | refine lx_buildSlice rfl rfl rfl rfl rfl rfl rfl ?_) | ((with_reducible refine g_call ?_); first | refine lx_callT rfl rfl hV rfl rfl (ArgsLE.refl _) rfl rfl rfl rfl rfl ?_ | refine lx_callT rfl rfl h1 rfl rfl (ArgsLE.refl _) rfl rfl rfl rfl rfl ?_ | refine lx_callT rfl rfl h2 rfl rfl (ArgsLE.refl _) rfl rfl rfl rfl rfl ?_ | refine lx_callT rfl rfl h3 rfl rfl (ArgsLE.refl _) rfl rfl rfl rfl rfl ?_))
    all_goals try rw [hfg]
    all_goals try (simp only [List.length_cons, List.length_nil]; omega)
    all_goals try (simp only [ByteArray.size_append, s5]; omega)
    all_goals try omega
    exact q_ret (resT_twoE rfl rfl rfl rfl rfl) (by simp)
  · rw [show v.text = ⟨#[]⟩ from if_neg hv, show v.err = 2 from if_neg hv]
    rw [show v.valid = false by simpa using hv] at hV
    unfold Vr.toT at *
    obtain ⟨p, mj, mn, fm, sz⟩ := v
    simp only at *
    clear hv
    refine spec_intro (env0 := [(0, _)]) (st0 := []) Tryd.func12 rfl rfl rfl rfl ?_
    repeat' (first | (with_reducible refine codeT_seq ?_) | (with_reducible refine codeT_ret ?_) | (with_reducible refine codeT_regionL ?_) | (with_reducible refine lx_nil ?_) | (with_reducible refine q_then ?_) | (with_reducible refine q_then_ret ?_) | refine c_condT rfl ?_ | ((with_reducible refine g_load ?_); first | refine lx_load_varA (r := (.t (.agg _))) rfl rfl rfl rfl rfl rfl rfl rfl rfl ?_) | ((with_reducible refine g_assign ?_); first | refine lx_assign (r := (.t _)) rfl rfl rfl rfl rfl ?_) | ((with_reducible refine g_box ?_); first | refine lx_box (r := (.t (.agg _))) (cs := (List.map .t _)) rfl rfl rfl rfl rfl rfl rfl rfl rfl ?_) | ((with_reducible refine g_unOp ?_); first | refine lx_not rfl rfl rfl rfl rfl ?_) | ((with_reducible refine g_call ?_); first | refine lx_callT rfl rfl hV rfl rfl (ArgsLE.refl _) rfl rfl rfl rfl rfl ?_))
    exact q_ret (resT_twoE rfl rfl rfl rfl rfl) (by simp)
end Go.AL
/- What the document's parse of hexadecimal digits answers. -/
set_option linter.unusedVariables false
namespace Go.AL
open Go Go.Proofs Go.RowKit

set_option maxHeartbeats 4000000 in
theorem rparse_spec (s : ByteArray) (hs : s.size ≤ 6) : Spec Tryd.prog 28 [.t (.str s)] [] (.t (.int .i64 (rgo s.data.toList 0))) [] := by
  obtain ⟨L, hL⟩ : ∃ L, L = s.data.toList := ⟨_, rfl⟩
  have hLs : s.size = L.length := by rw [hL]; exact ba_len2 s
  obtain ⟨R, hR⟩ : ∃ R, R = rgo s.data.toList 0 := ⟨_, rfl⟩
  rw [← hR]
  rw [← hL] at hR
  refine spec_intro (env0 := [(0, _)]) (st0 := []) Tryd.func28 rfl rfl rfl rfl ?_
  repeat' (first | (with_reducible refine codeT_seq ?_) | (with_reducible refine codeT_block ?_) | (with_reducible refine codeT_regionL ?_) | (with_reducible refine lx_nil ?_) | (with_reducible refine q_then ?_) | ((with_reducible refine g_move ?_); first | refine lx_move (r := (.t _)) rfl rfl rfl rfl rfl ?_) | ((with_reducible refine g_assign ?_); first | refine lx_assign (r := (.t _)) rfl rfl rfl rfl rfl ?_) | ((with_reducible refine g_len ?_); first | refine lx_len_str rfl rfl rfl rfl rfl ?_))
  refine codeT_ghost (ghost_keep2 [0, 3, 8, 9] [] rfl rfl) ?_
  refine codeT_loop (fun q env st => ∃ (j : Nat) (n : Int), j ≤ s.size ∧ q = s.size - j ∧ 0 ≤ n ∧ n < ((16 ^ j : Nat) : Int) ∧ rgo (L.drop j) n = R ∧
      env = EnvL.get [(0, .t (.str s)), (3, .t (.int .i64 n)), (8, .t (.int .i64 (s.size : Int))), (9, .t (.int .i64 (j : Int)))] ∧ st = StO.get [])
    ?_ (n := s.size) ⟨0, 0, by omega, rfl, by omega, by simp, hR.symm, rfl, rfl⟩
  rintro q env st ⟨j, n, hj, rfl, hn0, hn, hG, rfl, rfl⟩
  by_cases hlt : j < s.size
  · have h1 : (16 : Nat) ^ j ≤ 16 ^ 6 := Nat.pow_le_pow_right (by omega) (by omega)
    have h2 : (16 : Nat) ^ (j + 1) = 16 ^ j * 16 := Nat.pow_succ ..
    generalize hP1 : (16 : Nat) ^ (j + 1) = P1 at *
    generalize (16 : Nat) ^ j = P0 at *
    have hn' : n < 16777216 := by omega
    rw [drop_getD L j (by omega), rgo] at hG
    obtain ⟨b, hbb⟩ : ∃ b, b = s.data.toList.getD j default := ⟨_, rfl⟩
    rw [hL, ← hbb] at hG
    have hBA : bAt s (j : Int) = (b.toNat : Int) := by rw [hbb]; rfl
    have hr := lv_range 16 b
    have wj : IntKind.i64.wrap ((j : Int) + 1) = ((j + 1 : Nat) : Int) := by rw [wrap64 (by omega) (by omega)]; omega
    repeat' (first | (with_reducible refine codeT_seq ?_) | (with_reducible refine codeT_block ?_) | (with_reducible refine codeT_skip ?_) | (with_reducible refine codeT_exit ?_) | (with_reducible refine codeT_regionL ?_) | (with_reducible refine lx_nil ?_) | (with_reducible refine q_then ?_) | (with_reducible refine q_then_exit ?_) | ((with_reducible refine q_block_same ?_ ?_); · rfl) | (with_reducible refine q_loop_exit ?_) | (exfalso; omega) | ((with_reducible refine g_move ?_); first | refine lx_move (r := (.t _)) rfl rfl rfl rfl rfl ?_) | ((with_reducible refine g_binOp ?_); first | refine lx_arith rfl rfl rfl rfl rfl rfl rfl ?_) | ((with_reducible refine g_assign ?_); first | refine lx_assign (r := (.t _)) rfl rfl rfl rfl rfl ?_) | refine c_condP rfl (fun hc => ?_) (fun hc => ?_))
    refine codeT_ghost (ghost_keep2 [0, 3, 4, 5, 8, 9, 12] [] rfl rfl) ?_
    refine codeT_loop (fun q env st => ∃ (k : Nat), k ≤ 16 ∧ q = 16 - k ∧
        env = EnvL.get [(0, .t (.str s)), (3, .t (.int .i64 n)), (4, .t (.int .i64 (j : Int))), (5, .t (.int .i64 (lv k b))), (8, .t (.int .i64 (s.size : Int))), (9, .t (.int .i64 (j : Int))), (12, .t (.int .i64 (k : Int)))] ∧ st = StO.get [])
      ?_ (n := 16) ⟨0, by omega, rfl, rfl, rfl⟩
    rintro q env st ⟨k, hk, rfl, rfl, rfl⟩
    have wk : IntKind.i64.wrap ((k : Int) + 1) = ((k + 1 : Nat) : Int) := by rw [wrap64 (by omega) (by omega)]; omega
    by_cases hk16 : k < 16
    · have hbk : bAt hexR (k : Int) = ((hexC k).toNat : Int) := hex_bAtR rfl hk16
      by_cases he : hexC k = b
      · have hBB : bAt hexR (k : Int) = bAt s (j : Int) := by rw [hbk, hBA, he]
        repeat' (first | (with_reducible refine codeT_seq ?_) | (with_reducible refine codeT_block ?_) | (with_reducible refine codeT_skip ?_) | (with_reducible refine codeT_exit ?_) | (with_reducible refine codeT_regionL ?_) | ((with_reducible refine codeT_region_drawL ?_ ?_); · rfl) | (with_reducible refine lx_nil ?_) | (with_reducible refine q_then ?_) | (with_reducible refine q_then_exit ?_) | (with_reducible refine q_block ?_) | ((with_reducible refine q_block_same ?_ ?_); · rfl) | (with_reducible refine q_loop_exit ?_) | ((with_reducible refine q_region_draw ?_ ?_); · rfl) | (exfalso; omega) | exact absurd hBB ‹_› | ((with_reducible refine g_move ?_); first | refine lx_move (r := (.t _)) rfl rfl rfl rfl rfl ?_) | ((with_reducible refine g_binOp ?_); first | refine lx_arith rfl rfl rfl rfl rfl rfl rfl ?_) | ((with_reducible refine g_assign ?_); first | refine lx_assign (r := (.t _)) rfl rfl rfl rfl rfl ?_) | ((with_reducible refine g_index ?_); first | refine lx_index_str rfl rfl rfl rfl rfl rfl ?_ ?_ ?_) | refine c_condP rfl (fun hc => ?_) (fun hc => ?_))
        all_goals try omega
        · show (k : Int) < 16
          omega
        exact q_loop (n' := 16 - (k + 1)) (by omega) (ghost_keep2 [0, 3, 4, 5, 8, 9, 12] [] rfl rfl) ⟨k + 1, by omega, rfl, by rw [wk, lv, if_pos he]; rfl, rfl⟩
      · have hBB : ¬ bAt hexR (k : Int) = bAt s (j : Int) := by
          rw [hbk, hBA]; intro h
          exact he (UInt8.toNat_inj.1 (by omega))
        repeat' (first | (with_reducible refine codeT_seq ?_) | (with_reducible refine codeT_block ?_) | (with_reducible refine codeT_skip ?_) | (with_reducible refine codeT_exit ?_) | (with_reducible refine codeT_regionL ?_) | ((with_reducible refine codeT_region_drawL ?_ ?_); · rfl) | (with_reducible refine lx_nil ?_) | (with_reducible refine q_then ?_) | (with_reducible refine q_then_exit ?_) | (with_reducible refine q_block ?_) | ((with_reducible refine q_block_same ?_ ?_); · rfl) | (with_reducible refine q_loop_exit ?_) | ((with_reducible refine q_region_draw ?_ ?_); · rfl) | (exfalso; omega) | exact absurd ‹_› hBB | ((with_reducible refine g_move ?_); first | refine lx_move (r := (.t _)) rfl rfl rfl rfl rfl ?_) | ((with_reducible refine g_binOp ?_); first | refine lx_arith rfl rfl rfl rfl rfl rfl rfl ?_) | ((with_reducible refine g_assign ?_); first | refine lx_assign (r := (.t _)) rfl rfl rfl rfl rfl ?_) | ((with_reducible refine g_index ?_); first | refine lx_index_str rfl rfl rfl rfl rfl rfl ?_ ?_ ?_) | refine c_condP rfl (fun hc => ?_) (fun hc => ?_))
        all_goals try omega
        · show (k : Int) < 16
          omega
        exact q_loop (n' := 16 - (k + 1)) (by omega) (ghost_keep2 [0, 3, 4, 5, 8, 9, 12] [] rfl rfl) ⟨k + 1, by omega, rfl, by rw [wk, lv, if_neg he]; rfl, rfl⟩
    · obtain rfl : k = 16 := by omega
      by_cases hneg : lv 16 b < 0
      · rw [if_pos hneg] at hG
        rw [← hG]
        repeat' (first | (with_reducible refine codeT_seq ?_) | (with_reducible refine codeT_skip ?_) | (with_reducible refine codeT_ret ?_) | (with_reducible refine codeT_exit ?_) | (with_reducible refine codeT_regionL ?_) | (with_reducible refine lx_nil ?_) | (with_reducible refine q_then ?_) | (with_reducible refine q_then_exit ?_) | (with_reducible refine q_then_ret ?_) | (with_reducible refine q_block_ret ?_) | ((with_reducible refine q_block_same ?_ ?_); · rfl) | (with_reducible refine q_loop_exit ?_) | (with_reducible refine q_loop_ret ?_) | refine c_condF rfl ?_ | (exfalso; omega) | ((with_reducible refine g_move ?_); first | refine lx_move (r := (.t _)) rfl rfl rfl rfl rfl ?_) | ((with_reducible refine g_binOp ?_); first | refine lx_arith rfl rfl rfl rfl rfl rfl rfl ?_) | ((with_reducible refine g_assign ?_); first | refine lx_assign (r := (.t _)) rfl rfl rfl rfl rfl ?_) | refine c_condP rfl (fun hc => ?_) (fun hc => ?_))
        exact q_ret (resT_oneE rfl rfl rfl) (by simp)
      · rw [if_neg hneg] at hG
        have wn : IntKind.i64.wrap (IntKind.i64.wrap (16 * n) + lv 16 b) = 16 * n + lv 16 b := by rw [wrap64 (n := 16 * n) (by omega) (by omega), wrap64 (by omega) (by omega)]
        repeat' (first | (with_reducible refine codeT_seq ?_) | (with_reducible refine codeT_skip ?_) | (with_reducible refine codeT_exit ?_) | (with_reducible refine codeT_regionL ?_) | (with_reducible refine lx_nil ?_) | (with_reducible refine q_then ?_) | (with_reducible refine q_then_exit ?_) | (with_reducible refine q_block ?_) | ((with_reducible refine q_block_same ?_ ?_); · rfl) | (with_reducible refine q_loop_exit ?_) | refine c_condF rfl ?_ | (exfalso; omega) | ((with_reducible refine g_move ?_); first | refine lx_move (r := (.t _)) rfl rfl rfl rfl rfl ?_) | ((with_reducible refine g_binOp ?_); first | refine lx_arith rfl rfl rfl rfl rfl rfl rfl ?_) | ((with_reducible refine g_assign ?_); first | refine lx_assign (r := (.t _)) rfl rfl rfl rfl rfl ?_) | refine c_condP rfl (fun hc => ?_) (fun hc => ?_))
        exact q_loop (n' := s.size - (j + 1)) (by omega) (ghost_keep2 [0, 3, 8, 9] [] rfl rfl) ⟨j + 1, 16 * n + lv 16 b, by omega, rfl, by omega, by rw [hP1]; omega, by rw [hL]; exact hG, by rw [wj, wn]; rfl, rfl⟩
  · repeat' (first | (with_reducible refine codeT_seq ?_) | (with_reducible refine codeT_block ?_) | (with_reducible refine codeT_skip ?_) | (with_reducible refine codeT_ret ?_) | (with_reducible refine codeT_exit ?_) | (with_reducible refine codeT_regionL ?_) | (with_reducible refine lx_nil ?_) | (with_reducible refine q_then ?_) | (with_reducible refine q_then_exit ?_) | ((with_reducible refine q_block_same ?_ ?_); · rfl) | (with_reducible refine q_loop_exit ?_) | (exfalso; omega) | ((with_reducible refine g_move ?_); first | refine lx_move (r := (.t _)) rfl rfl rfl rfl rfl ?_) | ((with_reducible refine g_binOp ?_); first | refine lx_arith rfl rfl rfl rfl rfl rfl rfl ?_) | ((with_reducible refine g_assign ?_); first | refine lx_assign (r := (.t _)) rfl rfl rfl rfl rfl ?_) | refine c_condP rfl (fun hc => ?_) (fun hc => ?_))
    obtain rfl : j = s.size := by omega
    rw [hLs, List.drop_length, rgo] at hG
    exact q_ret (resT_oneE rfl rfl (congrArg (T.int .i64) hG)) (by simp)
end Go.AL
/- What version.Parse answers. -/
set_option linter.unusedVariables false
namespace Go.AL
open Go Go.Proofs Go.RowKit

theorem ext_ne (s : ByteArray) (i j : Nat) (h : i < j) (hj : j ≤ s.size) : s.extract i j ≠ ⟨#[]⟩ := fun e => by
  have := congrArg ByteArray.size e
  rw [ByteArray.size_extract] at this
  have h2 : (⟨#[]⟩ : ByteArray).size = 0 := rfl
  omega
theorem nm_entry (t : ByteArray) {e : T × T} (he : e ∈ nmL) : ∃ kk nn, e = (.int .i64 kk, .str nn) ∧ kk ≠ 0 ∧ (nn = t → formOf t = kk) := by
  simp only [nmL, List.mem_cons, List.not_mem_nil, or_false] at he
  rcases he with rfl | rfl | rfl
  · exact ⟨1, _, rfl, by omega, fun h => by subst h; rfl⟩
  · exact ⟨2, _, rfl, by omega, fun h => by subst h; rfl⟩
  · exact ⟨3, _, rfl, by omega, fun h => by subst h; rfl⟩
theorem form_entry (t : ByteArray) (h : formOf t ≠ 0) : (T.int .i64 (formOf t), T.str t) ∈ nmL := by
  unfold formOf at *
  by_cases h1 : t = ⟨#[74, 83, 79, 78]⟩
  · subst h1; simp [nmL]
  · by_cases h2 : t = ⟨#[67, 66, 79, 82]⟩
    · subst h2; simp [nmL]
    · by_cases h3 : t = ⟨#[77, 71, 80, 75]⟩
      · subst h3; simp [nmL]
      · simp [h1, h2, h3] at h
set_option maxHeartbeats 8000000 in
theorem VParse_spec {oS oR oD : Obj} (G : GOk oS oR oD) (s : ByteArray) (hs : s.size ≤ 1000000000) : Spec Tryd.prog 16 [.t (.str s)] [(.par 100, .dat (.fix 1 oS)), (.par 101, .dat (.fix 2 oR)), (.par 102, .dat (.fix 5 oD))] (.tup [.t (parseV s).1.toT, .t (.int .i64 (parseV s).2)]) [(.par 100, .dat (.fix 1 oS)), (.par 101, .dat (.fix 2 oR)), (.par 102, .dat (.fix 5 oD))] := by
  by_cases h17 : s.size = 17
  · have n1 := number_spec G (s.extract 4 5) (by rw [ByteArray.size_extract]; omega) (ext_ne s 4 5 (by omega) (by omega))
    have n2 := number_spec G (s.extract 5 6) (by rw [ByteArray.size_extract]; omega) (ext_ne s 5 6 (by omega) (by omega))
    have n3 := number_spec G (s.extract 10 16) (by rw [ByteArray.size_extract]; omega) (ext_ne s 10 16 (by omega) (by omega))
    have hT := VText_spec G (Vr.rd s) (by show (s.extract 0 4).size ≤ _; rw [ByteArray.size_extract]; omega)
    have hN := names_spec
    unfold parseV
    rw [if_pos h17]
    obtain ⟨Y, hY⟩ : ∃ Y, Y = (if (Vr.rd s).err = 0 ∧ (Vr.rd s).text = s then (Vr.rd s, (0 : Int)) else (Vr.zero, 10)) := ⟨_, rfl⟩
    rw [← hY]
    generalize hx : (Vr.rd s).text = tx at *
    generalize he : (Vr.rd s).err = er at *
    unfold Vr.rd Vr.toT at hT
    simp only at hT
    unfold Vr.rd at hY
    clear hx he
    generalize numI (s.extract 4 5) = m1 at *
    generalize numI (s.extract 5 6) = m2 at *
    generalize numI (s.extract 10 16) = m3 at *
    refine spec_intro (env0 := [(0, _)]) (st0 := [(_, some _), (_, some _), (_, some _)]) Tryd.func16 rfl rfl rfl rfl ?_
    repeat' (first | (with_reducible refine codeT_seq ?_) | (with_reducible refine codeT_block ?_) | (with_reducible refine codeT_skip ?_) | (with_reducible refine codeT_regionL ?_) | ((with_reducible refine codeT_region_drawL ?_ ?_); · rfl) | (with_reducible refine lx_nil ?_) | (with_reducible refine q_then ?_) | ((with_reducible refine q_region_draw ?_ ?_); · rfl) | (exfalso; omega) | ((with_reducible refine g_move ?_); first | refine lx_move (r := (.t _)) rfl rfl rfl rfl rfl ?_) | ((with_reducible refine g_binOp ?_); first | refine lx_arith rfl rfl rfl rfl rfl rfl rfl ?_) | ((with_reducible refine g_assign ?_); first | refine lx_assign (r := (.t _)) rfl rfl rfl rfl rfl ?_) | ((with_reducible refine g_alloc ?_); first | refine lx_alloc rfl rfl rfl rfl rfl rfl rfl ?_) | ((with_reducible refine g_store ?_); first | refine lx_store_var (r := (.t (.agg _))) rfl rfl rfl rfl rfl rfl rfl rfl rfl rfl ?_) | ((with_reducible refine g_slice ?_); first | refine lx_slice_str rfl rfl rfl ⟨_, rfl⟩ rfl rfl rfl ?_ ?_ ?_ ?_ | refine lx_slice_str rfl rfl ⟨_, rfl⟩ ⟨_, rfl⟩ rfl rfl rfl ?_ ?_ ?_ ?_) | ((with_reducible refine g_build ?_); first | refine lx_build (r := (.t (.agg _))) rfl rfl rfl rfl rfl rfl rfl ?_) | ((with_reducible refine g_len ?_); first | refine lx_len_str rfl rfl rfl rfl rfl ?_) | ((with_reducible refine g_call ?_); first | refine lx_callR (r' := (.t (.int .i64 m1))) [] rfl rfl n1 (ArgsLE.refl _) rfl ⟨rfl, rfl, rfl, trivial⟩ rfl rfl rfl rfl rfl rfl rfl rfl ?_ | refine lx_callR (r' := (.t (.int .i64 m2))) [] rfl rfl n2 (ArgsLE.refl _) rfl ⟨rfl, rfl, rfl, trivial⟩ rfl rfl rfl rfl rfl rfl rfl rfl ?_ | refine lx_callR (r' := (.t (.int .i64 m3))) [] rfl rfl n3 (ArgsLE.refl _) rfl ⟨rfl, rfl, rfl, trivial⟩ rfl rfl rfl rfl rfl rfl rfl rfl ?_ | refine lx_call (r' := .row (.loc 900)) [(.res 0, .loc 900)] rfl rfl hN (ArgsLE.refl _) rfl trivial rfl rfl rfl rfl rfl rfl rfl rfl rfl rfl ?_) | ((with_reducible refine g_range ?_); first | refine lx_range_map rfl rfl rfl rfl rfl rfl rfl ?_) | refine c_condN rfl (fun hc => ?_) (fun hc => ?_))
    all_goals try omega
    refine codeT_ghost (ghost_keep2 [0, 2, 3, 4, 26] [.loc 2, .loc 4, .loc 26, .par 100, .par 101, .par 102] rfl rfl) ?_
    obtain ⟨t, ht⟩ : ∃ t, t = s.extract 6 10 := ⟨_, rfl⟩
    rw [← ht] at hY hT
    refine codeT_loop (fun q env st => ∃ (left : List (T × T)) (last : Option (T × T)) (f : Int), q = left.length ∧ (∀ e ∈ left, e ∈ nmL) ∧ (f = 0 ∨ f = formOf t) ∧ (f = 0 → formOf t = 0 ∨ ∃ e ∈ left, e.2 = .str t) ∧
        env = EnvL.get [(0, .t (.str s)), (2, .ref (.loc 2) 0 0 0), (3, .t (.int .i64 0)), (4, .ref (.loc 4) 0 0 0), (26, .ref (.loc 26) 0 0 0)] ∧
        st = StO.get [(.loc 2, some (.var 24 [.t (.str ⟨#[]⟩), .t (.int .i64 0), .t (.int .i64 0), .t (.int .i64 0), .t (.int .i64 0)])), (.loc 4, some (.var 24 [.t (.str (s.extract 0 4)), .t (.int .i64 m1), .t (.int .i64 m2), .t (.int .i64 f), .t (.int .i64 m3)])), (.loc 26, some (.dat (.miter last left))), (.par 100, some (.dat (.fix 1 oS))), (.par 101, some (.dat (.fix 2 oR))), (.par 102, some (.dat (.fix 5 oD)))])
      ?_ (n := 3) ⟨nmL, none, 0, rfl, fun e he => he, .inl rfl, fun _ => ?_, rfl, rfl⟩
    · rintro q env st ⟨left, last, f, rfl, hsub, hf, hf0, rfl, rfl⟩
      refine codeT_seq ?_
      refine codeT_next_map rfl rfl rfl rfl rfl rfl (fun h0 => ?_) (fun k v l1 l2 hl => ?_)
      · have hff : f = formOf t := by
          rcases hf with h | h
          · rcases hf0 h with h2 | ⟨e, he, _⟩
            · omega
            · rw [h0] at he; cases he
          · exact h
        subst hff
        by_cases he : er = 0
        · by_cases hx : tx = s
          · repeat' (first | (with_reducible refine codeT_seq ?_) | (with_reducible refine codeT_skip ?_) | (with_reducible refine codeT_ret ?_) | (with_reducible refine codeT_exit ?_) | (with_reducible refine codeT_regionL ?_) | (with_reducible refine lx_nil ?_) | (with_reducible refine q_then ?_) | (with_reducible refine q_then_exit ?_) | ((with_reducible refine q_block_same ?_ ?_); · rfl) | (with_reducible refine q_loop_exit ?_) | refine c_condF rfl ?_ | (exfalso; omega) | exact absurd hx ‹_› | ((with_reducible refine g_move ?_); first | refine lx_move (r := (.t _)) rfl rfl rfl rfl rfl ?_ | refine lx_move (r := (.tup _)) rfl rfl rfl rfl rfl ?_) | ((with_reducible refine g_load ?_); first | refine lx_load_varA (r := (.t (.agg _))) rfl rfl rfl rfl rfl rfl rfl rfl rfl ?_) | ((with_reducible refine g_binOp ?_); first | refine lx_arith rfl rfl rfl rfl rfl rfl rfl ?_ | refine lx_str_ne rfl rfl rfl rfl rfl rfl ?_) | ((with_reducible refine g_assign ?_); first | refine lx_assign (r := (.t _)) rfl rfl rfl rfl rfl ?_) | ((with_reducible refine g_pick ?_); first | refine lx_pickF (r := (.t _)) rfl rfl rfl rfl rfl rfl ?_) | ((with_reducible refine g_store ?_); first | refine lx_store_var (r := (.t (.agg _))) rfl rfl rfl rfl rfl rfl rfl rfl rfl rfl ?_) | ((with_reducible refine g_extract ?_); first | refine lx_extract rfl rfl rfl rfl rfl rfl ?_) | ((with_reducible refine g_call ?_); first | refine lx_callR (r' := (.tup [.t (.str tx), .t (.int .i64 er)])) [] rfl rfl hT (ArgsLE.refl _) rfl ⟨rfl, rfl, rfl, trivial⟩ rfl rfl rfl rfl rfl rfl rfl rfl ?_) | refine c_condN rfl (fun hc => ?_) (fun hc => ?_) | refine lx_splitN rfl (fun hc => ?_) (fun hc => ?_))
            rw [hY, if_pos ⟨he, hx⟩]
            simp only [Vr.toT]
            refine q_ret ?_ (stHas_spec ⟨rfl, rfl, rfl, trivial⟩); refine resT_cell_tmp rfl rfl rfl inferInstance rfl inferInstance rfl ?_ ?_; exact TLe.av (by repeat first | exact TLe.refl _ | exact TLe.nil _ | exact TLe.esl _ | refine TLe.agg ?_ | refine TLs.cons ?_ ?_ | exact TLs.nil); exact AVLE.refl _
          · repeat' (first | (with_reducible refine codeT_seq ?_) | (with_reducible refine codeT_skip ?_) | (with_reducible refine codeT_ret ?_) | (with_reducible refine codeT_exit ?_) | (with_reducible refine codeT_regionL ?_) | (with_reducible refine lx_nil ?_) | (with_reducible refine q_then ?_) | (with_reducible refine q_then_exit ?_) | (with_reducible refine q_then_ret ?_) | ((with_reducible refine q_block_same ?_ ?_); · rfl) | (with_reducible refine q_loop_exit ?_) | refine c_condF rfl ?_ | (exfalso; omega) | exact absurd ‹_› hx | ((with_reducible refine g_move ?_); first | refine lx_move (r := (.t _)) rfl rfl rfl rfl rfl ?_ | refine lx_move (r := (.tup _)) rfl rfl rfl rfl rfl ?_) | ((with_reducible refine g_load ?_); first | refine lx_load_varA (r := (.t (.agg _))) rfl rfl rfl rfl rfl rfl rfl rfl rfl ?_) | ((with_reducible refine g_binOp ?_); first | refine lx_arith rfl rfl rfl rfl rfl rfl rfl ?_ | refine lx_str_ne rfl rfl rfl rfl rfl rfl ?_) | ((with_reducible refine g_assign ?_); first | refine lx_assign (r := (.t _)) rfl rfl rfl rfl rfl ?_) | ((with_reducible refine g_pick ?_); first | refine lx_pickF (r := (.t _)) rfl rfl rfl rfl rfl rfl ?_) | ((with_reducible refine g_store ?_); first | refine lx_store_var (r := (.t (.agg _))) rfl rfl rfl rfl rfl rfl rfl rfl rfl rfl ?_) | ((with_reducible refine g_extract ?_); first | refine lx_extract rfl rfl rfl rfl rfl rfl ?_) | ((with_reducible refine g_build ?_); first | refine lx_build (r := (.t (.agg _))) rfl rfl rfl rfl rfl rfl rfl ?_) | ((with_reducible refine g_call ?_); first | refine lx_callR (r' := (.tup [.t (.str tx), .t (.int .i64 er)])) [] rfl rfl hT (ArgsLE.refl _) rfl ⟨rfl, rfl, rfl, trivial⟩ rfl rfl rfl rfl rfl rfl rfl rfl ?_) | refine c_condN rfl (fun hc => ?_) (fun hc => ?_) | refine lx_splitN rfl (fun hc => ?_) (fun hc => ?_))
            rw [hY, if_neg fun h => hx h.2]
            simp only [Vr.toT, Vr.zero]
            refine q_ret ?_ (stHas_spec ⟨rfl, rfl, rfl, trivial⟩); refine resT_cell_tmp rfl rfl rfl inferInstance rfl inferInstance rfl ?_ ?_; exact TLe.av (by repeat first | exact TLe.refl _ | exact TLe.nil _ | exact TLe.esl _ | refine TLe.agg ?_ | refine TLs.cons ?_ ?_ | exact TLs.nil); exact AVLE.refl _
        · repeat' (first | (with_reducible refine codeT_seq ?_) | (with_reducible refine codeT_ret ?_) | (with_reducible refine codeT_exit ?_) | (with_reducible refine codeT_regionL ?_) | (with_reducible refine lx_nil ?_) | (with_reducible refine q_then ?_) | (with_reducible refine q_then_exit ?_) | (with_reducible refine q_then_ret ?_) | ((with_reducible refine q_block_same ?_ ?_); · rfl) | (with_reducible refine q_loop_exit ?_) | refine c_condT rfl ?_ | refine c_condF rfl ?_ | (exfalso; omega) | ((with_reducible refine g_guard ?_); first | refine lx_skip rfl rfl rfl ?_) | ((with_reducible refine g_move ?_); first | refine lx_move (r := (.t _)) rfl rfl rfl rfl rfl ?_ | refine lx_move (r := (.tup _)) rfl rfl rfl rfl rfl ?_) | ((with_reducible refine g_load ?_); first | refine lx_load_varA (r := (.t (.agg _))) rfl rfl rfl rfl rfl rfl rfl rfl rfl ?_) | ((with_reducible refine g_binOp ?_); first | refine lx_arith rfl rfl rfl rfl rfl rfl rfl ?_) | ((with_reducible refine g_assign ?_); first | refine lx_assign (r := (.t _)) rfl rfl rfl rfl rfl ?_) | ((with_reducible refine g_pick ?_); first | refine lx_pickT (r := (.t _)) rfl rfl rfl rfl rfl rfl ?_) | ((with_reducible refine g_store ?_); first | refine lx_store_var (r := (.t (.agg _))) rfl rfl rfl rfl rfl rfl rfl rfl rfl rfl ?_) | ((with_reducible refine g_extract ?_); first | refine lx_extract rfl rfl rfl rfl rfl rfl ?_) | ((with_reducible refine g_build ?_); first | refine lx_build (r := (.t (.agg _))) rfl rfl rfl rfl rfl rfl rfl ?_) | ((with_reducible refine g_call ?_); first | refine lx_callR (r' := (.tup [.t (.str tx), .t (.int .i64 er)])) [] rfl rfl hT (ArgsLE.refl _) rfl ⟨rfl, rfl, rfl, trivial⟩ rfl rfl rfl rfl rfl rfl rfl rfl ?_) | refine lx_splitN rfl (fun hc => ?_) (fun hc => ?_))
          rw [hY, if_neg fun h => he h.1]
          simp only [Vr.toT, Vr.zero]
          refine q_ret ?_ (stHas_spec ⟨rfl, rfl, rfl, trivial⟩); refine resT_cell_tmp rfl rfl rfl inferInstance rfl inferInstance rfl ?_ ?_; exact TLe.av (by repeat first | exact TLe.refl _ | exact TLe.nil _ | exact TLe.esl _ | refine TLe.agg ?_ | refine TLs.cons ?_ ?_ | exact TLs.nil); exact AVLE.refl _
      · obtain ⟨kk, nn, hkv, hk0, hkt⟩ := nm_entry t (hsub (k, v) (by rw [hl]; simp))
        cases hkv
        by_cases hnt : nn = t
        · have hcc : nn = s.extract 6 10 := by rw [hnt, ht]
          repeat' (first | (with_reducible refine codeT_seq ?_) | (with_reducible refine codeT_block ?_) | (with_reducible refine codeT_skip ?_) | (with_reducible refine codeT_regionL ?_) | (with_reducible refine lx_nil ?_) | (with_reducible refine q_then ?_) | (with_reducible refine q_block ?_) | refine c_condT rfl ?_ | exact absurd hcc ‹_› | ((with_reducible refine g_move ?_); first | refine lx_move (r := (.t _)) rfl rfl rfl rfl rfl ?_) | ((with_reducible refine g_fieldAddr ?_); first | refine lx_fieldAddr rfl rfl rfl rfl rfl rfl rfl ?_) | ((with_reducible refine g_binOp ?_); first | refine lx_str_eq rfl rfl rfl rfl rfl rfl ?_) | ((with_reducible refine g_assign ?_); first | refine lx_assign (r := (.t _)) rfl rfl rfl rfl rfl ?_) | ((with_reducible refine g_store ?_); first | refine lx_store_var (r := (.t _)) rfl rfl rfl rfl rfl rfl rfl rfl rfl rfl ?_) | ((with_reducible refine g_extract ?_); first | refine lx_extract rfl rfl rfl rfl rfl rfl ?_) | ((with_reducible refine g_slice ?_); first | refine lx_slice_str rfl rfl ⟨_, rfl⟩ ⟨_, rfl⟩ rfl rfl rfl ?_ ?_ ?_ ?_) | ((with_reducible refine g_entry ?_); first | refine lx_entry rfl rfl rfl rfl rfl rfl ?_) | refine c_condP rfl (fun hc => ?_) (fun hc => ?_))
          all_goals try omega
          exact q_loop (n' := (l1 ++ l2).length) (by rw [hl]; simp) (ghost_keep2 [0, 2, 3, 4, 26] [.loc 2, .loc 4, .loc 26, .par 100, .par 101, .par 102] rfl rfl) ⟨l1 ++ l2, _, kk, rfl, fun e he => hsub e (by rw [hl]; simp at he ⊢; rcases he with h | h <;> simp [h]), .inr (hkt hnt).symm, fun h => absurd h hk0, rfl, rfl⟩
        · have hcc : ¬ nn = s.extract 6 10 := by rw [← ht]; exact hnt
          repeat' (first | (with_reducible refine codeT_seq ?_) | (with_reducible refine codeT_block ?_) | (with_reducible refine codeT_skip ?_) | (with_reducible refine codeT_regionL ?_) | (with_reducible refine lx_nil ?_) | (with_reducible refine q_then ?_) | (with_reducible refine q_block ?_) | refine c_condT rfl ?_ | exact absurd ‹_› hcc | ((with_reducible refine g_move ?_); first | refine lx_move (r := (.t _)) rfl rfl rfl rfl rfl ?_) | ((with_reducible refine g_binOp ?_); first | refine lx_str_eq rfl rfl rfl rfl rfl rfl ?_) | ((with_reducible refine g_assign ?_); first | refine lx_assign (r := (.t _)) rfl rfl rfl rfl rfl ?_) | ((with_reducible refine g_extract ?_); first | refine lx_extract rfl rfl rfl rfl rfl rfl ?_) | ((with_reducible refine g_slice ?_); first | refine lx_slice_str rfl rfl ⟨_, rfl⟩ ⟨_, rfl⟩ rfl rfl rfl ?_ ?_ ?_ ?_) | ((with_reducible refine g_entry ?_); first | refine lx_entry rfl rfl rfl rfl rfl rfl ?_) | refine c_condP rfl (fun hc => ?_) (fun hc => ?_))
          all_goals try omega
          exact q_loop (n' := (l1 ++ l2).length) (by rw [hl]; simp) (ghost_keep2 [0, 2, 3, 4, 26] [.loc 2, .loc 4, .loc 26, .par 100, .par 101, .par 102] rfl rfl) ⟨l1 ++ l2, _, f, rfl, fun e he => hsub e (by rw [hl]; simp at he ⊢; rcases he with h | h <;> simp [h]), hf, fun h => by
            rcases hf0 h with h2 | ⟨e, he, h2⟩
            · exact .inl h2
            · refine .inr ⟨e, ?_, h2⟩
              rw [hl] at he
              simp only [List.mem_append, List.mem_cons] at he ⊢
              rcases he with h3 | rfl | h3
              · exact .inl h3
              · simp only [T.str.injEq] at h2
                exact absurd h2 hnt
              · exact .inr h3, rfl, rfl⟩
    · by_cases h : formOf t = 0
      · exact .inl h
      · exact .inr ⟨_, form_entry t h, rfl⟩
  · unfold parseV
    rw [if_neg h17]
    refine spec_intro (env0 := [(0, _)]) (st0 := [(_, some _), (_, some _), (_, some _)]) Tryd.func16 rfl rfl rfl rfl ?_
    repeat' (first | (with_reducible refine codeT_seq ?_) | (with_reducible refine codeT_skip ?_) | (with_reducible refine codeT_ret ?_) | (with_reducible refine codeT_regionL ?_) | ((with_reducible refine codeT_region_drawL ?_ ?_); · rfl) | (with_reducible refine lx_nil ?_) | (with_reducible refine q_then ?_) | (with_reducible refine q_then_ret ?_) | (exfalso; omega) | ((with_reducible refine g_move ?_); first | refine lx_move (r := (.t _)) rfl rfl rfl rfl rfl ?_) | ((with_reducible refine g_binOp ?_); first | refine lx_arith rfl rfl rfl rfl rfl rfl rfl ?_) | ((with_reducible refine g_assign ?_); first | refine lx_assign (r := (.t _)) rfl rfl rfl rfl rfl ?_) | ((with_reducible refine g_alloc ?_); first | refine lx_alloc rfl rfl rfl rfl rfl rfl rfl ?_) | ((with_reducible refine g_store ?_); first | refine lx_store_var (r := (.t (.agg _))) rfl rfl rfl rfl rfl rfl rfl rfl rfl rfl ?_) | ((with_reducible refine g_build ?_); first | refine lx_build (r := (.t (.agg _))) rfl rfl rfl rfl rfl rfl rfl ?_) | ((with_reducible refine g_len ?_); first | refine lx_len_str rfl rfl rfl rfl rfl ?_) | refine c_condN rfl (fun hc => ?_) (fun hc => ?_))
    simp only [Vr.toT, Vr.zero]
    refine q_ret ?_ (stHas_spec ⟨rfl, rfl, rfl, trivial⟩); refine resT_cell_tmp rfl rfl rfl inferInstance rfl inferInstance rfl ?_ ?_; exact TLe.av (by repeat first | exact TLe.refl _ | exact TLe.nil _ | exact TLe.esl _ | refine TLe.agg ?_ | refine TLs.cons ?_ ?_ | exact TLs.nil); exact AVLE.refl _
end Go.AL
