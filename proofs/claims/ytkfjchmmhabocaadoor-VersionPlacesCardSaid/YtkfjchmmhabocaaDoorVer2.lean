/- What version.Valid and Text answer, of both sides. -/
import Derived.Test.YtkfjchmmhabocaaDoorVer1
set_option linter.unusedVariables false
namespace Go.AL
open Go Go.Proofs Go.RowKit

theorem nm_some (k : Int) : (mget nmL (.int .i64 k)).isSome = decide (1 ≤ k ∧ k ≤ 3) := by
  simp only [nmL, mget, keyEq]
  by_cases h1 : k = 1
  · simp [h1]
  · by_cases h2 : k = 2
    · simp [h1, h2]
    · by_cases h3 : k = 3
      · simp [h1, h2, h3]
      · simp only [h1, h2, h3, decide_false, Bool.false_eq_true, if_false, Option.isSome_none]
        symm; exact decide_eq_false (by omega)
set_option maxHeartbeats 4000000 in
theorem VValid_spec (v : Vr) (hs : v.p.size ≤ 1000000000) : Spec Tryd.prog 13 [.t v.toT] [] (.t (.bool v.valid)) [] := by
  have hN := names_spec
  have hP := protocol_spec v.p hs
  have hn := nm_some v.fm
  unfold Vr.toT Vr.valid
  generalize isUp v.p = u at *
  obtain ⟨p, mj, mn, fm, sz⟩ := v
  simp only at *
  refine spec_intro (env0 := [(0, _)]) (st0 := []) Tryd.func13 rfl rfl rfl rfl ?_
  repeat' (first | (with_reducible refine codeT_seq ?_) | (with_reducible refine codeT_ret ?_) | (with_reducible refine codeT_regionL ?_) | ((with_reducible refine codeT_region_drawL ?_ ?_); · rfl) | (with_reducible refine lx_nil ?_) | (with_reducible refine q_then ?_) | ((with_reducible refine q_region_draw ?_ ?_); · rfl) | ((with_reducible refine g_guard ?_); first | refine lx_skip rfl rfl rfl ?_) | ((with_reducible refine g_move ?_); first | refine lx_move (r := (.t _)) rfl rfl rfl rfl rfl ?_ | refine lx_move (r := (.tup _)) rfl rfl rfl rfl rfl ?_) | ((with_reducible refine g_load ?_); first | refine lx_load_var rfl rfl rfl rfl rfl rfl rfl rfl ?_) | ((with_reducible refine g_fieldAddr ?_); first | refine lx_fieldAddr rfl rfl rfl rfl rfl rfl rfl ?_) | ((with_reducible refine g_binOp ?_); first | refine lx_arith rfl rfl rfl rfl rfl rfl rfl ?_) | ((with_reducible refine g_assign ?_); first | refine lx_assign (r := (.t _)) rfl rfl rfl rfl rfl ?_) | ((with_reducible refine g_pick ?_); first | refine lx_pickT (r := (.t _)) rfl rfl rfl rfl rfl rfl ?_ | refine lx_pickF (r := (.t _)) rfl rfl rfl rfl rfl rfl ?_) | ((with_reducible refine g_box ?_); first | refine lx_box (r := (.t (.agg _))) (cs := (List.map .t _)) rfl rfl rfl rfl rfl rfl rfl rfl rfl ?_) | ((with_reducible refine g_extract ?_); first | refine lx_extract rfl rfl rfl rfl rfl rfl ?_) | ((with_reducible refine g_lookup ?_); first | refine lx_lookup_ok (zT := .str _) rfl rfl rfl (fun _ => rfl) rfl rfl rfl rfl rfl ?_ ?_) | ((with_reducible refine g_call ?_); first | refine lx_call (r' := .row (.loc 900)) [(.res 0, .loc 900)] rfl rfl hN (ArgsLE.refl _) rfl trivial rfl rfl rfl rfl rfl rfl rfl rfl rfl rfl ?_ | refine lx_callT rfl rfl hP rfl rfl (ArgsLE.refl _) rfl rfl rfl rfl rfl ?_) | refine lx_splitP rfl (fun hc => ?_) (fun hc => ?_) | refine lx_splitB rfl (fun hc => ?_) (fun hc => ?_))
  · rfl
  all_goals refine q_ret (resT_oneE rfl rfl (congrArg T.bool ?_)) (by simp)
  all_goals rw [← hn]
  all_goals clear hn
  all_goals generalize (mget nmL (T.int IntKind.i64 fm)).isSome = m at *
  all_goals cases m <;> cases u <;> simp_all <;> omega
theorem nm_get (k : Int) (h : 1 ≤ k ∧ k ≤ 3) : (mget nmL (.int .i64 k)).getD (.str ⟨#[]⟩) = .str (ofL (fname k)) := by
  obtain rfl | rfl | rfl : k = 1 ∨ k = 2 ∨ k = 3 := by omega
  all_goals rfl
theorem fname_len (k : Int) (h : 1 ≤ k ∧ k ≤ 3) : (fname k).length = 4 := by
  obtain rfl | rfl | rfl : k = 1 ∨ k = 2 ∨ k = 3 := by omega
  all_goals rfl
theorem valid_facts {v : Vr} (h : v.valid = true) : (1 ≤ v.fm ∧ v.fm ≤ 3) ∧ isUp v.p = true ∧ v.p.size = 4 ∧ 0 ≤ v.mj ∧ v.mj ≤ 15 ∧ 0 ≤ v.mn ∧ v.mn ≤ 15 ∧ 0 ≤ v.sz ∧ v.sz ≤ 16777215 := by
  unfold Vr.valid at h
  simp only [Bool.and_eq_true, decide_eq_true_eq] at h
  refine ⟨h.1.1, h.1.2, ?_, h.2⟩
  have := h.1.2
  unfold isUp at this
  simp only [Bool.and_eq_true, decide_eq_true_eq] at this
  exact this.1
theorem ofL_app (a b : List UInt8) : ofL a ++ ofL b = ofL (a ++ b) := by
  apply ByteArray.ext; simp [ofL]
theorem ofL_data (s : ByteArray) : ofL s.data.toList = s := by cases s; rfl
set_option maxHeartbeats 4000000 in
theorem VText_spec {oS oR oD : Obj} (G : GOk oS oR oD) (v : Vr) (hs : v.p.size ≤ 1000000000) : Spec Tryd.prog 11 [.t v.toT] [(.par 100, .dat (.fix 1 oS)), (.par 101, .dat (.fix 2 oR)), (.par 102, .dat (.fix 5 oD))] (.tup [.t (.str v.text), .t (.int .i64 v.err)]) [(.par 100, .dat (.fix 1 oS)), (.par 101, .dat (.fix 2 oR)), (.par 102, .dat (.fix 5 oD))] := by
  have hV := VValid_spec v hs
  have hN := names_spec
  by_cases hv : v.valid = true
  · obtain ⟨hf, _, hp, a1, a2, b1, b2, c1, c2⟩ := valid_facts hv
    rw [show v.text = ofL v.txt from if_pos hv, show v.err = 0 from if_pos hv]
    rw [hv] at hV
    have h1 := vhex_spec G v.mj.toNat 1 (by omega) (by omega) (by omega)
    have h2 := vhex_spec G v.mn.toNat 1 (by omega) (by omega) (by omega)
    have h3 := vhex_spec G v.sz.toNat 6 (by omega) (by omega) (by omega)
    rw [Int.toNat_of_nonneg a1] at h1
    rw [Int.toNat_of_nonneg b1] at h2
    rw [Int.toNat_of_nonneg c1] at h3
    have hg := nm_get v.fm hf
    have hfl := fname_len v.fm hf
    have ht : ofL v.txt = v.p ++ ofL (lowHex 1 v.mj.toNat) ++ ofL (lowHex 1 v.mn.toNat) ++ ofL (fname v.fm) ++ ofL (lowHex 6 v.sz.toNat) ++ ⟨#[95]⟩ := by
      rw [show (⟨#[95]⟩ : ByteArray) = ofL [95] from rfl]
      conv => rhs; rw [← ofL_data v.p]
      simp only [ofL_app]
      rfl
    rw [ht]
    have s1 : (ofL (lowHex 1 v.mj.toNat)).size = 1 := by rw [ofL_size, lowHex_len]
    have s2 : (ofL (lowHex 1 v.mn.toNat)).size = 1 := by rw [ofL_size, lowHex_len]
    have s3 : (ofL (lowHex 6 v.sz.toNat)).size = 6 := by rw [ofL_size, lowHex_len]
    have s4 : (ofL (fname v.fm)).size = 4 := by rw [ofL_size, hfl]
    have s5 : (⟨#[95]⟩ : ByteArray).size = 1 := rfl
    clear ht
    generalize ofL (lowHex 1 v.mj.toNat) = x1 at *
    generalize ofL (lowHex 1 v.mn.toNat) = x2 at *
    generalize ofL (lowHex 6 v.sz.toNat) = x3 at *
    generalize ofL (fname v.fm) = x4 at *
    unfold Vr.toT at *
    obtain ⟨p, mj, mn, fm, sz⟩ := v
    simp only at *
    clear hv
    refine spec_intro (env0 := [(0, _)]) (st0 := [(_, some _), (_, some _), (_, some _)]) Tryd.func11 rfl rfl rfl rfl ?_
    repeat' (first | (with_reducible refine codeT_seq ?_) | (with_reducible refine codeT_skip ?_) | (with_reducible refine codeT_ret ?_) | (with_reducible refine codeT_regionL ?_) | ((with_reducible refine codeT_region_drawL ?_ ?_); · rfl) | (with_reducible refine lx_nil ?_) | (with_reducible refine q_then ?_) | ((with_reducible refine q_region_draw ?_ ?_); · rfl) | refine c_condF rfl ?_ | refine lx_lookup_as rfl rfl rfl rfl hg (fun _ => rfl) rfl rfl rfl rfl rfl ?_ | ((with_reducible refine g_load ?_); first | refine lx_load_var rfl rfl rfl rfl rfl rfl rfl rfl ?_ | refine lx_load_varA (r := (.t (.agg _))) rfl rfl rfl rfl rfl rfl rfl rfl rfl ?_) | ((with_reducible refine g_fieldAddr ?_); first | refine lx_fieldAddr rfl rfl rfl rfl rfl rfl rfl ?_) | ((with_reducible refine g_binOp ?_); first | refine lx_concat rfl rfl rfl rfl rfl rfl ?_ ?_) | ((with_reducible refine g_assign ?_); first | refine lx_assign (r := (.t _)) rfl rfl rfl rfl rfl ?_) | ((with_reducible refine g_box ?_); first | refine lx_box (r := (.t (.agg _))) (cs := (List.map .t _)) rfl rfl rfl rfl rfl rfl rfl rfl rfl ?_) | ((with_reducible refine g_unOp ?_); first | refine lx_not rfl rfl rfl rfl rfl ?_) | ((with_reducible refine g_call ?_); first | refine lx_call (r' := .row (.loc 900)) [(.res 0, .loc 900)] rfl rfl hN (ArgsLE.refl _) rfl trivial rfl rfl rfl rfl rfl rfl rfl rfl rfl rfl ?_ | refine lx_callT rfl rfl hV rfl rfl (ArgsLE.refl _) rfl rfl rfl rfl rfl ?_ | refine lx_call (r' := (.t (.str x1))) [] rfl rfl h1 (ArgsLE.refl _) rfl ⟨rfl, rfl, rfl, trivial⟩ rfl rfl rfl rfl rfl rfl rfl rfl rfl rfl ?_ | refine lx_call (r' := (.t (.str x2))) [] rfl rfl h2 (ArgsLE.refl _) rfl ⟨rfl, rfl, rfl, trivial⟩ rfl rfl rfl rfl rfl rfl rfl rfl rfl rfl ?_ | refine lx_call (r' := (.t (.str x3))) [] rfl rfl h3 (ArgsLE.refl _) rfl ⟨rfl, rfl, rfl, trivial⟩ rfl rfl rfl rfl rfl rfl rfl rfl rfl rfl ?_))
    all_goals try rfl
    all_goals try (simp only [ByteArray.size_append, s5]; omega)
    all_goals try omega
    exact q_ret (resT_twoE rfl rfl rfl rfl rfl) (stHas_spec ⟨rfl, rfl, rfl, trivial⟩)
  · rw [show v.text = ⟨#[]⟩ from if_neg hv, show v.err = 2 from if_neg hv]
    rw [show v.valid = false by simpa using hv] at hV
    unfold Vr.toT at *
    obtain ⟨p, mj, mn, fm, sz⟩ := v
    simp only at *
    clear hv
    refine spec_intro (env0 := [(0, _)]) (st0 := [(_, some _), (_, some _), (_, some _)]) Tryd.func11 rfl rfl rfl rfl ?_
    repeat' (first | (with_reducible refine codeT_seq ?_) | (with_reducible refine codeT_ret ?_) | (with_reducible refine codeT_regionL ?_) | (with_reducible refine lx_nil ?_) | (with_reducible refine q_then ?_) | (with_reducible refine q_then_ret ?_) | refine c_condT rfl ?_ | ((with_reducible refine g_load ?_); first | refine lx_load_varA (r := (.t (.agg _))) rfl rfl rfl rfl rfl rfl rfl rfl rfl ?_) | ((with_reducible refine g_assign ?_); first | refine lx_assign (r := (.t _)) rfl rfl rfl rfl rfl ?_) | ((with_reducible refine g_box ?_); first | refine lx_box (r := (.t (.agg _))) (cs := (List.map .t _)) rfl rfl rfl rfl rfl rfl rfl rfl rfl ?_) | ((with_reducible refine g_unOp ?_); first | refine lx_not rfl rfl rfl rfl rfl ?_) | ((with_reducible refine g_call ?_); first | refine lx_callT rfl rfl hV rfl rfl (ArgsLE.refl _) rfl rfl rfl rfl rfl ?_))
    exact q_ret (resT_twoE rfl rfl rfl rfl rfl) (stHas_spec ⟨rfl, rfl, rfl, trivial⟩)
end Go.AL
/- What the document's Valid, hex and Text of versions answer. -/
set_option linter.unusedVariables false
namespace Go.AL
open Go Go.Proofs Go.RowKit

abbrev hexR : ByteArray := ⟨#[48, 49, 50, 51, 52, 53, 54, 55, 56, 57, 97, 98, 99, 100, 101, 102]⟩
end Go.AL
/- What the document's parse of hexadecimal digits answers. -/
set_option linter.unusedVariables false
namespace Go.AL
open Go Go.Proofs Go.RowKit

end Go.AL
/- What version.Parse answers. -/
set_option linter.unusedVariables false
namespace Go.AL
open Go Go.Proofs Go.RowKit

theorem ext_ne (s : ByteArray) (i j : Nat) (h : i < j) (hj : j ≤ s.size) : s.extract i j ≠ ⟨#[]⟩ := fun e => by
  have := congrArg ByteArray.size e
  rw [ByteArray.size_extract] at this
  have h2 : (⟨#[]⟩ : ByteArray).size = 0 := rfl
  omega
theorem nm_entry (t : ByteArray) {e : T × T} (he : e ∈ nmL) : ∃ kk nn, e = (.int .i64 kk, .str nn) ∧ kk ≠ 0 ∧ (nn = t → formOf t = kk) := by
  simp only [nmL, List.mem_cons, List.not_mem_nil, or_false] at he
  rcases he with rfl | rfl | rfl
  · exact ⟨1, _, rfl, by omega, fun h => by subst h; rfl⟩
  · exact ⟨2, _, rfl, by omega, fun h => by subst h; rfl⟩
  · exact ⟨3, _, rfl, by omega, fun h => by subst h; rfl⟩
theorem form_entry (t : ByteArray) (h : formOf t ≠ 0) : (T.int .i64 (formOf t), T.str t) ∈ nmL := by
  unfold formOf at *
  by_cases h1 : t = ⟨#[74, 83, 79, 78]⟩
  · subst h1; simp [nmL]
  · by_cases h2 : t = ⟨#[67, 66, 79, 82]⟩
    · subst h2; simp [nmL]
    · by_cases h3 : t = ⟨#[77, 71, 80, 75]⟩
      · subst h3; simp [nmL]
      · simp [h1, h2, h3] at h
set_option maxHeartbeats 8000000 in
theorem VParse_spec {oS oR oD : Obj} (G : GOk oS oR oD) (s : ByteArray) (hs : s.size ≤ 1000000000) : Spec Tryd.prog 16 [.t (.str s)] [(.par 100, .dat (.fix 1 oS)), (.par 101, .dat (.fix 2 oR)), (.par 102, .dat (.fix 5 oD))] (.tup [.t (parseV s).1.toT, .t (.int .i64 (parseV s).2)]) [(.par 100, .dat (.fix 1 oS)), (.par 101, .dat (.fix 2 oR)), (.par 102, .dat (.fix 5 oD))] := by
  by_cases h17 : s.size = 17
  · have n1 := number_spec G (s.extract 4 5) (by rw [ByteArray.size_extract]; omega) (ext_ne s 4 5 (by omega) (by omega))
    have n2 := number_spec G (s.extract 5 6) (by rw [ByteArray.size_extract]; omega) (ext_ne s 5 6 (by omega) (by omega))
    have n3 := number_spec G (s.extract 10 16) (by rw [ByteArray.size_extract]; omega) (ext_ne s 10 16 (by omega) (by omega))
    have hT := VText_spec G (Vr.rd s) (by show (s.extract 0 4).size ≤ _; rw [ByteArray.size_extract]; omega)
    have hN := names_spec
    unfold parseV
    rw [if_pos h17]
    obtain ⟨Y, hY⟩ : ∃ Y, Y = (if (Vr.rd s).err = 0 ∧ (Vr.rd s).text = s then (Vr.rd s, (0 : Int)) else (Vr.zero, 10)) := ⟨_, rfl⟩
    rw [← hY]
    generalize hx : (Vr.rd s).text = tx at *
    generalize he : (Vr.rd s).err = er at *
    unfold Vr.rd Vr.toT at hT
    simp only at hT
    unfold Vr.rd at hY
    clear hx he
    generalize numI (s.extract 4 5) = m1 at *
    generalize numI (s.extract 5 6) = m2 at *
    generalize numI (s.extract 10 16) = m3 at *
    refine spec_intro (env0 := [(0, _)]) (st0 := [(_, some _), (_, some _), (_, some _)]) Tryd.func16 rfl rfl rfl rfl ?_
    repeat' (first | (with_reducible refine codeT_seq ?_) | (with_reducible refine codeT_block ?_) | (with_reducible refine codeT_skip ?_) | (with_reducible refine codeT_regionL ?_) | ((with_reducible refine codeT_region_drawL ?_ ?_); · rfl) | (with_reducible refine lx_nil ?_) | (with_reducible refine q_then ?_) | ((with_reducible refine q_region_draw ?_ ?_); · rfl) | (exfalso; omega) | ((with_reducible refine g_move ?_); first | refine lx_move (r := (.t _)) rfl rfl rfl rfl rfl ?_) | ((with_reducible refine g_binOp ?_); first | refine lx_arith rfl rfl rfl rfl rfl rfl rfl ?_) | ((with_reducible refine g_assign ?_); first | refine lx_assign (r := (.t _)) rfl rfl rfl rfl rfl ?_) | ((with_reducible refine g_alloc ?_); first | refine lx_alloc rfl rfl rfl rfl rfl rfl rfl ?_) | ((with_reducible refine g_store ?_); first | refine lx_store_var (r := (.t (.agg _))) rfl rfl rfl rfl rfl rfl rfl rfl rfl rfl ?_) | ((with_reducible refine g_slice ?_); first | refine lx_slice_str rfl rfl rfl ⟨_, rfl⟩ rfl rfl rfl ?_ ?_ ?_ ?_ | refine lx_slice_str rfl rfl ⟨_, rfl⟩ ⟨_, rfl⟩ rfl rfl rfl ?_ ?_ ?_ ?_) | ((with_reducible refine g_build ?_); first | refine lx_build (r := (.t (.agg _))) rfl rfl rfl rfl rfl rfl rfl ?_) | ((with_reducible refine g_len ?_); first | refine lx_len_str rfl rfl rfl rfl rfl ?_) | ((with_reducible refine g_call ?_); first | refine lx_callR (r' := (.t (.int .i64 m1))) [] rfl rfl n1 (ArgsLE.refl _) rfl ⟨rfl, rfl, rfl, trivial⟩ rfl rfl rfl rfl rfl rfl rfl rfl ?_ | refine lx_callR (r' := (.t (.int .i64 m2))) [] rfl rfl n2 (ArgsLE.refl _) rfl ⟨rfl, rfl, rfl, trivial⟩ rfl rfl rfl rfl rfl rfl rfl rfl ?_ | refine lx_callR (r' := (.t (.int .i64 m3))) [] rfl rfl n3 (ArgsLE.refl _) rfl ⟨rfl, rfl, rfl, trivial⟩ rfl rfl rfl rfl rfl rfl rfl rfl ?_ | refine lx_call (r' := .row (.loc 900)) [(.res 0, .loc 900)] rfl rfl hN (ArgsLE.refl _) rfl trivial rfl rfl rfl rfl rfl rfl rfl rfl rfl rfl ?_) | ((with_reducible refine g_range ?_); first | refine lx_range_map rfl rfl rfl rfl rfl rfl rfl ?_) | refine c_condN rfl (fun hc => ?_) (fun hc => ?_))
    all_goals try omega
    refine codeT_ghost (ghost_keep2 [0, 2, 3, 4, 26] [.loc 2, .loc 4, .loc 26, .par 100, .par 101, .par 102] rfl rfl) ?_
    obtain ⟨t, ht⟩ : ∃ t, t = s.extract 6 10 := ⟨_, rfl⟩
    rw [← ht] at hY hT
    refine codeT_loop (fun q env st => ∃ (left : List (T × T)) (last : Option (T × T)) (f : Int), q = left.length ∧ (∀ e ∈ left, e ∈ nmL) ∧ (f = 0 ∨ f = formOf t) ∧ (f = 0 → formOf t = 0 ∨ ∃ e ∈ left, e.2 = .str t) ∧
        env = EnvL.get [(0, .t (.str s)), (2, .ref (.loc 2) 0 0 0), (3, .t (.int .i64 0)), (4, .ref (.loc 4) 0 0 0), (26, .ref (.loc 26) 0 0 0)] ∧
        st = StO.get [(.loc 2, some (.var 24 [.t (.str ⟨#[]⟩), .t (.int .i64 0), .t (.int .i64 0), .t (.int .i64 0), .t (.int .i64 0)])), (.loc 4, some (.var 24 [.t (.str (s.extract 0 4)), .t (.int .i64 m1), .t (.int .i64 m2), .t (.int .i64 f), .t (.int .i64 m3)])), (.loc 26, some (.dat (.miter last left))), (.par 100, some (.dat (.fix 1 oS))), (.par 101, some (.dat (.fix 2 oR))), (.par 102, some (.dat (.fix 5 oD)))])
      ?_ (n := 3) ⟨nmL, none, 0, rfl, fun e he => he, .inl rfl, fun _ => ?_, rfl, rfl⟩
    · rintro q env st ⟨left, last, f, rfl, hsub, hf, hf0, rfl, rfl⟩
      refine codeT_seq ?_
      refine codeT_next_map rfl rfl rfl rfl rfl rfl (fun h0 => ?_) (fun k v l1 l2 hl => ?_)
      · have hff : f = formOf t := by
          rcases hf with h | h
          · rcases hf0 h with h2 | ⟨e, he, _⟩
            · omega
            · rw [h0] at he; cases he
          · exact h
        subst hff
        by_cases he : er = 0
        · by_cases hx : tx = s
          · repeat' (first | (with_reducible refine codeT_seq ?_) | (with_reducible refine codeT_skip ?_) | (with_reducible refine codeT_ret ?_) | (with_reducible refine codeT_exit ?_) | (with_reducible refine codeT_regionL ?_) | (with_reducible refine lx_nil ?_) | (with_reducible refine q_then ?_) | (with_reducible refine q_then_exit ?_) | ((with_reducible refine q_block_same ?_ ?_); · rfl) | (with_reducible refine q_loop_exit ?_) | refine c_condF rfl ?_ | (exfalso; omega) | exact absurd hx ‹_› | ((with_reducible refine g_move ?_); first | refine lx_move (r := (.t _)) rfl rfl rfl rfl rfl ?_ | refine lx_move (r := (.tup _)) rfl rfl rfl rfl rfl ?_) | ((with_reducible refine g_load ?_); first | refine lx_load_varA (r := (.t (.agg _))) rfl rfl rfl rfl rfl rfl rfl rfl rfl ?_) | ((with_reducible refine g_binOp ?_); first | refine lx_arith rfl rfl rfl rfl rfl rfl rfl ?_ | refine lx_str_ne rfl rfl rfl rfl rfl rfl ?_) | ((with_reducible refine g_assign ?_); first | refine lx_assign (r := (.t _)) rfl rfl rfl rfl rfl ?_) | ((with_reducible refine g_pick ?_); first | refine lx_pickF (r := (.t _)) rfl rfl rfl rfl rfl rfl ?_) | ((with_reducible refine g_store ?_); first | refine lx_store_var (r := (.t (.agg _))) rfl rfl rfl rfl rfl rfl rfl rfl rfl rfl ?_) | ((with_reducible refine g_extract ?_); first | refine lx_extract rfl rfl rfl rfl rfl rfl ?_) | ((with_reducible refine g_call ?_); first | refine lx_callR (r' := (.tup [.t (.str tx), .t (.int .i64 er)])) [] rfl rfl hT (ArgsLE.refl _) rfl ⟨rfl, rfl, rfl, trivial⟩ rfl rfl rfl rfl rfl rfl rfl rfl ?_) | refine c_condN rfl (fun hc => ?_) (fun hc => ?_) | refine lx_splitN rfl (fun hc => ?_) (fun hc => ?_))
            rw [hY, if_pos ⟨he, hx⟩]
            simp only [Vr.toT]
            refine q_ret ?_ (stHas_spec ⟨rfl, rfl, rfl, trivial⟩); refine resT_cell_tmp rfl rfl rfl inferInstance rfl inferInstance rfl ?_ ?_; exact TLe.av (by repeat first | exact TLe.refl _ | exact TLe.nil _ | exact TLe.esl _ | refine TLe.agg ?_ | refine TLs.cons ?_ ?_ | exact TLs.nil); exact AVLE.refl _
          · repeat' (first | (with_reducible refine codeT_seq ?_) | (with_reducible refine codeT_skip ?_) | (with_reducible refine codeT_ret ?_) | (with_reducible refine codeT_exit ?_) | (with_reducible refine codeT_regionL ?_) | (with_reducible refine lx_nil ?_) | (with_reducible refine q_then ?_) | (with_reducible refine q_then_exit ?_) | (with_reducible refine q_then_ret ?_) | ((with_reducible refine q_block_same ?_ ?_); · rfl) | (with_reducible refine q_loop_exit ?_) | refine c_condF rfl ?_ | (exfalso; omega) | exact absurd ‹_› hx | ((with_reducible refine g_move ?_); first | refine lx_move (r := (.t _)) rfl rfl rfl rfl rfl ?_ | refine lx_move (r := (.tup _)) rfl rfl rfl rfl rfl ?_) | ((with_reducible refine g_load ?_); first | refine lx_load_varA (r := (.t (.agg _))) rfl rfl rfl rfl rfl rfl rfl rfl rfl ?_) | ((with_reducible refine g_binOp ?_); first | refine lx_arith rfl rfl rfl rfl rfl rfl rfl ?_ | refine lx_str_ne rfl rfl rfl rfl rfl rfl ?_) | ((with_reducible refine g_assign ?_); first | refine lx_assign (r := (.t _)) rfl rfl rfl rfl rfl ?_) | ((with_reducible refine g_pick ?_); first | refine lx_pickF (r := (.t _)) rfl rfl rfl rfl rfl rfl ?_) | ((with_reducible refine g_store ?_); first | refine lx_store_var (r := (.t (.agg _))) rfl rfl rfl rfl rfl rfl rfl rfl rfl rfl ?_) | ((with_reducible refine g_extract ?_); first | refine lx_extract rfl rfl rfl rfl rfl rfl ?_) | ((with_reducible refine g_build ?_); first | refine lx_build (r := (.t (.agg _))) rfl rfl rfl rfl rfl rfl rfl ?_) | ((with_reducible refine g_call ?_); first | refine lx_callR (r' := (.tup [.t (.str tx), .t (.int .i64 er)])) [] rfl rfl hT (ArgsLE.refl _) rfl ⟨rfl, rfl, rfl, trivial⟩ rfl rfl rfl rfl rfl rfl rfl rfl ?_) | refine c_condN rfl (fun hc => ?_) (fun hc => ?_) | refine lx_splitN rfl (fun hc => ?_) (fun hc => ?_))
            rw [hY, if_neg fun h => hx h.2]
            simp only [Vr.toT, Vr.zero]
            refine q_ret ?_ (stHas_spec ⟨rfl, rfl, rfl, trivial⟩); refine resT_cell_tmp rfl rfl rfl inferInstance rfl inferInstance rfl ?_ ?_; exact TLe.av (by repeat first | exact TLe.refl _ | exact TLe.nil _ | exact TLe.esl _ | refine TLe.agg ?_ | refine TLs.cons ?_ ?_ | exact TLs.nil); exact AVLE.refl _
        · repeat' (first | (with_reducible refine codeT_seq ?_) | (with_reducible refine codeT_ret ?_) | (with_reducible refine codeT_exit ?_) | (with_reducible refine codeT_regionL ?_) | (with_reducible refine lx_nil ?_) | (with_reducible refine q_then ?_) | (with_reducible refine q_then_exit ?_) | (with_reducible refine q_then_ret ?_) | ((with_reducible refine q_block_same ?_ ?_); · rfl) | (with_reducible refine q_loop_exit ?_) | refine c_condT rfl ?_ | refine c_condF rfl ?_ | (exfalso; omega) | ((with_reducible refine g_guard ?_); first | refine lx_skip rfl rfl rfl ?_) | ((with_reducible refine g_move ?_); first | refine lx_move (r := (.t _)) rfl rfl rfl rfl rfl ?_ | refine lx_move (r := (.tup _)) rfl rfl rfl rfl rfl ?_) | ((with_reducible refine g_load ?_); first | refine lx_load_varA (r := (.t (.agg _))) rfl rfl rfl rfl rfl rfl rfl rfl rfl ?_) | ((with_reducible refine g_binOp ?_); first | refine lx_arith rfl rfl rfl rfl rfl rfl rfl ?_) | ((with_reducible refine g_assign ?_); first | refine lx_assign (r := (.t _)) rfl rfl rfl rfl rfl ?_) | ((with_reducible refine g_pick ?_); first | refine lx_pickT (r := (.t _)) rfl rfl rfl rfl rfl rfl ?_) | ((with_reducible refine g_store ?_); first | refine lx_store_var (r := (.t (.agg _))) rfl rfl rfl rfl rfl rfl rfl rfl rfl rfl ?_) | ((with_reducible refine g_extract ?_); first | refine lx_extract rfl rfl rfl rfl rfl rfl ?_) | ((with_reducible refine g_build ?_); first | refine lx_build (r := (.t (.agg _))) rfl rfl rfl rfl rfl rfl rfl ?_) | ((with_reducible refine g_call ?_); first | refine lx_callR (r' := (.tup [.t (.str tx), .t (.int .i64 er)])) [] rfl rfl hT (ArgsLE.refl _) rfl ⟨rfl, rfl, rfl, trivial⟩ rfl rfl rfl rfl rfl rfl rfl rfl ?_) | refine lx_splitN rfl (fun hc => ?_) (fun hc => ?_))
          rw [hY, if_neg fun h => he h.1]
          simp only [Vr.toT, Vr.zero]
          refine q_ret ?_ (stHas_spec ⟨rfl, rfl, rfl, trivial⟩); refine resT_cell_tmp rfl rfl rfl inferInstance rfl inferInstance rfl ?_ ?_; exact TLe.av (by repeat first | exact TLe.refl _ | exact TLe.nil _ | exact TLe.esl _ | refine TLe.agg ?_ | refine TLs.cons ?_ ?_ | exact TLs.nil); exact AVLE.refl _
      · obtain ⟨kk, nn, hkv, hk0, hkt⟩ := nm_entry t (hsub (k, v) (by rw [hl]; simp))
        cases hkv
        by_cases hnt : nn = t
        · have hcc : nn = s.extract 6 10 := by rw [hnt, ht]
          repeat' (first | (with_reducible refine codeT_seq ?_) | (with_reducible refine codeT_block ?_) | (with_reducible refine codeT_skip ?_) | (with_reducible refine codeT_regionL ?_) | (with_reducible refine lx_nil ?_) | (with_reducible refine q_then ?_) | (with_reducible refine q_block ?_) | refine c_condT rfl ?_ | exact absurd hcc ‹_› | ((with_reducible refine g_move ?_); first | refine lx_move (r := (.t _)) rfl rfl rfl rfl rfl ?_) | ((with_reducible refine g_fieldAddr ?_); first | refine lx_fieldAddr rfl rfl rfl rfl rfl rfl rfl ?_) | ((with_reducible refine g_binOp ?_); first | refine lx_str_eq rfl rfl rfl rfl rfl rfl ?_) | ((with_reducible refine g_assign ?_); first | refine lx_assign (r := (.t _)) rfl rfl rfl rfl rfl ?_) | ((with_reducible refine g_store ?_); first | refine lx_store_var (r := (.t _)) rfl rfl rfl rfl rfl rfl rfl rfl rfl rfl ?_) | ((with_reducible refine g_extract ?_); first | refine lx_extract rfl rfl rfl rfl rfl rfl ?_) | ((with_reducible refine g_slice ?_); first | refine lx_slice_str rfl rfl ⟨_, rfl⟩ ⟨_, rfl⟩ rfl rfl rfl ?_ ?_ ?_ ?_) | ((with_reducible refine g_entry ?_); first | refine lx_entry rfl rfl rfl rfl rfl rfl ?_) | refine c_condP rfl (fun hc => ?_) (fun hc => ?_))
          all_goals try omega
          exact q_loop (n' := (l1 ++ l2).length) (by rw [hl]; simp) (ghost_keep2 [0, 2, 3, 4, 26] [.loc 2, .loc 4, .loc 26, .par 100, .par 101, .par 102] rfl rfl) ⟨l1 ++ l2, _, kk, rfl, fun e he => hsub e (by rw [hl]; simp at he ⊢; rcases he with h | h <;> simp [h]), .inr (hkt hnt).symm, fun h => absurd h hk0, rfl, rfl⟩
        · have hcc : ¬ nn = s.extract 6 10 := by rw [← ht]; exact hnt
          repeat' (first | (with_reducible refine codeT_seq ?_) | (with_reducible refine codeT_block ?_) | (with_reducible refine codeT_skip ?_) | (with_reducible refine codeT_regionL ?_) | (with_reducible refine lx_nil ?_) | (with_reducible refine q_then ?_) | (with_reducible refine q_block ?_) | refine c_condT rfl ?_ | exact absurd ‹_› hcc | ((with_reducible refine g_move ?_); first | refine lx_move (r := (.t _)) rfl rfl rfl rfl rfl ?_) | ((with_reducible refine g_binOp ?_); first | refine lx_str_eq rfl rfl rfl rfl rfl rfl ?_) | ((with_reducible refine g_assign ?_); first | refine lx_assign (r := (.t _)) rfl rfl rfl rfl rfl ?_) | ((with_reducible refine g_extract ?_); first | refine lx_extract rfl rfl rfl rfl rfl rfl ?_) | ((with_reducible refine g_slice ?_); first | refine lx_slice_str rfl rfl ⟨_, rfl⟩ ⟨_, rfl⟩ rfl rfl rfl ?_ ?_ ?_ ?_) | ((with_reducible refine g_entry ?_); first | refine lx_entry rfl rfl rfl rfl rfl rfl ?_) | refine c_condP rfl (fun hc => ?_) (fun hc => ?_))
          all_goals try omega
          exact q_loop (n' := (l1 ++ l2).length) (by rw [hl]; simp) (ghost_keep2 [0, 2, 3, 4, 26] [.loc 2, .loc 4, .loc 26, .par 100, .par 101, .par 102] rfl rfl) ⟨l1 ++ l2, _, f, rfl, fun e he => hsub e (by rw [hl]; simp at he ⊢; rcases he with h | h <;> simp [h]), hf, fun h => by
            rcases hf0 h with h2 | ⟨e, he, h2⟩
            · exact .inl h2
            · refine .inr ⟨e, ?_, h2⟩
              rw [hl] at he
              simp only [List.mem_append, List.mem_cons] at he ⊢
              rcases he with h3 | rfl | h3
              · exact .inl h3
              · simp only [T.str.injEq] at h2
                exact absurd h2 hnt
              · exact .inr h3, rfl, rfl⟩
    · by_cases h : formOf t = 0
      · exact .inl h
      · exact .inr ⟨_, form_entry t h, rfl⟩
  · unfold parseV
    rw [if_neg h17]
    refine spec_intro (env0 := [(0, _)]) (st0 := [(_, some _), (_, some _), (_, some _)]) Tryd.func16 rfl rfl rfl rfl ?_
    repeat' (first | (with_reducible refine codeT_seq ?_) | (with_reducible refine codeT_skip ?_) | (with_reducible refine codeT_ret ?_) | (with_reducible refine codeT_regionL ?_) | ((with_reducible refine codeT_region_drawL ?_ ?_); · rfl) | (with_reducible refine lx_nil ?_) | (with_reducible refine q_then ?_) | (with_reducible refine q_then_ret ?_) | (exfalso; omega) | ((with_reducible refine g_move ?_); first | refine lx_move (r := (.t _)) rfl rfl rfl rfl rfl ?_) | ((with_reducible refine g_binOp ?_); first | refine lx_arith rfl rfl rfl rfl rfl rfl rfl ?_) | ((with_reducible refine g_assign ?_); first | refine lx_assign (r := (.t _)) rfl rfl rfl rfl rfl ?_) | ((with_reducible refine g_alloc ?_); first | refine lx_alloc rfl rfl rfl rfl rfl rfl rfl ?_) | ((with_reducible refine g_store ?_); first | refine lx_store_var (r := (.t (.agg _))) rfl rfl rfl rfl rfl rfl rfl rfl rfl rfl ?_) | ((with_reducible refine g_build ?_); first | refine lx_build (r := (.t (.agg _))) rfl rfl rfl rfl rfl rfl rfl ?_) | ((with_reducible refine g_len ?_); first | refine lx_len_str rfl rfl rfl rfl rfl ?_) | refine c_condN rfl (fun hc => ?_) (fun hc => ?_))
    simp only [Vr.toT, Vr.zero]
    refine q_ret ?_ (stHas_spec ⟨rfl, rfl, rfl, trivial⟩); refine resT_cell_tmp rfl rfl rfl inferInstance rfl inferInstance rfl ?_ ?_; exact TLe.av (by repeat first | exact TLe.refl _ | exact TLe.nil _ | exact TLe.esl _ | refine TLe.agg ?_ | refine TLs.cons ?_ ?_ | exact TLs.nil); exact AVLE.refl _
end Go.AL
