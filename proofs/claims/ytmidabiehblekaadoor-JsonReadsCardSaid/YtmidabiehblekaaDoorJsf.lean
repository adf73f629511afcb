/- What json's reader answers: text. -/
import Derived.Test.YtmidabiehblekaaDoorJse
set_option linter.unusedVariables false
namespace Go.AL
open Go Go.Proofs Go.RowKit

theorem u8L_snocI (l : List UInt8) (c : Int) (h0 : 0 ≤ c) (h1 : c < 256) : u8L l ++ [T.int .u8 c] = u8L (l ++ [UInt8.ofNat c.toNat]) := by
  rw [u8L_append]
  congr 1
  show [T.int .u8 c] = [T.int .u8 ((UInt8.ofNat c.toNat).toNat : Int)]
  rw [UInt8.toNat_ofNat', Nat.mod_eq_of_lt (by omega), Int.toNat_of_nonneg h0]
set_option maxHeartbeats 8000000 in
theorem jText_call {oS oR : Obj} (G : EOk oS oR) (r : Rs) (hs : r.s.size ≤ 1000000) : Spec Tryd.prog 45 [.ref (.par 0) 0 0 0] [(.par 0, r.row 60), (.par 103, .dat (.fix 3 oS)), (.par 104, .dat (.fix 4 oR))] (.t (.str (jTextR r).1)) [(.par 0, (jTextR r).2.row 60), (.par 103, .dat (.fix 3 oS)), (.par 104, .dat (.fix 4 oR))] := by
  have hX := jExpect_spec r qS (by omega)
  have hXl := expect_le r qS
  obtain ⟨res, hres⟩ : ∃ res, res = jTextR r := ⟨_, rfl⟩
  rw [← hres]
  unfold jTextR at hres
  generalize r.expect qS = q0 at *
  obtain ⟨s, bad⟩ := r
  obtain ⟨q0s, q0b⟩ := q0
  unfold Rs.row at *
  simp only at hX hXl hres hs ⊢
  refine spec_introG (env0 := [(0, _)]) (st0 := [(_, some _), (_, some _), (_, some _)]) Tryd.func45 rfl rfl rfl rfl ?_
  repeat' (first | (with_reducible refine codeT_seq ?_) | (with_reducible refine codeT_block ?_) | (with_reducible refine codeT_regionL ?_) | (with_reducible refine lx_nil ?_) | (with_reducible refine q_then ?_) | ((with_reducible refine g_move ?_); first | refine lx_move (r := (.ref _ _ _ _)) rfl rfl rfl rfl rfl ?_) | ((with_reducible refine g_assign ?_); first | refine lx_assign (r := (.t _)) rfl rfl rfl rfl rfl ?_) | ((with_reducible refine g_call ?_); first | refine lx_call (r' := .tup []) [] rfl rfl hX (ArgsLE.refl _) rfl ⟨rfl, trivial⟩ rfl rfl rfl rfl rfl rfl rfl rfl rfl rfl ?_))
  refine codeT_ghost (ghost_nilL 3 (.loc 1000) 5 1 rfl rfl rfl) ?_
  refine codeT_ghost (ghost_keep2 [0, 3] [.par 0, .loc 1000, .par 103, .par 104] rfl rfl) ?_
  refine codeT_loop (fun m env st => ∃ (out : List UInt8) (q : Rs), q.s.size ≤ 1000000 ∧ (q.bad = false → q.s.size + 1 ≤ m) ∧ out.length + m ≤ 1000002 ∧ res = jTextL m out q ∧
      env = EnvL.get [(0, .ref (.par 0) 0 0 0), (3, .row (.loc 1000))] ∧
      st = StO.get [(.par 0, some (.var 60 [.t (.str q.s), .t (.bool q.bad)])), (.loc 1000, some (.slt 5 1 (u8L out))), (.par 103, some (.dat (.fix 3 oS))), (.par 104, some (.dat (.fix 4 oR)))])
    ?_ (n := s.size + 2) ⟨[], ⟨q0s, q0b⟩, by simp only; omega, fun _ => by simp only; omega, by simp only [List.length_nil]; omega, hres, rfl, rfl⟩
  rintro m env st ⟨out, ⟨qs, qb⟩, hq, hm, hol, hi, rfl, rfl⟩
  simp only at hq hm ⊢
  clear hX hres
  cases qb with
  | true =>
    have hi2 : res = (eS, ⟨qs, true⟩) := by
      rw [hi]
      cases m with
      | zero => rfl
      | succ m => rw [jTextL, if_pos rfl]
    rw [hi2]
    repeat' (first | (with_reducible refine codeT_seq ?_) | (with_reducible refine codeT_ret ?_) | (with_reducible refine codeT_exit ?_) | (with_reducible refine codeT_regionL ?_) | (with_reducible refine lx_nil ?_) | (with_reducible refine q_then ?_) | (with_reducible refine q_then_exit ?_) | ((with_reducible refine q_block_same ?_ ?_); · rfl) | (with_reducible refine q_loop_exit ?_) | refine c_condF rfl ?_ | ((with_reducible refine g_move ?_); first | refine lx_move (r := (.ref _ _ _ _)) rfl rfl rfl rfl rfl ?_) | ((with_reducible refine g_load ?_); first | refine lx_load_var rfl rfl rfl rfl rfl rfl rfl rfl ?_) | ((with_reducible refine g_fieldAddr ?_); first | refine lx_fieldAddr rfl rfl rfl rfl rfl rfl rfl ?_) | ((with_reducible refine g_assign ?_); first | refine lx_assign (r := (.t _)) rfl rfl rfl rfl rfl ?_) | ((with_reducible refine g_nilCheck ?_); first | refine lx_nilCheck (r := (.ref _ _ _ _)) rfl rfl rfl rfl rfl rfl ?_) | ((with_reducible refine g_unOp ?_); first | refine lx_not rfl rfl rfl rfl rfl ?_))
    exact q_done (q_ret (resT_oneE rfl rfl rfl) (stHas_spec ⟨rfl, rfl, rfl, trivial⟩))
  | false =>
    have hm1 := hm rfl
    obtain ⟨m, rfl⟩ : ∃ k, m = k + 1 := ⟨m - 1, by omega⟩
    rw [jTextL, if_neg (by simp)] at hi
    have hB := Byte_spec 60 ⟨qs, false⟩ (by simp only; omega)
    have hbl := byte_le ⟨qs, false⟩
    have hbr := byte_range ⟨qs, false⟩
    have hbg : (Rs.byte ⟨qs, false⟩).2.bad = false → (Rs.byte ⟨qs, false⟩).2.s.size + 1 = qs.size := fun h => (byte_good h).2
    generalize Rs.byte ⟨qs, false⟩ = b at *
    obtain ⟨c, z⟩ := b
    simp only at hB hbl hbr hbg hi
    have hE := jEscape_spec G z (by omega)
    have hEl := jEscR_le z
    have hEr := jEscR_range z
    have hEg := @jEscR_good z
    generalize jEscR z = e at *
    obtain ⟨v, y⟩ := e
    obtain ⟨zs, zb⟩ := z
    obtain ⟨ys, yb⟩ := y
    unfold Rs.row at *
    simp only at hB hbl hbr hbg hE hEl hEr hEg hi
    by_cases h34 : c = 34
    · rw [if_pos h34] at hi
      rw [hi]
      repeat' (first | (with_reducible refine codeT_seq ?_) | (with_reducible refine codeT_block ?_) | (with_reducible refine codeT_skip ?_) | (with_reducible refine codeT_ret ?_) | (with_reducible refine codeT_regionL ?_) | (with_reducible refine lx_nil ?_) | (with_reducible refine q_then ?_) | (with_reducible refine q_then_ret ?_) | (with_reducible refine q_block_ret ?_) | (with_reducible refine q_loop_ret ?_) | refine c_condT rfl ?_ | (exfalso; omega) | ((with_reducible refine g_move ?_); first | refine lx_move (r := (.t _)) rfl rfl rfl rfl rfl ?_ | refine lx_move (r := (.ref _ _ _ _)) rfl rfl rfl rfl rfl ?_ | refine lx_move (r := (.row _)) rfl rfl rfl rfl rfl ?_) | ((with_reducible refine g_load ?_); first | refine lx_load_var rfl rfl rfl rfl rfl rfl rfl rfl ?_) | ((with_reducible refine g_fieldAddr ?_); first | refine lx_fieldAddr rfl rfl rfl rfl rfl rfl rfl ?_) | ((with_reducible refine g_binOp ?_); first | refine lx_arith rfl rfl rfl rfl rfl rfl rfl ?_) | ((with_reducible refine g_assign ?_); first | refine lx_assign (r := (.t _)) rfl rfl rfl rfl rfl ?_) | ((with_reducible refine g_nilCheck ?_); first | refine lx_nilCheck (r := (.ref _ _ _ _)) rfl rfl rfl rfl rfl rfl ?_) | ((with_reducible refine g_unOp ?_); first | refine lx_not rfl rfl rfl rfl rfl ?_) | ((with_reducible refine g_convert ?_); first | refine lx_ofBytes_row rfl rfl rfl rfl rfl rfl ?_ ?_) | ((with_reducible refine g_call ?_); first | refine lx_call (r' := .t (.int .u8 c)) [] rfl rfl hB (ArgsLE.refl _) rfl ⟨rfl, trivial⟩ rfl rfl rfl rfl rfl rfl rfl rfl rfl rfl ?_) | refine c_condP rfl (fun hc => ?_) (fun hc => ?_))
      all_goals try exact u8L_isU8 _
      exact q_done (q_ret (resT_oneE rfl rfl (congrArg T.str (by rw [strT_u8L]))) (stHas_spec ⟨rfl, rfl, rfl, trivial⟩))
    rw [if_neg h34] at hi
    by_cases h92 : c = 92
    · rw [if_pos h92] at hi
      repeat' (first | (with_reducible refine codeT_seq ?_) | (with_reducible refine codeT_block ?_) | (with_reducible refine codeT_skip ?_) | (with_reducible refine codeT_regionL ?_) | (with_reducible refine lx_nil ?_) | (with_reducible refine q_then ?_) | (with_reducible refine q_block ?_) | refine c_condT rfl ?_ | (exfalso; omega) | ((with_reducible refine g_move ?_); first | refine lx_move (r := (.t _)) rfl rfl rfl rfl rfl ?_ | refine lx_move (r := (.ref _ _ _ _)) rfl rfl rfl rfl rfl ?_ | refine lx_move (r := (.row _)) rfl rfl rfl rfl rfl ?_) | ((with_reducible refine g_load ?_); first | refine lx_load_var rfl rfl rfl rfl rfl rfl rfl rfl ?_) | ((with_reducible refine g_fieldAddr ?_); first | refine lx_fieldAddr rfl rfl rfl rfl rfl rfl rfl ?_) | ((with_reducible refine g_binOp ?_); first | refine lx_arith rfl rfl rfl rfl rfl rfl rfl ?_) | ((with_reducible refine g_assign ?_); first | refine lx_assign (r := (.t _)) rfl rfl rfl rfl rfl ?_ | refine lx_assign (r := (.row _)) rfl rfl rfl rfl rfl ?_) | ((with_reducible refine g_nilCheck ?_); first | refine lx_nilCheck (r := (.ref _ _ _ _)) rfl rfl rfl rfl rfl rfl ?_) | ((with_reducible refine g_unOp ?_); first | refine lx_not rfl rfl rfl rfl rfl ?_) | ((with_reducible refine g_buildSlice ?_); first | refine lx_buildSlice rfl rfl rfl rfl rfl rfl rfl ?_) | ((with_reducible refine g_append ?_); first | refine lx_append_row rfl rfl rfl rfl rfl rfl rfl rfl rfl rfl ?_ ?_ ?_) | ((with_reducible refine g_call ?_); first | refine lx_call (r' := .t (.int .u8 c)) [] rfl rfl hB (ArgsLE.refl _) rfl ⟨rfl, trivial⟩ rfl rfl rfl rfl rfl rfl rfl rfl rfl rfl ?_ | refine lx_call (r' := .t (.int .u8 v)) [] rfl rfl hE (ArgsLE.refl _) rfl ⟨rfl, rfl, rfl, trivial⟩ rfl rfl rfl rfl rfl rfl rfl rfl rfl rfl ?_) | refine c_condP rfl (fun hc => ?_) (fun hc => ?_))
      all_goals try (simp only [u8L_len, List.length_singleton]; omega)
      exact q_loop (n' := m) (by omega) ((ghost_keep2 [0, 3] [.par 0, .loc 32, .par 103, .par 104] rfl rfl).trans (ghost_renL2 (.loc 32) (.loc 1000) rfl rfl rfl rfl)) ⟨out ++ [UInt8.ofNat v.toNat], ⟨ys, yb⟩, by simp only; omega, fun h => by
        have h1 := hEg h
        have h2 := hbg h1.1
        have h3 := h1.2
        simp only at h3 ⊢; omega, by simp only [List.length_append, List.length_singleton]; omega, hi, rfl, by rw [← u8L_snocI out v hEr.1 hEr.2]; rfl⟩
    · rw [if_neg h92] at hi
      repeat' (first | (with_reducible refine codeT_seq ?_) | (with_reducible refine codeT_block ?_) | (with_reducible refine codeT_skip ?_) | (with_reducible refine codeT_regionL ?_) | (with_reducible refine lx_nil ?_) | (with_reducible refine q_then ?_) | (with_reducible refine q_block ?_) | refine c_condT rfl ?_ | (exfalso; omega) | ((with_reducible refine g_move ?_); first | refine lx_move (r := (.t _)) rfl rfl rfl rfl rfl ?_ | refine lx_move (r := (.ref _ _ _ _)) rfl rfl rfl rfl rfl ?_ | refine lx_move (r := (.row _)) rfl rfl rfl rfl rfl ?_) | ((with_reducible refine g_load ?_); first | refine lx_load_var rfl rfl rfl rfl rfl rfl rfl rfl ?_) | ((with_reducible refine g_fieldAddr ?_); first | refine lx_fieldAddr rfl rfl rfl rfl rfl rfl rfl ?_) | ((with_reducible refine g_binOp ?_); first | refine lx_arith rfl rfl rfl rfl rfl rfl rfl ?_) | ((with_reducible refine g_assign ?_); first | refine lx_assign (r := (.t _)) rfl rfl rfl rfl rfl ?_ | refine lx_assign (r := (.row _)) rfl rfl rfl rfl rfl ?_) | ((with_reducible refine g_nilCheck ?_); first | refine lx_nilCheck (r := (.ref _ _ _ _)) rfl rfl rfl rfl rfl rfl ?_) | ((with_reducible refine g_unOp ?_); first | refine lx_not rfl rfl rfl rfl rfl ?_) | ((with_reducible refine g_buildSlice ?_); first | refine lx_buildSlice rfl rfl rfl rfl rfl rfl rfl ?_) | ((with_reducible refine g_append ?_); first | refine lx_append_row rfl rfl rfl rfl rfl rfl rfl rfl rfl rfl ?_ ?_ ?_) | ((with_reducible refine g_call ?_); first | refine lx_call (r' := .t (.int .u8 c)) [] rfl rfl hB (ArgsLE.refl _) rfl ⟨rfl, trivial⟩ rfl rfl rfl rfl rfl rfl rfl rfl rfl rfl ?_) | refine c_condP rfl (fun hc => ?_) (fun hc => ?_))
      all_goals try (simp only [u8L_len, List.length_singleton]; omega)
      exact q_loop (n' := m) (by omega) ((ghost_keep2 [0, 3] [.par 0, .loc 21, .par 103, .par 104] rfl rfl).trans (ghost_renL2 (.loc 21) (.loc 1000) rfl rfl rfl rfl)) ⟨out ++ [UInt8.ofNat c.toNat], ⟨zs, zb⟩, by simp only; omega, fun h => by
        have h2 := hbg h
        simp only at h2 ⊢; omega, by simp only [List.length_append, List.length_singleton]; omega, hi, rfl, by rw [← u8L_snocI out c hbr.1 hbr.2]; rfl⟩
end Go.AL
/- What json's reader answers: number. -/
set_option linter.unusedVariables false
namespace Go.AL
open Go Go.Proofs Go.RowKit

theorem tw_lt (p : UInt8 → Bool) : ∀ (l : List UInt8) (j : Nat), j < (l.takeWhile p).length → j < l.length ∧ p (l.getD j default) = true
  | [], j, h => by simp at h
  | c :: l, j, h => by
    rw [List.takeWhile_cons] at h
    cases hp : p c with
    | false => rw [hp] at h; simp at h
    | true =>
      rw [hp] at h
      cases j with
      | zero => exact ⟨by simp, by simpa using hp⟩
      | succ j =>
        have := tw_lt p l j (by simpa using h)
        exact ⟨by simpa using this.1, by simpa using this.2⟩
theorem tw_end (p : UInt8 → Bool) : ∀ (l : List UInt8), (l.takeWhile p).length < l.length → p (l.getD (l.takeWhile p).length default) = false
  | [], h => by simp at h
  | c :: l, h => by
    rw [List.takeWhile_cons] at h ⊢
    cases hp : p c with
    | false => rw [if_neg (by simp)]; simpa using hp
    | true =>
      rw [hp] at h
      rw [if_pos rfl]
      have := tw_end p l (by simpa using h)
      simpa using this
theorem tw_le (p : UInt8 → Bool) : ∀ (l : List UInt8), (l.takeWhile p).length ≤ l.length
  | [] => by simp
  | c :: l => by
    rw [List.takeWhile_cons]
    have := tw_le p l
    split <;> simp <;> omega
theorem isNumC_iff (b : UInt8) : isNumC b = true ↔ ((b.toNat : Int) = 45 ∨ (48 ≤ (b.toNat : Int) ∧ (b.toNat : Int) ≤ 57)) := by
  have h : b = 45 ↔ (b.toNat : Int) = 45 := by
    constructor
    · rintro rfl; rfl
    · intro h; exact UInt8.toNat_inj.1 (by show b.toNat = 45; omega)
  unfold isNumC
  simp only [Bool.or_eq_true, Bool.and_eq_true, decide_eq_true_eq, h]
  omega
theorem jNumR_eq (r : Rs) : jNumR r = ((jAtoi (r.take (jRun r.s)).1.data.toList).1, if (jAtoi (r.take (jRun r.s)).1.data.toList).2 = true then (r.take (jRun r.s)).2 else ⟨(r.take (jRun r.s)).2.s, true⟩) := by
  unfold jNumR jAtoi
  cases Lib.atoiAll (r.take (jRun r.s)).1.data.toList <;> simp
set_option maxHeartbeats 8000000 in
theorem jNum_call {oS oR : Obj} (G : EOk oS oR) (r : Rs) (hs : r.s.size ≤ 1000000) : Spec Tryd.prog 46 [.ref (.par 0) 0 0 0] [(.par 0, r.row 60), (.par 103, .dat (.fix 3 oS)), (.par 104, .dat (.fix 4 oR))] (.t (.int .i64 (jNumR r).1)) [(.par 0, (jNumR r).2.row 60), (.par 103, .dat (.fix 3 oS)), (.par 104, .dat (.fix 4 oR))] := by
  have hT := Take_spec 60 r (jRun r.s) (by omega)
  have hts := take_size r (jRun r.s)
  rw [jNumR_eq]
  generalize r.take (jRun r.s) = t at *
  obtain ⟨t, z⟩ := t
  simp only at hT hts ⊢
  have hA := Atoi_spec G t (by omega)
  generalize jAtoi t.data.toList = n at *
  obtain ⟨n, ok⟩ := n
  obtain ⟨s, bad⟩ := r
  obtain ⟨zs, zb⟩ := z
  unfold Rs.row at *
  simp only at hT hts hA hs ⊢
  have hlen : s.data.toList.length = s.size := by rw [Array.length_toList]; rfl
  have hlt := tw_lt isNumC s.data.toList
  have hend := tw_end isNumC s.data.toList
  have hle := tw_le isNumC s.data.toList
  rw [show (s.data.toList.takeWhile isNumC).length = jRun s from rfl] at hlt hend hle
  generalize jRun s = k at *
  refine spec_intro (env0 := [(0, _)]) (st0 := [(_, some _), (_, some _), (_, some _)]) Tryd.func46 rfl rfl rfl rfl ?_
  repeat' (first | (with_reducible refine codeT_seq ?_) | (with_reducible refine codeT_block ?_) | (with_reducible refine codeT_regionL ?_) | (with_reducible refine lx_nil ?_) | (with_reducible refine q_then ?_) | ((with_reducible refine g_assign ?_); first | refine lx_assign (r := (.t _)) rfl rfl rfl rfl rfl ?_))
  refine codeT_ghost (ghost_keep2 [0, 3] [.par 0, .par 103, .par 104] rfl rfl) ?_
  refine codeT_loop (fun p env st => ∃ (j : Nat), j ≤ k ∧ p = k - j ∧
      env = EnvL.get [(0, .ref (.par 0) 0 0 0), (3, .t (.int .i64 (j : Int)))] ∧
      st = StO.get [(.par 0, some (.var 60 [.t (.str s), .t (.bool bad)])), (.par 103, some (.dat (.fix 3 oS))), (.par 104, some (.dat (.fix 4 oR)))])
    ?_ (n := k) ⟨0, by omega, rfl, rfl, rfl⟩
  rintro p env st ⟨j, hj, rfl, rfl, rfl⟩
  have hbt : bAt s (j : Int) = ((s.data.toList.getD j default).toNat : Int) := rfl
  by_cases hlk : j < k
  · have hc := hlt j hlk
    have hb := (isNumC_iff _).1 hc.2
    rw [← hbt] at hb
    have hjs : j < s.size := by rw [← hlen]; exact hc.1
    clear hlt hend hT hA hc
    have wj : IntKind.i64.wrap ((j : Int) + 1) = ((j + 1 : Nat) : Int) := by rw [wrap64 (by omega) (by omega)]; omega
    repeat' (first | (with_reducible refine codeT_seq ?_) | (with_reducible refine codeT_block ?_) | (with_reducible refine codeT_skip ?_) | (with_reducible refine codeT_exit ?_) | (with_reducible refine codeT_regionL ?_) | (with_reducible refine lx_nil ?_) | (with_reducible refine q_then ?_) | (with_reducible refine q_then_exit ?_) | (with_reducible refine q_block ?_) | ((with_reducible refine q_block_same ?_ ?_); · rfl) | (with_reducible refine q_loop_exit ?_) | refine c_condT rfl ?_ | (exfalso; omega) | ((with_reducible refine g_guard ?_); first | refine lx_skip rfl rfl rfl ?_) | ((with_reducible refine g_move ?_); first | refine lx_move (r := (.t _)) rfl rfl rfl rfl rfl ?_ | refine lx_move (r := (.ref _ _ _ _)) rfl rfl rfl rfl rfl ?_) | ((with_reducible refine g_load ?_); first | refine lx_load_var rfl rfl rfl rfl rfl rfl rfl rfl ?_) | ((with_reducible refine g_fieldAddr ?_); first | refine lx_fieldAddr rfl rfl rfl rfl rfl rfl rfl ?_) | ((with_reducible refine g_binOp ?_); first | refine lx_arith rfl rfl rfl rfl rfl rfl rfl ?_) | ((with_reducible refine g_assign ?_); first | refine lx_assign (r := (.t _)) rfl rfl rfl rfl rfl ?_) | ((with_reducible refine g_pick ?_); first | refine lx_pickT (r := (.t _)) rfl rfl rfl rfl rfl rfl ?_ | refine lx_pickF (r := (.t _)) rfl rfl rfl rfl rfl rfl ?_) | ((with_reducible refine g_nilCheck ?_); first | refine lx_nilCheck (r := (.ref _ _ _ _)) rfl rfl rfl rfl rfl rfl ?_) | ((with_reducible refine g_index ?_); first | refine lx_index_str rfl rfl rfl rfl rfl rfl ?_ ?_ ?_) | ((with_reducible refine g_len ?_); first | refine lx_len_str rfl rfl rfl rfl rfl ?_) | refine c_condP rfl (fun hc => ?_) (fun hc => ?_) | refine lx_splitP rfl (fun hc => ?_) (fun hc => ?_))
    all_goals try omega
    all_goals exact q_loop (n' := k - (j + 1)) (by omega) (ghost_keep2 [0, 3] [.par 0, .par 103, .par 104] rfl rfl) ⟨j + 1, by omega, rfl, by rw [wj]; rfl, rfl⟩
  · obtain rfl : j = k := by omega
    have hb : (j : Int) < s.size → ¬ (bAt s (j : Int) = 45 ∨ (48 ≤ bAt s (j : Int) ∧ bAt s (j : Int) ≤ 57)) := fun h h2 => by
      have := hend (by omega)
      rw [hbt] at h2
      rw [(isNumC_iff _).2 h2] at this
      cases this
    clear hlt hend
    cases ok with
    | true =>
      unfold eT at hA
      rw [if_pos rfl] at hA ⊢
      repeat' (first | (with_reducible refine codeT_seq ?_) | (with_reducible refine codeT_block ?_) | (with_reducible refine codeT_skip ?_) | (with_reducible refine codeT_ret ?_) | (with_reducible refine codeT_exit ?_) | (with_reducible refine codeT_regionL ?_) | (with_reducible refine lx_nil ?_) | (with_reducible refine q_then ?_) | (with_reducible refine q_then_exit ?_) | ((with_reducible refine q_block_same ?_ ?_); · rfl) | (with_reducible refine q_loop_exit ?_) | refine c_condF rfl ?_ | (exfalso; omega) | ((with_reducible refine g_guard ?_); first | refine lx_skip rfl rfl rfl ?_) | ((with_reducible refine g_move ?_); first | refine lx_move (r := (.t _)) rfl rfl rfl rfl rfl ?_ | refine lx_move (r := (.ref _ _ _ _)) rfl rfl rfl rfl rfl ?_ | refine lx_move (r := (.tup _)) rfl rfl rfl rfl rfl ?_) | ((with_reducible refine g_load ?_); first | refine lx_load_var rfl rfl rfl rfl rfl rfl rfl rfl ?_) | ((with_reducible refine g_fieldAddr ?_); first | refine lx_fieldAddr rfl rfl rfl rfl rfl rfl rfl ?_) | ((with_reducible refine g_binOp ?_); first | refine lx_arith rfl rfl rfl rfl rfl rfl rfl ?_) | ((with_reducible refine g_assign ?_); first | refine lx_assign (r := (.t _)) rfl rfl rfl rfl rfl ?_) | ((with_reducible refine g_pick ?_); first | refine lx_pickT (r := (.t _)) rfl rfl rfl rfl rfl rfl ?_ | refine lx_pickF (r := (.t _)) rfl rfl rfl rfl rfl rfl ?_) | ((with_reducible refine g_nilCheck ?_); first | refine lx_nilCheck (r := (.ref _ _ _ _)) rfl rfl rfl rfl rfl rfl ?_) | ((with_reducible refine g_index ?_); first | refine lx_index_str rfl rfl rfl rfl rfl rfl ?_ ?_ ?_) | ((with_reducible refine g_extract ?_); first | refine lx_extract rfl rfl rfl rfl rfl rfl ?_) | ((with_reducible refine g_len ?_); first | refine lx_len_str rfl rfl rfl rfl rfl ?_) | ((with_reducible refine g_call ?_); first | refine lx_call (r' := .t (.str t)) [] rfl rfl hT (ArgsLE.refl _) rfl ⟨rfl, trivial⟩ rfl rfl rfl rfl rfl rfl rfl rfl rfl rfl ?_ | refine lx_call (r' := (.tup [.t (.int .i64 n), .t .nili])) [] rfl rfl hA (ArgsLE.refl _) rfl ⟨rfl, rfl, trivial⟩ rfl rfl rfl rfl rfl rfl rfl rfl rfl rfl ?_) | ((with_reducible refine g_binOp ?_); first | refine lx_ifnil_ne rfl rfl rfl rfl rfl rfl ?_) | refine c_condP rfl (fun hc => ?_) (fun hc => ?_) | refine lx_splitP rfl (fun hc => ?_) (fun hc => ?_))
      all_goals try omega
      all_goals exact q_ret (resT_oneE rfl rfl rfl) (stHas_spec ⟨rfl, rfl, rfl, trivial⟩)
    | false =>
      unfold eT at hA
      rw [if_neg (by simp)] at hA ⊢
      repeat' (first | (with_reducible refine codeT_seq ?_) | (with_reducible refine codeT_block ?_) | (with_reducible refine codeT_skip ?_) | (with_reducible refine codeT_ret ?_) | (with_reducible refine codeT_exit ?_) | (with_reducible refine codeT_regionL ?_) | (with_reducible refine lx_nil ?_) | (with_reducible refine q_then ?_) | (with_reducible refine q_then_exit ?_) | ((with_reducible refine q_block_same ?_ ?_); · rfl) | (with_reducible refine q_loop_exit ?_) | refine c_condT rfl ?_ | refine c_condF rfl ?_ | (exfalso; omega) | ((with_reducible refine g_guard ?_); first | refine lx_skip rfl rfl rfl ?_) | ((with_reducible refine g_move ?_); first | refine lx_move (r := (.t _)) rfl rfl rfl rfl rfl ?_ | refine lx_move (r := (.ref _ _ _ _)) rfl rfl rfl rfl rfl ?_ | refine lx_move (r := (.tup _)) rfl rfl rfl rfl rfl ?_) | ((with_reducible refine g_load ?_); first | refine lx_load_var rfl rfl rfl rfl rfl rfl rfl rfl ?_) | ((with_reducible refine g_fieldAddr ?_); first | refine lx_fieldAddr rfl rfl rfl rfl rfl rfl rfl ?_) | ((with_reducible refine g_binOp ?_); first | refine lx_arith rfl rfl rfl rfl rfl rfl rfl ?_) | ((with_reducible refine g_assign ?_); first | refine lx_assign (r := (.t _)) rfl rfl rfl rfl rfl ?_) | ((with_reducible refine g_pick ?_); first | refine lx_pickT (r := (.t _)) rfl rfl rfl rfl rfl rfl ?_ | refine lx_pickF (r := (.t _)) rfl rfl rfl rfl rfl rfl ?_) | ((with_reducible refine g_store ?_); first | refine lx_store_var (r := (.t _)) rfl rfl rfl rfl rfl rfl rfl rfl rfl rfl ?_) | ((with_reducible refine g_nilCheck ?_); first | refine lx_nilCheck (r := (.ref _ _ _ _)) rfl rfl rfl rfl rfl rfl ?_) | ((with_reducible refine g_index ?_); first | refine lx_index_str rfl rfl rfl rfl rfl rfl ?_ ?_ ?_) | ((with_reducible refine g_extract ?_); first | refine lx_extract rfl rfl rfl rfl rfl rfl ?_) | ((with_reducible refine g_len ?_); first | refine lx_len_str rfl rfl rfl rfl rfl ?_) | ((with_reducible refine g_call ?_); first | refine lx_call (r' := .t (.str t)) [] rfl rfl hT (ArgsLE.refl _) rfl ⟨rfl, trivial⟩ rfl rfl rfl rfl rfl rfl rfl rfl rfl rfl ?_ | refine lx_call (r' := (.tup [.t (.int .i64 n), .t .iface])) [] rfl rfl hA (ArgsLE.refl _) rfl ⟨rfl, rfl, trivial⟩ rfl rfl rfl rfl rfl rfl rfl rfl rfl rfl ?_) | ((with_reducible refine g_binOp ?_); first | refine lx_ifnil_ne rfl rfl rfl rfl rfl rfl ?_) | refine c_condP rfl (fun hc => ?_) (fun hc => ?_) | refine lx_splitP rfl (fun hc => ?_) (fun hc => ?_))
      all_goals try omega
      all_goals exact q_ret (resT_oneE rfl rfl rfl) (stHas_spec ⟨rfl, rfl, rfl, trivial⟩)
end Go.AL
/- What json's reader answers: items, given what node answers. -/
set_option linter.unusedVariables false
namespace Go.AL
open Go Go.Proofs Go.RowKit

theorem jItemsR_bad (f : Rs → Nd × Rs) (k : Int) (e : ByteArray) (c : Nat) (first : Bool) (ns : List ByteArray) (is : List Nd) (s : ByteArray) : jItemsR f k e c first ns is ⟨s, true⟩ = (.mk k false 0 eS ns is, ⟨s, true⟩) := by
  cases c with
  | zero => rfl
  | succ c => rw [jItemsR, if_pos rfl]
set_option maxHeartbeats 16000000 in
theorem jItems_call {oS oR : Obj} (G : EOk oS oR) (d : Nat) (hd : d ≤ 1000) (B : Nat) (hB : B ≤ 1000000)
    (IH : ∀ q : Rs, q.s.size ≤ B → Spec Tryd.prog 30 [.ref (.par 0) 0 0 0, .t (.int .i64 (d : Int))] [(.par 0, q.row 60), (.par 103, .dat (.fix 3 oS)), (.par 104, .dat (.fix 4 oR))] (.t (jNodeR d q).1.toT) [(.par 0, (jNodeR d q).2.row 60), (.par 103, .dat (.fix 3 oS)), (.par 104, .dat (.fix 4 oR))])
    (k : Int) (hk : k = 4 ∨ k = 5) (e : ByteArray) (r : Rs) (hr : r.s.size ≤ B) :
    Spec Tryd.prog 43 [.ref (.par 0) 0 0 0, .t (.agg [.int .i64 k, .bool false, .int .i64 0, .str ⟨#[]⟩, .nilsl, .nilsl]), .t (.str e), .t (.int .i64 ((d + 1 : Nat) : Int))] [(.par 0, r.row 60), (.par 103, .dat (.fix 3 oS)), (.par 104, .dat (.fix 4 oR))] (.t (jItemsR (jNodeR d) k e (r.s.size + 2) true [] [] r).1.toT) [(.par 0, (jItemsR (jNodeR d) k e (r.s.size + 2) true [] [] r).2.row 60), (.par 103, .dat (.fix 3 oS)), (.par 104, .dat (.fix 4 oR))] := by
  generalize hres : jItemsR (jNodeR d) k e (r.s.size + 2) true [] [] r = res
  have hNB := jNode_le B (by omega) d
  have hLs := jNode_less d
  generalize jNodeR d = f at *
  unfold Rs.row
  refine spec_introG (env0 := [(0, _), (1, _), (2, _), (3, _)]) (st0 := [(_, some _), (_, some _), (_, some _)]) Tryd.func43 rfl rfl rfl rfl ?_
  repeat' (first | (with_reducible refine codeT_seq ?_) | (with_reducible refine codeT_block ?_) | (with_reducible refine codeT_regionL ?_) | (with_reducible refine lx_nil ?_) | (with_reducible refine q_then ?_) | ((with_reducible refine g_assign ?_); first | refine lx_assign (r := (.t _)) rfl rfl rfl rfl rfl ?_) | ((with_reducible refine g_box ?_); first | refine lx_box (r := (.t (.agg _))) (cs := (List.map .t _)) rfl rfl rfl rfl rfl rfl rfl rfl rfl ?_) | ((with_reducible refine g_alloc ?_); first | refine lx_alloc rfl rfl rfl rfl rfl rfl rfl ?_))
  refine codeT_ghost (ghost_cellNilL (r := .loc 5) 5 (.loc 900) 26 6 rfl rfl rfl rfl rfl) ?_
  refine codeT_ghost (ghost_cellNilL (r := .loc 5) 4 (.loc 901) 9 1 rfl rfl rfl rfl rfl) ?_
  refine codeT_ghost (ghost_keep2 [0, 2, 3, 5, 8, 9] [.par 0, .loc 5, .loc 8, .loc 900, .loc 901, .par 103, .par 104] rfl rfl) ?_
  refine codeT_loop (fun m env st => ∃ (first : Bool) (ns : List ByteArray) (is : List Nd) (q : Rs), m ≤ 1000002 ∧ ns.length + m ≤ 1000002 ∧ is.length + m ≤ 1000002 ∧ q.s.size ≤ B ∧ (q.bad = false → q.s.size + 1 ≤ m) ∧ jItemsR f k e m first ns is q = res ∧
      env = EnvL.get [(0, .ref (.par 0) 0 0 0), (2, .t (.str e)), (3, .t (.int .i64 ((d + 1 : Nat) : Int))), (5, .ref (.loc 5) 0 0 0), (8, .ref (.loc 8) 0 0 0), (9, .t (.bool first))] ∧
      st = StO.get [(.par 0, some (.var 60 [.t (.str q.s), .t (.bool q.bad)])), (.loc 5, some (.var 26 [.t (.int .i64 k), .t (.bool false), .t (.int .i64 0), .t (.str ⟨#[]⟩), .row (.loc 901), .row (.loc 900)])), (.loc 8, some (.var 26 [.t (.int .i64 0), .t (.bool false), .t (.int .i64 0), .t (.str ⟨#[]⟩), .t .nilsl, .t .nilsl])), (.loc 900, some (.slt 26 6 (is.map Nd.toT))), (.loc 901, some (.slt 9 1 (ns.map .str))), (.par 103, some (.dat (.fix 3 oS))), (.par 104, some (.dat (.fix 4 oR)))])
    ?_ (n := r.s.size + 2) ⟨true, [], [], r, by omega, by simp; omega, by simp; omega, hr, fun _ => by omega, hres, rfl, rfl⟩
  rintro m env st ⟨first, ns, is, ⟨qs, qb⟩, hm, hns, his, hq, hfu, hi, rfl, rfl⟩
  have hN : ∀ (v : Int) (q : Rs), v = (d : Int) → q.s.size ≤ B → Spec Tryd.prog 30 [.ref (.par 0) 0 0 0, .t (.int .i64 v)] [(.par 0, .var 60 [.t (.str q.s), .t (.bool q.bad)]), (.par 103, .dat (.fix 3 oS)), (.par 104, .dat (.fix 4 oR))] (.t (f q).1.toT) [(.par 0, .var 60 [.t (.str (f q).2.s), .t (.bool (f q).2.bad)]), (.par 103, .dat (.fix 3 oS)), (.par 104, .dat (.fix 4 oR))] := fun v q hv hq => by subst hv; exact IH q hq
  clear hres IH hr
  simp only at hq hfu ⊢
  cases qb with
  | true =>
    rw [jItemsR_bad] at hi
    repeat' (first | (with_reducible refine codeT_seq ?_) | (with_reducible refine codeT_ret ?_) | (with_reducible refine codeT_exit ?_) | (with_reducible refine codeT_regionL ?_) | (with_reducible refine lx_nil ?_) | (with_reducible refine q_then ?_) | (with_reducible refine q_then_exit ?_) | ((with_reducible refine q_block_same ?_ ?_); · rfl) | (with_reducible refine q_loop_exit ?_) | refine c_condF rfl ?_ | ((with_reducible refine g_guard ?_); first | refine lx_skip rfl rfl rfl ?_) | ((with_reducible refine g_move ?_); first | refine lx_move (r := (.t _)) rfl rfl rfl rfl rfl ?_ | refine lx_move (r := (.ref _ _ _ _)) rfl rfl rfl rfl rfl ?_) | ((with_reducible refine g_load ?_); first | refine lx_load_var rfl rfl rfl rfl rfl rfl rfl rfl ?_ | refine lx_load_varA (r := (.agg _)) rfl rfl rfl rfl rfl rfl rfl rfl rfl ?_) | ((with_reducible refine g_fieldAddr ?_); first | refine lx_fieldAddr rfl rfl rfl rfl rfl rfl rfl ?_) | ((with_reducible refine g_pick ?_); first | refine lx_pickF (r := (.t _)) rfl rfl rfl rfl rfl rfl ?_) | ((with_reducible refine g_store ?_); first | refine lx_store_var (r := (.agg _)) rfl rfl rfl rfl rfl rfl rfl rfl rfl rfl ?_) | ((with_reducible refine g_nilCheck ?_); first | refine lx_nilCheck (r := (.ref _ _ _ _)) rfl rfl rfl rfl rfl rfl ?_) | ((with_reducible refine g_unOp ?_); first | refine lx_not rfl rfl rfl rfl rfl ?_))
    all_goals try (exfalso; omega)
    rw [← hi]
    simp only
    rw [Nd.toT_eq]
    refine q_ghost (ghost_keep2 [8] [.par 0, .loc 8, .loc 900, .loc 901, .par 103, .par 104] rfl rfl) ?_
    refine q_ghost (ghost_freezeL (id := .loc 900) rfl rfl rfl) ?_; refine q_ghost (ghost_freezeL (id := .loc 901) rfl rfl rfl) ?_
    refine q_done (q_ret ?_ (stHas_spec ⟨rfl, rfl, rfl, trivial⟩)); refine resT_cell rfl rfl rfl inferInstance rfl inferInstance rfl ?_; exact TLe.av (by repeat first | exact TLe.refl _ | exact TLe.slq _ _ | exact TLe.nil _ | exact TLe.esl _ | refine TLe.agg ?_ | refine TLs.cons ?_ ?_ | exact TLs.nil)
  | false =>
    have hm1 := hfu rfl
    obtain ⟨m, rfl⟩ : ∃ k, m = k + 1 := ⟨m - 1, by omega⟩
    have hS := jSkip_spec ⟨qs, false⟩ e (by simp only; omega)
    have hSn := @skip_no ⟨qs, false⟩ e
    rw [jItemsR, if_neg (by simp)] at hi
    generalize Rs.skip ⟨qs, false⟩ e = S at hS hSn hi
    obtain ⟨sb, ⟨ss, sbad⟩⟩ := S
    unfold Rs.row at hS
    simp only at hS hSn hi
    cases sb with
    | true =>
      rw [if_pos rfl] at hi
      repeat' (first | (with_reducible refine codeT_seq ?_) | (with_reducible refine codeT_ret ?_) | (with_reducible refine codeT_exit ?_) | (with_reducible refine codeT_regionL ?_) | (with_reducible refine lx_nil ?_) | (with_reducible refine q_then ?_) | (with_reducible refine q_then_exit ?_) | ((with_reducible refine q_block_same ?_ ?_); · rfl) | (with_reducible refine q_loop_exit ?_) | refine c_condF rfl ?_ | ((with_reducible refine g_move ?_); first | refine lx_move (r := (.t _)) rfl rfl rfl rfl rfl ?_ | refine lx_move (r := (.ref _ _ _ _)) rfl rfl rfl rfl rfl ?_) | ((with_reducible refine g_load ?_); first | refine lx_load_var rfl rfl rfl rfl rfl rfl rfl rfl ?_ | refine lx_load_varA (r := (.agg _)) rfl rfl rfl rfl rfl rfl rfl rfl rfl ?_) | ((with_reducible refine g_fieldAddr ?_); first | refine lx_fieldAddr rfl rfl rfl rfl rfl rfl rfl ?_) | ((with_reducible refine g_pick ?_); first | refine lx_pickT (r := (.t _)) rfl rfl rfl rfl rfl rfl ?_) | ((with_reducible refine g_store ?_); first | refine lx_store_var (r := (.agg _)) rfl rfl rfl rfl rfl rfl rfl rfl rfl rfl ?_) | ((with_reducible refine g_nilCheck ?_); first | refine lx_nilCheck (r := (.ref _ _ _ _)) rfl rfl rfl rfl rfl rfl ?_) | ((with_reducible refine g_unOp ?_); first | refine lx_not rfl rfl rfl rfl rfl ?_) | ((with_reducible refine g_call ?_); first | refine lx_call (r' := .t (.bool true)) [] rfl rfl hS (ArgsLE.refl _) rfl ⟨rfl, trivial⟩ rfl rfl rfl rfl rfl rfl rfl rfl rfl rfl ?_))
      all_goals try (exfalso; omega)
      rw [← hi]
      simp only
      rw [Nd.toT_eq]
      refine q_ghost (ghost_keep2 [8] [.par 0, .loc 8, .loc 900, .loc 901, .par 103, .par 104] rfl rfl) ?_
      refine q_ghost (ghost_freezeL (id := .loc 900) rfl rfl rfl) ?_; refine q_ghost (ghost_freezeL (id := .loc 901) rfl rfl rfl) ?_
      refine q_done (q_ret ?_ (stHas_spec ⟨rfl, rfl, rfl, trivial⟩)); refine resT_cell rfl rfl rfl inferInstance rfl inferInstance rfl ?_; exact TLe.av (by repeat first | exact TLe.refl _ | exact TLe.slq _ _ | exact TLe.nil _ | exact TLe.esl _ | refine TLe.agg ?_ | refine TLs.cons ?_ ?_ | exact TLs.nil)
    | false =>
      have := hSn (by simp)
      cases this
      clear hSn
      rw [if_neg (by simp)] at hi
      have hJl := jSep_le first ⟨qs, false⟩
      have hJ : first = false → Spec Tryd.prog 60 [.ref (.par 0) 0 0 0, .t (.str ⟨#[44]⟩)] [(.par 0, .var 60 [.t (.str qs), .t (.bool false)])] (.tup []) [(.par 0, .var 60 [.t (.str (jSep first ⟨qs, false⟩).s), .t (.bool (jSep first ⟨qs, false⟩).bad)])] := fun h => by
        subst h
        exact jExpect_spec ⟨qs, false⟩ ⟨#[44]⟩ (by simp only; omega)
      have hJt : first = true → jSep first ⟨qs, false⟩ = ⟨qs, false⟩ := fun h => by subst h; rfl
      generalize jSep first ⟨qs, false⟩ = J at *
      obtain ⟨js, jb⟩ := J
      simp only at hJl hJ hJt
      rcases hk with rfl | rfl
      · rw [if_neg (by decide)] at hi
        replace hN := hN (IntKind.i64.wrap (((d + 1 : Nat) : Int) - 1)) ⟨js, jb⟩ (by rw [wrap64 (by omega) (by omega)]; omega) (by simp only; omega)
        have hb := hNB ⟨js, jb⟩ (by simp only; omega)
        have hl := hLs ⟨js, jb⟩
        generalize f ⟨js, jb⟩ = y at hi hN hb hl
        obtain ⟨x, us, ub⟩ := y
        have hT := x.toT_full
        simp only at hN hi hb hl
        rw [hT] at hN
        cases first with
        | true =>
          cases hJt rfl
          clear hJ hJt
          repeat' (first | (with_reducible refine codeT_seq ?_) | (with_reducible refine codeT_block ?_) | (with_reducible refine codeT_skip ?_) | (with_reducible refine codeT_regionL ?_) | ((with_reducible refine codeT_region_drawL ?_ ?_); · rfl) | (with_reducible refine lx_nil ?_) | (with_reducible refine q_then ?_) | (with_reducible refine q_block ?_) | ((with_reducible refine q_region_draw ?_ ?_); · rfl) | refine c_condT rfl ?_ | refine c_condF rfl ?_ | ((with_reducible refine g_move ?_); first | refine lx_move (r := (.t _)) rfl rfl rfl rfl rfl ?_ | refine lx_move (r := (.ref _ _ _ _)) rfl rfl rfl rfl rfl ?_) | ((with_reducible refine g_load ?_); first | refine lx_load_var rfl rfl rfl rfl rfl rfl rfl rfl ?_) | ((with_reducible refine g_fieldAddr ?_); first | refine lx_fieldAddr rfl rfl rfl rfl rfl rfl rfl ?_) | ((with_reducible refine g_binOp ?_); first | refine lx_arith rfl rfl rfl rfl rfl rfl rfl ?_) | ((with_reducible refine g_assign ?_); first | refine lx_assign (r := (.t _)) rfl rfl rfl rfl rfl ?_) | ((with_reducible refine g_pick ?_); first | refine lx_pickT (r := (.t _)) rfl rfl rfl rfl rfl rfl ?_) | ((with_reducible refine g_store ?_); first | refine lx_store_var (r := (.row _)) rfl rfl rfl rfl rfl rfl rfl rfl rfl rfl ?_) | ((with_reducible refine g_nilCheck ?_); first | refine lx_nilCheck (r := (.ref _ _ _ _)) rfl rfl rfl rfl rfl rfl ?_) | ((with_reducible refine g_unOp ?_); first | refine lx_not rfl rfl rfl rfl rfl ?_) | ((with_reducible refine g_buildSlice ?_); first | refine lx_buildSlice rfl rfl rfl rfl rfl rfl rfl ?_) | ((with_reducible refine g_append ?_); first | refine lx_append_row rfl rfl rfl rfl rfl rfl rfl rfl rfl rfl ?_ ?_ ?_) | ((with_reducible refine g_call ?_); first | refine lx_call (r' := .t (.bool false)) [] rfl rfl hS (ArgsLE.refl _) rfl ⟨rfl, trivial⟩ rfl rfl rfl rfl rfl rfl rfl rfl rfl rfl ?_ | refine lx_call (r' := .t (.agg [.int .i64 x.kind, .bool x.bool, .int .i64 x.num, .str x.text, .sl 1 (x.names.map .str), .sl 6 (x.items.map Nd.toT)])) [] rfl rfl hN (ArgsLE.refl _) rfl ⟨rfl, rfl, rfl, trivial⟩ rfl rfl rfl rfl rfl rfl rfl rfl rfl rfl ?_))
          all_goals try (exfalso; omega)
          all_goals try (simp only [List.length_map, List.length_cons, List.length_nil]; omega)
          refine q_loop (n' := m) (by omega) ((ghost_keep2 [0, 2, 3, 5, 8, 9] [.par 0, .loc 5, .loc 8, .loc 45, .loc 901, .par 103, .par 104] rfl rfl).trans (ghost_renL2 (.loc 45) (.loc 900) rfl rfl rfl rfl)) ⟨false, ns, is ++ [x], ⟨us, ub⟩, by omega, by omega, by simp only [List.length_append, List.length_cons, List.length_nil]; omega, hb.1, fun h => by have := (hl h).2; simp only at this ⊢; omega, hi, rfl, ?_⟩
          rw [List.map_append, List.map_singleton, hT]; rfl
        | false =>
          replace hJ := hJ rfl
          clear hJt
          repeat' (first | (with_reducible refine codeT_seq ?_) | (with_reducible refine codeT_block ?_) | (with_reducible refine codeT_skip ?_) | (with_reducible refine codeT_regionL ?_) | ((with_reducible refine codeT_region_drawL ?_ ?_); · rfl) | (with_reducible refine lx_nil ?_) | (with_reducible refine q_then ?_) | (with_reducible refine q_block ?_) | ((with_reducible refine q_region_draw ?_ ?_); · rfl) | refine c_condT rfl ?_ | refine c_condF rfl ?_ | ((with_reducible refine g_move ?_); first | refine lx_move (r := (.t _)) rfl rfl rfl rfl rfl ?_ | refine lx_move (r := (.ref _ _ _ _)) rfl rfl rfl rfl rfl ?_) | ((with_reducible refine g_load ?_); first | refine lx_load_var rfl rfl rfl rfl rfl rfl rfl rfl ?_) | ((with_reducible refine g_fieldAddr ?_); first | refine lx_fieldAddr rfl rfl rfl rfl rfl rfl rfl ?_) | ((with_reducible refine g_binOp ?_); first | refine lx_arith rfl rfl rfl rfl rfl rfl rfl ?_) | ((with_reducible refine g_assign ?_); first | refine lx_assign (r := (.t _)) rfl rfl rfl rfl rfl ?_) | ((with_reducible refine g_pick ?_); first | refine lx_pickT (r := (.t _)) rfl rfl rfl rfl rfl rfl ?_) | ((with_reducible refine g_store ?_); first | refine lx_store_var (r := (.row _)) rfl rfl rfl rfl rfl rfl rfl rfl rfl rfl ?_) | ((with_reducible refine g_nilCheck ?_); first | refine lx_nilCheck (r := (.ref _ _ _ _)) rfl rfl rfl rfl rfl rfl ?_) | ((with_reducible refine g_unOp ?_); first | refine lx_not rfl rfl rfl rfl rfl ?_) | ((with_reducible refine g_buildSlice ?_); first | refine lx_buildSlice rfl rfl rfl rfl rfl rfl rfl ?_) | ((with_reducible refine g_append ?_); first | refine lx_append_row rfl rfl rfl rfl rfl rfl rfl rfl rfl rfl ?_ ?_ ?_) | ((with_reducible refine g_call ?_); first | refine lx_call (r' := .t (.bool false)) [] rfl rfl hS (ArgsLE.refl _) rfl ⟨rfl, trivial⟩ rfl rfl rfl rfl rfl rfl rfl rfl rfl rfl ?_ | refine lx_call (r' := .tup []) [] rfl rfl hJ (ArgsLE.refl _) rfl ⟨rfl, trivial⟩ rfl rfl rfl rfl rfl rfl rfl rfl rfl rfl ?_ | refine lx_call (r' := .t (.agg [.int .i64 x.kind, .bool x.bool, .int .i64 x.num, .str x.text, .sl 1 (x.names.map .str), .sl 6 (x.items.map Nd.toT)])) [] rfl rfl hN (ArgsLE.refl _) rfl ⟨rfl, rfl, rfl, trivial⟩ rfl rfl rfl rfl rfl rfl rfl rfl rfl rfl ?_))
          all_goals try (exfalso; omega)
          all_goals try (simp only [List.length_map, List.length_cons, List.length_nil]; omega)
          refine q_loop (n' := m) (by omega) ((ghost_keep2 [0, 2, 3, 5, 8, 9] [.par 0, .loc 5, .loc 8, .loc 45, .loc 901, .par 103, .par 104] rfl rfl).trans (ghost_renL2 (.loc 45) (.loc 900) rfl rfl rfl rfl)) ⟨false, ns, is ++ [x], ⟨us, ub⟩, by omega, by omega, by simp only [List.length_append, List.length_cons, List.length_nil]; omega, hb.1, fun h => by have := (hl h).2; simp only at this ⊢; omega, hi, rfl, ?_⟩
          rw [List.map_append, List.map_singleton, hT]; rfl
      · rw [if_pos rfl] at hi
        have hM := jText_call G ⟨js, jb⟩ (by simp only; omega)
        have hMl := jTextR_le ⟨js, jb⟩
        generalize jTextR ⟨js, jb⟩ = T at hi hM hMl
        obtain ⟨nm, ⟨ts, tb⟩⟩ := T
        simp only at hi hMl
        have hC := jExpect_spec ⟨ts, tb⟩ ⟨#[58]⟩ (by simp only; omega)
        have hCl := expect_le ⟨ts, tb⟩ ⟨#[58]⟩
        have hCg := @expect_good ⟨ts, tb⟩ ⟨#[58]⟩
        generalize Rs.expect ⟨ts, tb⟩ ⟨#[58]⟩ = C at hi hC hCl hCg
        obtain ⟨cs, cb⟩ := C
        simp only at hCl hCg
        replace hN := hN (IntKind.i64.wrap (((d + 1 : Nat) : Int) - 1)) ⟨cs, cb⟩ (by rw [wrap64 (by omega) (by omega)]; omega) (by simp only; omega)
        have hb := hNB ⟨cs, cb⟩ (by simp only; omega)
        have hl := hLs ⟨cs, cb⟩
        generalize f ⟨cs, cb⟩ = y at hi hN hb hl
        unfold Rs.row at hM hC
        obtain ⟨x, us, ub⟩ := y
        have hT := x.toT_full
        simp only at hN hi hb hl hM hC
        rw [hT] at hN
        cases first with
        | true =>
          cases hJt rfl
          clear hJ hJt
          repeat' (first | (with_reducible refine codeT_seq ?_) | (with_reducible refine codeT_block ?_) | (with_reducible refine codeT_skip ?_) | (with_reducible refine codeT_regionL ?_) | ((with_reducible refine codeT_region_drawL ?_ ?_); · rfl) | (with_reducible refine lx_nil ?_) | (with_reducible refine q_then ?_) | (with_reducible refine q_block ?_) | ((with_reducible refine q_region_draw ?_ ?_); · rfl) | refine c_condT rfl ?_ | refine c_condF rfl ?_ | ((with_reducible refine g_move ?_); first | refine lx_move (r := (.t _)) rfl rfl rfl rfl rfl ?_ | refine lx_move (r := (.ref _ _ _ _)) rfl rfl rfl rfl rfl ?_) | ((with_reducible refine g_load ?_); first | refine lx_load_var rfl rfl rfl rfl rfl rfl rfl rfl ?_) | ((with_reducible refine g_fieldAddr ?_); first | refine lx_fieldAddr rfl rfl rfl rfl rfl rfl rfl ?_) | ((with_reducible refine g_binOp ?_); first | refine lx_arith rfl rfl rfl rfl rfl rfl rfl ?_) | ((with_reducible refine g_assign ?_); first | refine lx_assign (r := (.t _)) rfl rfl rfl rfl rfl ?_) | ((with_reducible refine g_pick ?_); first | refine lx_pickT (r := (.t _)) rfl rfl rfl rfl rfl rfl ?_) | ((with_reducible refine g_store ?_); first | refine lx_store_var (r := (.row _)) rfl rfl rfl rfl rfl rfl rfl rfl rfl rfl ?_) | ((with_reducible refine g_nilCheck ?_); first | refine lx_nilCheck (r := (.ref _ _ _ _)) rfl rfl rfl rfl rfl rfl ?_) | ((with_reducible refine g_unOp ?_); first | refine lx_not rfl rfl rfl rfl rfl ?_) | ((with_reducible refine g_buildSlice ?_); first | refine lx_buildSlice rfl rfl rfl rfl rfl rfl rfl ?_) | ((with_reducible refine g_append ?_); first | refine lx_append_row rfl rfl rfl rfl rfl rfl rfl rfl rfl rfl ?_ ?_ ?_) | ((with_reducible refine g_call ?_); first | refine lx_call (r' := .t (.bool false)) [] rfl rfl hS (ArgsLE.refl _) rfl ⟨rfl, trivial⟩ rfl rfl rfl rfl rfl rfl rfl rfl rfl rfl ?_ | refine lx_call (r' := .t (.str nm)) [] rfl rfl hM (ArgsLE.refl _) rfl ⟨rfl, rfl, rfl, trivial⟩ rfl rfl rfl rfl rfl rfl rfl rfl rfl rfl ?_ | refine lx_call (r' := .tup []) [] rfl rfl hC (ArgsLE.refl _) rfl ⟨rfl, trivial⟩ rfl rfl rfl rfl rfl rfl rfl rfl rfl rfl ?_ | refine lx_call (r' := .t (.agg [.int .i64 x.kind, .bool x.bool, .int .i64 x.num, .str x.text, .sl 1 (x.names.map .str), .sl 6 (x.items.map Nd.toT)])) [] rfl rfl hN (ArgsLE.refl _) rfl ⟨rfl, rfl, rfl, trivial⟩ rfl rfl rfl rfl rfl rfl rfl rfl rfl rfl ?_))
          all_goals try (exfalso; omega)
          all_goals try (simp only [List.length_map, List.length_cons, List.length_nil]; omega)
          refine q_loop (n' := m) (by omega) ((ghost_keep2 [0, 2, 3, 5, 8, 9] [.par 0, .loc 5, .loc 8, .loc 45, .loc 34, .par 103, .par 104] rfl rfl).trans ((ghost_renL2 (.loc 45) (.loc 900) rfl rfl rfl rfl).trans (ghost_renL2 (.loc 34) (.loc 901) rfl rfl rfl rfl))) ⟨false, ns ++ [nm], is ++ [x], ⟨us, ub⟩, by omega, by simp only [List.length_append, List.length_cons, List.length_nil]; omega, by simp only [List.length_append, List.length_cons, List.length_nil]; omega, hb.1, fun h => by have := (hl h).2; simp only at this ⊢; omega, hi, rfl, ?_⟩
          rw [List.map_append, List.map_append, List.map_singleton, List.map_singleton, hT]; rfl
        | false =>
          replace hJ := hJ rfl
          clear hJt
          repeat' (first | (with_reducible refine codeT_seq ?_) | (with_reducible refine codeT_block ?_) | (with_reducible refine codeT_skip ?_) | (with_reducible refine codeT_regionL ?_) | ((with_reducible refine codeT_region_drawL ?_ ?_); · rfl) | (with_reducible refine lx_nil ?_) | (with_reducible refine q_then ?_) | (with_reducible refine q_block ?_) | ((with_reducible refine q_region_draw ?_ ?_); · rfl) | refine c_condT rfl ?_ | ((with_reducible refine g_move ?_); first | refine lx_move (r := (.t _)) rfl rfl rfl rfl rfl ?_ | refine lx_move (r := (.ref _ _ _ _)) rfl rfl rfl rfl rfl ?_) | ((with_reducible refine g_load ?_); first | refine lx_load_var rfl rfl rfl rfl rfl rfl rfl rfl ?_) | ((with_reducible refine g_fieldAddr ?_); first | refine lx_fieldAddr rfl rfl rfl rfl rfl rfl rfl ?_) | ((with_reducible refine g_binOp ?_); first | refine lx_arith rfl rfl rfl rfl rfl rfl rfl ?_) | ((with_reducible refine g_assign ?_); first | refine lx_assign (r := (.t _)) rfl rfl rfl rfl rfl ?_) | ((with_reducible refine g_pick ?_); first | refine lx_pickT (r := (.t _)) rfl rfl rfl rfl rfl rfl ?_) | ((with_reducible refine g_store ?_); first | refine lx_store_var (r := (.row _)) rfl rfl rfl rfl rfl rfl rfl rfl rfl rfl ?_) | ((with_reducible refine g_nilCheck ?_); first | refine lx_nilCheck (r := (.ref _ _ _ _)) rfl rfl rfl rfl rfl rfl ?_) | ((with_reducible refine g_unOp ?_); first | refine lx_not rfl rfl rfl rfl rfl ?_) | ((with_reducible refine g_buildSlice ?_); first | refine lx_buildSlice rfl rfl rfl rfl rfl rfl rfl ?_) | ((with_reducible refine g_append ?_); first | refine lx_append_row rfl rfl rfl rfl rfl rfl rfl rfl rfl rfl ?_ ?_ ?_) | ((with_reducible refine g_call ?_); first | refine lx_call (r' := .t (.bool false)) [] rfl rfl hS (ArgsLE.refl _) rfl ⟨rfl, trivial⟩ rfl rfl rfl rfl rfl rfl rfl rfl rfl rfl ?_ | refine lx_call (r' := .tup []) [] rfl rfl hJ (ArgsLE.refl _) rfl ⟨rfl, trivial⟩ rfl rfl rfl rfl rfl rfl rfl rfl rfl rfl ?_ | refine lx_call (r' := .t (.str nm)) [] rfl rfl hM (ArgsLE.refl _) rfl ⟨rfl, rfl, rfl, trivial⟩ rfl rfl rfl rfl rfl rfl rfl rfl rfl rfl ?_ | refine lx_call (r' := .tup []) [] rfl rfl hC (ArgsLE.refl _) rfl ⟨rfl, trivial⟩ rfl rfl rfl rfl rfl rfl rfl rfl rfl rfl ?_ | refine lx_call (r' := .t (.agg [.int .i64 x.kind, .bool x.bool, .int .i64 x.num, .str x.text, .sl 1 (x.names.map .str), .sl 6 (x.items.map Nd.toT)])) [] rfl rfl hN (ArgsLE.refl _) rfl ⟨rfl, rfl, rfl, trivial⟩ rfl rfl rfl rfl rfl rfl rfl rfl rfl rfl ?_))
          all_goals try (exfalso; omega)
          all_goals try (simp only [List.length_map, List.length_cons, List.length_nil]; omega)
          refine q_loop (n' := m) (by omega) ((ghost_keep2 [0, 2, 3, 5, 8, 9] [.par 0, .loc 5, .loc 8, .loc 45, .loc 34, .par 103, .par 104] rfl rfl).trans ((ghost_renL2 (.loc 45) (.loc 900) rfl rfl rfl rfl).trans (ghost_renL2 (.loc 34) (.loc 901) rfl rfl rfl rfl))) ⟨false, ns ++ [nm], is ++ [x], ⟨us, ub⟩, by omega, by simp only [List.length_append, List.length_cons, List.length_nil]; omega, by simp only [List.length_append, List.length_cons, List.length_nil]; omega, hb.1, fun h => by have := (hl h).2; simp only at this ⊢; omega, hi, rfl, ?_⟩
          rw [List.map_append, List.map_append, List.map_singleton, List.map_singleton, hT]; rfl
end Go.AL
