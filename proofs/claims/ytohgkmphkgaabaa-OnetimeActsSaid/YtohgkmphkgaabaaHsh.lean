/- What the kit's functions over dice and strings answer, on this seat. -/
import Derived.Test.YtohgkmphkgaabaaTy
import Derived.Test.YtohgkmphkgaabaaPur
import Derived.Test.YtohgkmphkgaabaaAl3
import Derived.Test.YtohgkmphkgaabaaHsg
set_option linter.unusedVariables false
namespace Go.AL
open Go Go.Proofs Go.RowKit


/-- Dice in memory. -/
def Dc.row (d : Dc) : Row := .var 113 [.t (.sl 1 (d.l.map (T.int .i64))), .t (.int .i64 d.k)]
theorem modI_tmod (n m : Int) (h : 1 ≤ m) : (n.tmod m + m).tmod m = modI n m ∧ 0 ≤ n.tmod m + m ∧ n.tmod m + m ≤ 2 * m := by
  have h1 : -m < n.tmod m ∧ n.tmod m < m := by
    have a := Int.tmod_lt_of_pos n (b := m) (by omega)
    have b := Int.lt_tmod_of_pos n (b := m) (by omega)
    exact ⟨b, a⟩
  refine ⟨?_, by omega, by omega⟩
  unfold modI
  rw [if_neg (by omega), Int.tmod_eq_emod_of_nonneg (by omega), Int.tmod_def, show n - m * n.tdiv m + m = n + m * (1 - n.tdiv m) by rw [Int.mul_sub]; omega, Int.add_mul_emod_self_left]
set_option maxHeartbeats 1000000 in
theorem Mod_spec (n m : Int) (h : m ≤ 4611686018427387903) : Spec Try.prog 14 [.t (.int .i64 n), .t (.int .i64 m)] [] (.t (.int .i64 (modI n m))) [] := by
  refine spec_intro (env0 := [(0, _), (1, _)]) (st0 := []) Try.func14 rfl rfl rfl rfl ?_
  repeat' (first | (with_reducible refine codeT_seq ?_) | (with_reducible refine codeT_skip ?_) | (with_reducible refine codeT_ret ?_) | (with_reducible refine codeT_regionL ?_) | (with_reducible refine lx_nil ?_) | (with_reducible refine q_then ?_) | (with_reducible refine q_then_ret ?_) | ((with_reducible refine g_move ?_); first | refine lx_move (r := (.t _)) rfl rfl rfl rfl rfl ?_) | ((with_reducible refine g_binOp ?_); first | refine lx_arith rfl rfl rfl rfl rfl rfl rfl ?_ | refine lx_rem rfl rfl rfl rfl rfl rfl ?_ ?_) | ((with_reducible refine g_assign ?_); first | refine lx_assign (r := (.t _)) rfl rfl rfl rfl rfl ?_) | refine c_condP rfl (fun hc => ?_) (fun hc => ?_))
  all_goals try omega
  · exact q_ret (resT_oneE rfl rfl (by unfold modI; rw [if_pos hc])) (by simp)
  · have e := modI_tmod n m (by omega)
    refine q_ret (resT_oneE rfl rfl ?_) (by simp)
    rw [wrap64 (by omega) (by omega), e.1]
/-- The string whose byte at a place is changed by so much. -/
def spoil (s : ByteArray) (at_ by_ : Int) : ByteArray :=
  if s = ⟨#[]⟩ then s else
  strT ((bytesT s).set (modI at_ s.size).toNat (.int .u8 (IntKind.u8.wrap (((s.data.toList.getD (modI at_ s.size).toNat default).toNat : Int) + IntKind.u8.wrap by_))))
theorem ba_len (s : ByteArray) : s.size = s.data.toList.length := by cases s; rfl
set_option maxHeartbeats 2000000 in
theorem Spoil_spec (s : ByteArray) (a b : Int) (hs : s.size ≤ 4611686018427387903) : Spec Try.prog 42 [.t (.str s), .t (.int .i64 a), .t (.int .i64 b)] [] (.t (.str (spoil s a b))) [] := by
  have hm := Mod_spec a s.size (by omega)
  unfold spoil
  by_cases h0 : s = ⟨#[]⟩
  · rw [if_pos h0]
    refine spec_intro (env0 := [(0, _), (1, _), (2, _)]) (st0 := []) Try.func42 rfl rfl rfl rfl ?_
    repeat' (first | (with_reducible refine codeT_seq ?_) | (with_reducible refine codeT_skip ?_) | (with_reducible refine codeT_ret ?_) | (with_reducible refine codeT_regionL ?_) | (with_reducible refine lx_nil ?_) | (with_reducible refine q_then ?_) | (with_reducible refine q_then_ret ?_) | ((with_reducible refine g_move ?_); first | refine lx_move (r := (.t _)) rfl rfl rfl rfl rfl ?_ | refine lx_move (r := (.row _)) rfl rfl rfl rfl rfl ?_) | ((with_reducible refine g_binOp ?_); first | refine lx_str_eq rfl rfl rfl rfl rfl rfl ?_) | ((with_reducible refine g_assign ?_); first | refine lx_assign (r := (.t _)) rfl rfl rfl rfl rfl ?_ | refine lx_assign (r := (.row _)) rfl rfl rfl rfl rfl ?_) | ((with_reducible refine g_convert ?_); first | refine lx_toBytes rfl rfl rfl rfl rfl rfl ?_ ?_) | ((with_reducible refine g_len ?_); first | refine lx_len_rowmap rfl rfl rfl rfl rfl rfl ?_) | ((with_reducible refine g_call ?_); first | exact absurd h0 ‹_›) | refine c_condP rfl (fun hc => ?_) (fun hc => ?_))
    · exact q_ret (resT_oneE rfl rfl rfl) (by simp)
    all_goals first | exact absurd h0 ‹¬ s = ⟨#[]⟩› | omega
  · rw [if_neg h0]
    have hlt := modI_lt a s.size (by
      have : s.size ≠ 0 := fun e => h0 (by cases s with | mk d => cases d with | mk l => cases l with | nil => rfl | cons x xs => simp [ByteArray.size] at e)
      omega)
    generalize modI a s.size = k at *
    refine spec_intro (env0 := [(0, _), (1, _), (2, _)]) (st0 := []) Try.func42 rfl rfl rfl rfl ?_
    repeat' (first | (with_reducible refine codeT_seq ?_) | (with_reducible refine codeT_skip ?_) | (with_reducible refine codeT_ret ?_) | (with_reducible refine codeT_regionL ?_) | (with_reducible refine lx_nil ?_) | (with_reducible refine q_then ?_) | (with_reducible refine q_then_ret ?_) | ((with_reducible refine g_move ?_); first | refine lx_move (r := (.t _)) rfl rfl rfl rfl rfl ?_ | refine lx_move (r := (.row _)) rfl rfl rfl rfl rfl ?_) | ((with_reducible refine g_load ?_); first | refine lx_load_elsM rfl rfl rfl rfl rfl rfl rfl rfl ?_ ?_) | ((with_reducible refine g_binOp ?_); first | refine lx_arith rfl rfl rfl rfl rfl rfl rfl ?_ | refine lx_str_eq rfl rfl rfl rfl rfl rfl ?_) | ((with_reducible refine g_assign ?_); first | refine lx_assign (r := (.t _)) rfl rfl rfl rfl rfl ?_ | refine lx_assign (r := (.row _)) rfl rfl rfl rfl rfl ?_) | ((with_reducible refine g_store ?_); first | refine lx_store_slt rfl rfl rfl rfl rfl rfl ?_ ?_ ?_) | ((with_reducible refine g_indexAddr ?_); first | refine lx_indexAddr_row rfl rfl rfl rfl rfl rfl rfl ?_ ?_ ?_) | ((with_reducible refine g_convert ?_); first | refine lx_conv_int rfl rfl rfl rfl rfl ?_ | refine lx_toBytes rfl rfl rfl rfl rfl rfl ?_ ?_ | refine lx_ofBytes_row rfl rfl rfl rfl rfl rfl ?_ ?_) | ((with_reducible refine g_len ?_); first | refine lx_len_rowmap rfl rfl rfl rfl rfl rfl ?_) | ((with_reducible refine g_call ?_); first | refine lx_callT rfl rfl hm rfl rfl (ArgsLE.refl _) rfl rfl rfl rfl rfl ?_) | refine c_condP rfl (fun hc => ?_) (fun hc => ?_))
    all_goals try exact absurd ‹s = ⟨#[]⟩› h0
    all_goals try omega
    all_goals try (simp only [bytesT, List.length_map]; rw [← ba_len]; omega)
    all_goals try rfl
    · rw [← ba_len]; omega
    · intro e he
      rcases List.mem_or_eq_of_mem_set he with h | rfl
      · simp only [bytesT, List.mem_map] at h
        obtain ⟨c, _, rfl⟩ := h
        rfl
      · rfl
    · exact q_ret (resT_oneE rfl rfl rfl) (by simp)
theorem strT_len (l : List T) : (strT l).size = l.length := by
  unfold strT strOfNums
  rw [ByteArray.size, List.size_toArray, List.length_map, List.length_map]
theorem spoil_size (s : ByteArray) (a b : Int) : (spoil s a b).size = s.size := by
  unfold spoil
  split
  · rfl
  · rw [strT_len, List.length_set, bytesT, List.length_map]; exact toList_len s
end Go.AL
/- That the law OnetimeActs is true, as a contract. -/
set_option linter.unusedVariables false
namespace Go.AL
open Go Go.Proofs Go.RowKit

set_option maxHeartbeats 16000000 in
theorem OnetimeActs_spec (v m o : ByteArray) (c p at_ by_ : Int) : Spec Try.prog 8 [.t (.str v), .t (.str m), .t (.str o), .t (.int .i64 c), .t (.int .i64 p), .t (.int .i64 at_), .t (.int .i64 by_)] [] (.t (.bool true)) [] := by
  have hA := awake11_spec
  by_cases hg : v.size ≤ 300 ∧ m.size ≤ 500 ∧ o.size ≤ 1000
  · obtain ⟨hv, hm, ho⟩ := hg
    have h1 := Digits_spec m (by omega)
    have h2 := qDigits_spec m (by omega)
    rw [digL_natL] at h1 h2
    have hlen := natL_len (digA (sha m))
    generalize natL (digA (sha m)) = L at h1 h2 hlen
    have h3 := Step_spec v (by omega) c p
    have h4 := qStep_spec v (by omega) c p
    generalize stepS v c p = X1 at h3 h4
    have h5 := Secret_spec v (by omega) c
    have h6 := qSecret_spec v (by omega) c
    generalize secS v c = X2 at h5 h6
    have h7 := Public_spec v (by omega)
    have h8 := qPublic_spec v (by omega)
    generalize pubS v = X3 at h7 h8
    have h9 := Sign_spec v m (by omega) (by omega)
    have h10 := qSign_spec v m (by omega) (by omega)
    have zS := sigS_size v m
    generalize sigS v m = S at *
    have hP := Spoil_spec S at_ by_ (by omega)
    have zP := spoil_size S at_ by_
    generalize spoil S at_ by_ = sp at *
    have zx : (⟨#[120]⟩ : ByteArray).size = 1 := rfl
    refine spec_intro (env0 := [(0, _), (1, _), (2, _), (3, _), (4, _), (5, _), (6, _)]) (st0 := []) Try.func8 rfl rfl rfl rfl ?_
    repeat' (first | (with_reducible refine codeT_seq ?_) | (with_reducible refine codeT_block ?_) | (with_reducible refine codeT_skip ?_) | (with_reducible refine codeT_regionL ?_) | (with_reducible refine lx_nil ?_) | (with_reducible refine q_then ?_) | (exfalso; omega) | exact absurd rfl hc | ((with_reducible refine g_move ?_); first | refine lx_move (r := (.t _)) rfl rfl rfl rfl rfl ?_) | ((with_reducible refine g_binOp ?_); first | refine lx_arith rfl rfl rfl rfl rfl rfl rfl ?_ | refine lx_str_ne rfl rfl rfl rfl rfl rfl ?_) | ((with_reducible refine g_assign ?_); first | refine lx_assign (r := (.t _)) rfl rfl rfl rfl rfl ?_) | ((with_reducible refine g_pick ?_); first | refine lx_pickF (r := (.t _)) rfl rfl rfl rfl rfl rfl ?_) | ((with_reducible refine g_len ?_); first | refine lx_len_map rfl rfl rfl rfl rfl ?_ | refine lx_len_str rfl rfl rfl rfl rfl ?_) | ((with_reducible refine g_call ?_); first | refine lx_callT rfl rfl h1 rfl rfl (ArgsLE.refl _) rfl rfl rfl rfl rfl ?_ | refine lx_callT rfl rfl h2 rfl rfl (ArgsLE.refl _) rfl rfl rfl rfl rfl ?_ | refine lx_callT rfl rfl h3 rfl rfl (ArgsLE.refl _) rfl rfl rfl rfl rfl ?_ | refine lx_callT rfl rfl h4 rfl rfl (ArgsLE.refl _) rfl rfl rfl rfl rfl ?_ | refine lx_callT rfl rfl h5 rfl rfl (ArgsLE.refl _) rfl rfl rfl rfl rfl ?_ | refine lx_callT rfl rfl h6 rfl rfl (ArgsLE.refl _) rfl rfl rfl rfl rfl ?_ | refine lx_callT rfl rfl h7 rfl rfl (ArgsLE.refl _) rfl rfl rfl rfl rfl ?_ | refine lx_callT rfl rfl h8 rfl rfl (ArgsLE.refl _) rfl rfl rfl rfl rfl ?_) | refine c_condP rfl (fun hc => ?_) (fun hc => ?_) | refine c_condN rfl (fun hc => ?_) (fun hc => ?_) | refine lx_splitP rfl (fun hc => ?_) (fun hc => ?_) | refine lx_splitN rfl (fun hc => ?_) (fun hc => ?_))
    refine codeT_ghost (ghost_keep2 [0, 1, 2, 5, 6, 15, 76, 77, 78] [] rfl rfl) ?_
    refine codeT_loop (fun q env st => ∃ (j : Nat), j ≤ 36 ∧ q = 36 - j ∧
        env = EnvL.get [(0, .t (.str v)), (1, .t (.str m)), (2, .t (.str o)), (5, .t (.int .i64 at_)), (6, .t (.int .i64 by_)), (15, .t (.sl 1 (L.map (T.int .i64)))), (76, .t (.sl 1 (L.map (T.int .i64)))), (77, .t (.int .i64 (L.length : Int))), (78, .t (.int .i64 (j : Int)))] ∧ st = StO.get [])
      ?_ (n := 36) ⟨0, by omega, rfl, rfl, rfl⟩
    rintro q env st ⟨j, hj, rfl, rfl, rfl⟩
    by_cases hlt : j < 36
    · repeat' (first | (with_reducible refine codeT_seq ?_) | (with_reducible refine codeT_block ?_) | (with_reducible refine codeT_skip ?_) | (with_reducible refine codeT_exit ?_) | (with_reducible refine codeT_regionL ?_) | (with_reducible refine lx_nil ?_) | (with_reducible refine q_then ?_) | (with_reducible refine q_then_exit ?_) | (with_reducible refine q_block ?_) | ((with_reducible refine q_block_same ?_ ?_); · rfl) | (with_reducible refine q_loop_exit ?_) | (exfalso; omega) | ((with_reducible refine g_move ?_); first | refine lx_move (r := (.t _)) rfl rfl rfl rfl rfl ?_) | ((with_reducible refine g_load ?_); first | refine lx_load_tp rfl rfl rfl rfl rfl rfl rfl ?_) | ((with_reducible refine g_binOp ?_); first | refine lx_arith rfl rfl rfl rfl rfl rfl rfl ?_) | ((with_reducible refine g_assign ?_); first | refine lx_assign (r := (.t _)) rfl rfl rfl rfl rfl ?_) | ((with_reducible refine g_indexAddr ?_); first | refine lx_indexAddr_map rfl rfl rfl rfl rfl rfl ?_ ?_ ?_) | refine c_condP rfl (fun hc => ?_) (fun hc => ?_) | refine c_condN rfl (fun hc => ?_) (fun hc => ?_))
      all_goals try (exact absurd rfl hc)
      all_goals try omega
      all_goals try (exact absurd rfl ‹_›)
      exact q_loop (n' := 36 - (j + 1)) (by omega) (ghost_keep2 [0, 1, 2, 5, 6, 15, 76, 77, 78] [] rfl rfl) ⟨j + 1, by omega, rfl, by rw [wrap64 (by omega) (by omega)]; rfl, rfl⟩
    · obtain rfl : j = 36 := by omega
      repeat' (first | (with_reducible refine codeT_seq ?_) | (with_reducible refine codeT_block ?_) | (with_reducible refine codeT_skip ?_) | (with_reducible refine codeT_exit ?_) | (with_reducible refine codeT_regionL ?_) | ((with_reducible refine codeT_region_drawL ?_ ?_); · rfl) | (with_reducible refine lx_nil ?_) | (with_reducible refine q_then ?_) | (with_reducible refine q_then_exit ?_) | ((with_reducible refine q_block_same ?_ ?_); · rfl) | (with_reducible refine q_loop_exit ?_) | ((with_reducible refine q_region_draw ?_ ?_); · rfl) | (exfalso; omega) | exact absurd rfl hc | ((with_reducible refine g_move ?_); first | refine lx_move (r := (.t _)) rfl rfl rfl rfl rfl ?_) | ((with_reducible refine g_binOp ?_); first | refine lx_arith rfl rfl rfl rfl rfl rfl rfl ?_ | refine lx_str_ne rfl rfl rfl rfl rfl rfl ?_ | refine lx_concat rfl rfl rfl rfl rfl rfl ?_ ?_) | ((with_reducible refine g_assign ?_); first | refine lx_assign (r := (.t _)) rfl rfl rfl rfl rfl ?_) | ((with_reducible refine g_slice ?_); first | refine lx_slice_str rfl rfl rfl ⟨_, rfl⟩ rfl rfl rfl ?_ ?_ ?_ ?_) | ((with_reducible refine g_buildSlice ?_); first | refine lx_buildSlice rfl rfl rfl rfl rfl rfl rfl ?_) | ((with_reducible refine g_len ?_); first | refine lx_len_str rfl rfl rfl rfl rfl ?_ | refine lx_len_row rfl rfl rfl rfl rfl rfl ?_) | ((with_reducible refine g_call ?_); first | refine lx_callT rfl rfl h9 rfl rfl (ArgsLE.refl _) rfl rfl rfl rfl rfl ?_ | refine lx_callT rfl rfl h10 rfl rfl (ArgsLE.refl _) rfl rfl rfl rfl rfl ?_ | refine lx_callT rfl rfl hP rfl rfl (ArgsLE.refl _) rfl rfl rfl rfl rfl ?_) | refine c_condP rfl (fun hc => ?_) (fun hc => ?_) | refine c_condN rfl (fun hc => ?_) (fun hc => ?_))
      all_goals try omega
      all_goals try (rw [wrap64 (by omega) (by omega)]; omega)
      refine codeT_ghost (ghost_keep2 [1, 111, 112, 113] [.loc 111] rfl rfl) ?_
      refine codeT_ghost (ghost_freezeL (id := .loc 111) rfl rfl rfl) ?_
      obtain ⟨W, hW⟩ : ∃ W, W = [S, o, sp, S.extract (Int.toNat 0) (IntKind.i64.wrap ((S.size : Int) - 1)).toNat, S ++ ⟨#[120]⟩] := ⟨_, rfl⟩
      have hWx : ∀ x ∈ W, x.size ≤ 200000 := by
        intro x hx
        rw [hW] at hx
        simp only [List.mem_cons, List.not_mem_nil, or_false] at hx
        rcases hx with rfl | rfl | rfl | rfl | rfl
        · omega
        · omega
        · omega
        · simp only [ByteArray.size_extract]; omega
        · simp only [ByteArray.size_append, zx]; omega
      refine codeT_ghost (ghost_le 111 (y := .sl 1 (W.map .str)) rfl (by rw [hW]; exact .refl _) rfl) ?_
      have hW5 : W.length = 5 := by rw [hW]; rfl
      clear h1 h2 h3 h4 h5 h6 h7 h8 h9 h10 hP hW
      refine codeT_ghost (ghost_keep2 [1, 111, 112, 113] [] rfl rfl) ?_
      refine codeT_loop (fun q env st => ∃ (j : Nat), j ≤ 5 ∧ q = 5 - j ∧
          env = EnvL.get [(1, .t (.str m)), (111, .t (.sl 1 (W.map .str))), (112, .t (.int .i64 5)), (113, .t (.int .i64 (j : Int)))] ∧ st = StO.get [])
        ?_ (n := 5) ⟨0, by omega, rfl, rfl, rfl⟩
      rintro q env st ⟨j, hj, rfl, rfl, rfl⟩
      by_cases hlt : j < 5
      · have hmm : W.getD (j : Int).toNat default ∈ W := by
          rw [List.getD_eq_getElem?_getD, List.getElem?_eq_getElem (by omega)]; exact List.getElem_mem _
        have hx := hWx _ hmm
        have hR := Recover_spec m (W.getD (j : Int).toNat default) (by omega) (by omega)
        have hQ := qRecover_spec m (W.getD (j : Int).toNat default) (by omega) (by omega)
        generalize recR m (W.getD (j : Int).toNat default) = y1 at hR hQ
        generalize recE (W.getD (j : Int).toNat default) = y2 at hR hQ
        repeat' (first | (with_reducible refine codeT_seq ?_) | (with_reducible refine codeT_block ?_) | (with_reducible refine codeT_skip ?_) | (with_reducible refine codeT_exit ?_) | (with_reducible refine codeT_regionL ?_) | (with_reducible refine lx_nil ?_) | (with_reducible refine q_then ?_) | (with_reducible refine q_then_exit ?_) | (with_reducible refine q_block ?_) | ((with_reducible refine q_block_same ?_ ?_); · rfl) | (with_reducible refine q_loop_exit ?_) | (exfalso; omega) | exact absurd rfl hc | ((with_reducible refine g_move ?_); first | refine lx_move (r := (.t _)) rfl rfl rfl rfl rfl ?_ | refine lx_move (r := (.tup _)) rfl rfl rfl rfl rfl ?_) | ((with_reducible refine g_load ?_); first | refine lx_load_tp rfl rfl rfl rfl rfl rfl rfl ?_) | ((with_reducible refine g_binOp ?_); first | refine lx_arith rfl rfl rfl rfl rfl rfl rfl ?_ | refine lx_str_ne rfl rfl rfl rfl rfl rfl ?_) | ((with_reducible refine g_assign ?_); first | refine lx_assign (r := (.t _)) rfl rfl rfl rfl rfl ?_) | ((with_reducible refine g_pick ?_); first | refine lx_pickF (r := (.t _)) rfl rfl rfl rfl rfl rfl ?_) | ((with_reducible refine g_indexAddr ?_); first | refine lx_indexAddr_map rfl rfl rfl rfl rfl rfl ?_ ?_ ?_) | ((with_reducible refine g_extract ?_); first | refine lx_extract rfl rfl rfl rfl rfl rfl ?_) | ((with_reducible refine g_call ?_); first | refine lx_callT rfl rfl hR rfl rfl (ArgsLE.refl _) rfl rfl rfl rfl rfl ?_ | refine lx_callT rfl rfl hQ rfl rfl (ArgsLE.refl _) rfl rfl rfl rfl rfl ?_) | refine c_condP rfl (fun hc => ?_) (fun hc => ?_) | refine c_condN rfl (fun hc => ?_) (fun hc => ?_) | refine lx_splitN rfl (fun hc => ?_) (fun hc => ?_))
        all_goals try omega
        all_goals try (exact absurd rfl ‹_›)
        exact q_loop (n' := 5 - (j + 1)) (by omega) (ghost_keep2 [1, 111, 112, 113] [] rfl rfl) ⟨j + 1, by omega, rfl, by rw [wrap64 (by omega) (by omega)]; rfl, rfl⟩
      · repeat' (first | (with_reducible refine codeT_seq ?_) | (with_reducible refine codeT_block ?_) | (with_reducible refine codeT_skip ?_) | (with_reducible refine codeT_ret ?_) | (with_reducible refine codeT_exit ?_) | (with_reducible refine codeT_regionL ?_) | (with_reducible refine lx_nil ?_) | (with_reducible refine q_then ?_) | (with_reducible refine q_then_exit ?_) | ((with_reducible refine q_block_same ?_ ?_); · rfl) | (with_reducible refine q_loop_exit ?_) | (exfalso; omega) | ((with_reducible refine g_binOp ?_); first | refine lx_arith rfl rfl rfl rfl rfl rfl rfl ?_) | ((with_reducible refine g_assign ?_); first | refine lx_assign (r := (.t _)) rfl rfl rfl rfl rfl ?_) | ((with_reducible refine g_call ?_); first | refine lx_callT rfl rfl hA rfl rfl (ArgsLE.refl _) rfl rfl rfl rfl rfl ?_) | refine c_condP rfl (fun hc => ?_) (fun hc => ?_))
        exact q_ret (resT_oneE rfl rfl rfl) (by simp)
  · have hg' : ¬ ((v.size : Int) ≤ 300 ∧ (m.size : Int) ≤ 500 ∧ (o.size : Int) ≤ 1000) := by omega
    refine spec_intro (env0 := [(0, _), (1, _), (2, _), (3, _), (4, _), (5, _), (6, _)]) (st0 := []) Try.func8 rfl rfl rfl rfl ?_
    repeat' (first | (with_reducible refine codeT_seq ?_) | (with_reducible refine codeT_skip ?_) | (with_reducible refine codeT_ret ?_) | (with_reducible refine codeT_regionL ?_) | (with_reducible refine lx_nil ?_) | (with_reducible refine q_then ?_) | (with_reducible refine q_then_ret ?_) | refine c_condT rfl ?_ | (exfalso; omega) | ((with_reducible refine g_guard ?_); first | refine lx_skip rfl rfl rfl ?_) | ((with_reducible refine g_move ?_); first | refine lx_move (r := (.t _)) rfl rfl rfl rfl rfl ?_) | ((with_reducible refine g_binOp ?_); first | refine lx_arith rfl rfl rfl rfl rfl rfl rfl ?_) | ((with_reducible refine g_assign ?_); first | refine lx_assign (r := (.t _)) rfl rfl rfl rfl rfl ?_) | ((with_reducible refine g_pick ?_); first | refine lx_pickT (r := (.t _)) rfl rfl rfl rfl rfl rfl ?_ | refine lx_pickF (r := (.t _)) rfl rfl rfl rfl rfl rfl ?_) | ((with_reducible refine g_len ?_); first | refine lx_len_str rfl rfl rfl rfl rfl ?_) | ((with_reducible refine g_call ?_); first | refine lx_callT rfl rfl hA rfl rfl (ArgsLE.refl _) rfl rfl rfl rfl rfl ?_) | refine c_condP rfl (fun hc => ?_) (fun hc => ?_) | refine lx_splitP rfl (fun hc => ?_) (fun hc => ?_))
    all_goals try (exfalso; omega)
    all_goals exact q_ret (resT_oneE rfl rfl rfl) (by simp)
end Go.AL
