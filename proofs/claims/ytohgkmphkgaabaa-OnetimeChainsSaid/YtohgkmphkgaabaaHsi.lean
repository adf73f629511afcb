/- That the law OnetimeChains is true, as a contract. -/
import Derived.Test.YtohgkmphkgaabaaHsg
set_option linter.unusedVariables false
namespace Go.AL
open Go Go.Proofs Go.RowKit

set_option maxHeartbeats 16000000 in
theorem OnetimeChains_spec (v m : ByteArray) : Spec Try.prog 10 [.t (.str v), .t (.str m)] [] (.t (.bool true)) [] := by
  have hA := awake11_spec
  by_cases hg : v.size ≤ 200 ∧ m.size ≤ 300
  · obtain ⟨hv, hm⟩ := hg
    have h1 := Digits_spec m (by omega)
    rw [digL_natL] at h1
    have h9 := Sign_spec v m (by omega) (by omega)
    have zS := sigS_size v m
    have pS : ∀ c, c < 36 → (sigS v m).extract (16 * c) (16 * (c + 1)) = stepsS (secS v (c : Int)) (c : Int) 0 (digA (sha m) c) := fun c hc => catP_part (wlkF_size v _) 36 c hc
    generalize sigS v m = S at *
    have hd := digA_lt (sha m)
    generalize digA (sha m) = d at h1 hd pS
    have hlen := natL_len d
    have h7 := Public_spec v (by omega)
    unfold pubS at h7
    have zW := wlkS_size v (fun _ => 3) 36
    have hSh := qShort_spec (wlkS v (fun _ => 3) 36) (by omega)
    generalize shortS (wlkS v (fun _ => 3) 36) = Y at h7 hSh
    have zS' : (S.size : Int) = 576 := by omega
    have hlen' : ((natL d).length : Int) = 36 := by omega
    refine spec_intro (env0 := [(0, _), (1, _)]) (st0 := []) Try.func10 rfl rfl rfl rfl ?_
    repeat' (first | (with_reducible refine codeT_seq ?_) | (with_reducible refine codeT_block ?_) | (with_reducible refine codeT_skip ?_) | (with_reducible refine codeT_regionL ?_) | (with_reducible refine lx_nil ?_) | (with_reducible refine q_then ?_) | refine c_condF rfl ?_ | (exfalso; omega) | ((with_reducible refine g_move ?_); first | refine lx_move (r := (.t _)) rfl rfl rfl rfl rfl ?_) | ((with_reducible refine g_binOp ?_); first | refine lx_arith rfl rfl rfl rfl rfl rfl rfl ?_) | ((with_reducible refine g_assign ?_); first | refine lx_assign (r := (.t _)) rfl rfl rfl rfl rfl ?_) | ((with_reducible refine g_pick ?_); first | refine lx_pickF (r := (.t _)) rfl rfl rfl rfl rfl rfl ?_) | ((with_reducible refine g_len ?_); first | refine lx_len_map rfl rfl rfl rfl rfl ?_ | refine lx_len_str rfl rfl rfl rfl rfl ?_) | ((with_reducible refine g_call ?_); first | refine lx_callT rfl rfl h1 rfl rfl (ArgsLE.refl _) rfl rfl rfl rfl rfl ?_ | refine lx_callT rfl rfl h9 rfl rfl (ArgsLE.refl _) rfl rfl rfl rfl rfl ?_) | refine c_condP rfl (fun hc => ?_) (fun hc => ?_) | refine lx_splitP rfl (fun hc => ?_) (fun hc => ?_) | refine lx_splitN rfl (fun hc => ?_) (fun hc => ?_))
    refine codeT_ghost (ghost_keep2 [0, 5, 6, 7, 33] [] rfl rfl) ?_
    refine codeT_loop (fun q env st => ∃ (j : Nat), j ≤ 36 ∧ q = 36 - j ∧
        env = EnvL.get [(0, .t (.str v)), (5, .t (.str S)), (6, .t (.sl 1 ((natL d).map (T.int .i64)))), (7, .t (.str (wlkS v (fun _ => 3) j))), (33, .t (.int .i64 (j : Int)))] ∧ st = StO.get [])
      ?_ (n := 36) ⟨0, by omega, rfl, rfl, rfl⟩
    rintro q env st ⟨j, hj, rfl, rfl, rfl⟩
    have hzj := wlkS_size v (fun _ => 3) j
    by_cases hlt : j < 36
    · have hS1 := Secret_spec v (by omega) (j : Int)
      have hz1 := secS_size v (j : Int)
      have hp := pS j hlt
      have hg := natL_get d hlt
      have hd4 := hd j
      have hsucc := wlkS_succ v (fun _ => 3) j
      have hzf := wlkF_size v (fun _ => 3) j
      have hst : wlkF v (fun _ => 3) j = stepsS (secS v (j : Int)) (j : Int) 0 3 := rfl
      generalize secS v (j : Int) = X at *
      repeat' (first | (with_reducible refine codeT_seq ?_) | (with_reducible refine codeT_block ?_) | (with_reducible refine codeT_skip ?_) | (with_reducible refine codeT_exit ?_) | (with_reducible refine codeT_regionL ?_) | (with_reducible refine lx_nil ?_) | (with_reducible refine q_then ?_) | (with_reducible refine q_then_exit ?_) | ((with_reducible refine q_block_same ?_ ?_); · rfl) | (with_reducible refine q_loop_exit ?_) | (exfalso; omega) | ((with_reducible refine g_move ?_); first | refine lx_move (r := (.t _)) rfl rfl rfl rfl rfl ?_) | ((with_reducible refine g_binOp ?_); first | refine lx_arith rfl rfl rfl rfl rfl rfl rfl ?_) | ((with_reducible refine g_assign ?_); first | refine lx_assign (r := (.t _)) rfl rfl rfl rfl rfl ?_) | ((with_reducible refine g_call ?_); first | refine lx_callT rfl rfl hS1 rfl rfl (ArgsLE.refl _) rfl rfl rfl rfl rfl ?_) | refine c_condP rfl (fun hc => ?_) (fun hc => ?_))
      refine codeT_ghost (ghost_keep2 [0, 5, 6, 7, 8, 9, 33, 39] [] rfl rfl) ?_
      refine codeT_loop (fun q env st => ∃ (p : Nat), p ≤ 4 ∧ q = 4 - p ∧
          env = EnvL.get [(0, .t (.str v)), (5, .t (.str S)), (6, .t (.sl 1 ((natL d).map (T.int .i64)))), (7, .t (.str (wlkS v (fun _ => 3) j))), (8, .t (.int .i64 (j : Int))), (9, .t (.str (stepsS X (j : Int) 0 (min p 3)))), (33, .t (.int .i64 (j : Int))), (39, .t (.int .i64 (p : Int)))] ∧ st = StO.get [])
        ?_ (n := 4) ⟨0, by omega, rfl, rfl, rfl⟩
      rintro q env st ⟨p, hp4, rfl, rfl, rfl⟩
      by_cases hpt : p < 4
      · rw [show min p 3 = p by omega]
        have hzp := stepsS_size hz1 (j : Int) 0 p
        have hT := Step_spec (stepsS X (j : Int) 0 p) (by omega) (j : Int) ((0 + p : Nat) : Int)
        rw [show stepS (stepsS X (j : Int) 0 p) (j : Int) ((0 + p : Nat) : Int) = stepsS X (j : Int) 0 (p + 1) from rfl, Nat.zero_add] at hT
        have hne : p = d j → stepsS X (j : Int) 0 p = stepsS X (j : Int) 0 (d j) := fun h => by rw [h]
        rw [← hp] at hne
        have i1 : IntKind.i64.wrap ((j : Int) * 16) = ((16 * j : Nat) : Int) := by rw [wrap64 (by omega) (by omega)]; omega
        have i2 : IntKind.i64.wrap ((j : Int) + 1) = ((j + 1 : Nat) : Int) := by rw [wrap64 (by omega) (by omega)]; omega
        have i3 : IntKind.i64.wrap (((j + 1 : Nat) : Int) * 16) = ((16 * (j + 1) : Nat) : Int) := by rw [wrap64 (by omega) (by omega)]; omega
        have e1 : S.extract (IntKind.i64.wrap ((j : Int) * 16)).toNat (IntKind.i64.wrap (IntKind.i64.wrap ((j : Int) + 1) * 16)).toNat = S.extract (16 * j) (16 * (j + 1)) := by rw [i2, i1, i3]; rfl
        rw [← e1] at hne
        repeat' (first | (with_reducible refine codeT_seq ?_) | (with_reducible refine codeT_block ?_) | (with_reducible refine codeT_skip ?_) | (with_reducible refine codeT_ret ?_) | (with_reducible refine codeT_exit ?_) | (with_reducible refine codeT_regionL ?_) | (with_reducible refine lx_nil ?_) | (with_reducible refine q_then ?_) | (with_reducible refine q_then_exit ?_) | (with_reducible refine q_then_ret ?_) | (with_reducible refine q_block ?_) | (with_reducible refine q_block_ret ?_) | ((with_reducible refine q_block_same ?_ ?_); · rfl) | (with_reducible refine q_loop_exit ?_) | (with_reducible refine q_loop_ret ?_) | refine c_condF rfl ?_ | (exfalso; omega) | ((with_reducible refine g_guard ?_); first | refine lx_skip rfl rfl rfl ?_) | ((with_reducible refine g_move ?_); first | refine lx_move (r := (.t _)) rfl rfl rfl rfl rfl ?_) | ((with_reducible refine g_load ?_); first | refine lx_load_tp rfl rfl rfl rfl rfl rfl rfl ?_) | ((with_reducible refine g_binOp ?_); first | refine lx_arith rfl rfl rfl rfl rfl rfl rfl ?_ | refine lx_str_ne rfl rfl rfl rfl rfl rfl ?_) | ((with_reducible refine g_assign ?_); first | refine lx_assign (r := (.t _)) rfl rfl rfl rfl rfl ?_) | ((with_reducible refine g_pick ?_); first | refine lx_pickT (r := (.t _)) rfl rfl rfl rfl rfl rfl ?_ | refine lx_pickF (r := (.t _)) rfl rfl rfl rfl rfl rfl ?_) | ((with_reducible refine g_indexAddr ?_); first | refine lx_indexAddr_map rfl rfl rfl rfl rfl rfl ?_ ?_ ?_) | ((with_reducible refine g_slice ?_); first | refine lx_slice_str rfl rfl ⟨_, rfl⟩ ⟨_, rfl⟩ rfl rfl rfl ?_ ?_ ?_ ?_) | ((with_reducible refine g_call ?_); first | refine lx_callT rfl rfl hT rfl rfl (ArgsLE.refl _) rfl rfl rfl rfl rfl ?_) | refine c_condP rfl (fun hc => ?_) (fun hc => ?_) | refine c_condN rfl (fun hc => ?_) (fun hc => ?_) | refine lx_splitP rfl (fun hc => ?_) (fun hc => ?_))
        all_goals try omega
        all_goals try (simp only [i1, i2, i3]; omega)
        all_goals try (exact absurd (hne (by omega)).symm hc)
        all_goals try (exact q_loop (n' := 4 - (p + 1)) (by omega) (ghost_keep2 [0, 5, 6, 7, 8, 9, 33, 39] [] rfl rfl) ⟨p + 1, by omega, rfl, by rw [wrap64 (by omega) (by omega), show min (p + 1) 3 = p + 1 by omega]; rfl, rfl⟩)
        all_goals try (exact q_loop (n' := 4 - (p + 1)) (by omega) (ghost_keep2 [0, 5, 6, 7, 8, 9, 33, 39] [] rfl rfl) ⟨p + 1, by omega, rfl, by rw [wrap64 (by omega) (by omega), show min (p + 1) 3 = p by omega]; rfl, rfl⟩)
      · obtain rfl : p = 4 := by omega
        rw [show min 4 3 = 3 from rfl, ← hst]
        repeat' (first | (with_reducible refine codeT_seq ?_) | (with_reducible refine codeT_exit ?_) | (with_reducible refine codeT_regionL ?_) | (with_reducible refine lx_nil ?_) | (with_reducible refine q_then ?_) | (with_reducible refine q_then_exit ?_) | (with_reducible refine q_block ?_) | ((with_reducible refine q_block_same ?_ ?_); · rfl) | (with_reducible refine q_loop_exit ?_) | refine c_condF rfl ?_ | ((with_reducible refine g_move ?_); first | refine lx_move (r := (.t _)) rfl rfl rfl rfl rfl ?_) | ((with_reducible refine g_binOp ?_); first | refine lx_arith rfl rfl rfl rfl rfl rfl rfl ?_ | refine lx_concat rfl rfl rfl rfl rfl rfl ?_ ?_) | ((with_reducible refine g_assign ?_); first | refine lx_assign (r := (.t _)) rfl rfl rfl rfl rfl ?_))
        all_goals try (rw [ByteArray.size_append] ; omega)
        all_goals try omega
        refine q_loop (n' := 36 - (j + 1)) (by omega) (ghost_keep2 [0, 5, 6, 7, 33] [] rfl rfl) ⟨j + 1, by omega, rfl, by rw [wrap64 (by omega) (by omega), hsucc]; rfl, rfl⟩
    · obtain rfl : j = 36 := by omega
      generalize wlkS v (fun _ => 3) 36 = W at *
      repeat' (first | (with_reducible refine codeT_seq ?_) | (with_reducible refine codeT_ret ?_) | (with_reducible refine codeT_exit ?_) | (with_reducible refine codeT_regionL ?_) | (with_reducible refine lx_nil ?_) | (with_reducible refine q_then ?_) | (with_reducible refine q_then_exit ?_) | ((with_reducible refine q_block_same ?_ ?_); · rfl) | (with_reducible refine q_loop_exit ?_) | refine c_condF rfl ?_ | exact absurd rfl hc | ((with_reducible refine g_move ?_); first | refine lx_move (r := (.t _)) rfl rfl rfl rfl rfl ?_) | ((with_reducible refine g_binOp ?_); first | refine lx_arith rfl rfl rfl rfl rfl rfl rfl ?_ | refine lx_str_eq rfl rfl rfl rfl rfl rfl ?_) | ((with_reducible refine g_assign ?_); first | refine lx_assign (r := (.t _)) rfl rfl rfl rfl rfl ?_) | ((with_reducible refine g_pick ?_); first | refine lx_pickT (r := (.t _)) rfl rfl rfl rfl rfl rfl ?_) | ((with_reducible refine g_call ?_); first | refine lx_callT rfl rfl hSh rfl rfl (ArgsLE.refl _) rfl rfl rfl rfl rfl ?_ | refine lx_callT rfl rfl h7 rfl rfl (ArgsLE.refl _) rfl rfl rfl rfl rfl ?_ | refine lx_callT rfl rfl hA rfl rfl (ArgsLE.refl _) rfl rfl rfl rfl rfl ?_) | refine lx_splitP rfl (fun hc => ?_) (fun hc => ?_))
      all_goals try (exact absurd rfl ‹_›)
      exact q_ret (resT_oneE rfl rfl (by simp)) (by simp)
  · have hg' : ¬ ((v.size : Int) ≤ 200 ∧ (m.size : Int) ≤ 300) := by omega
    refine spec_intro (env0 := [(0, _), (1, _)]) (st0 := []) Try.func10 rfl rfl rfl rfl ?_
    repeat' (first | (with_reducible refine codeT_seq ?_) | (with_reducible refine codeT_skip ?_) | (with_reducible refine codeT_ret ?_) | (with_reducible refine codeT_regionL ?_) | (with_reducible refine lx_nil ?_) | (with_reducible refine q_then ?_) | (with_reducible refine q_then_ret ?_) | refine c_condT rfl ?_ | (exfalso; omega) | ((with_reducible refine g_guard ?_); first | refine lx_skip rfl rfl rfl ?_) | ((with_reducible refine g_move ?_); first | refine lx_move (r := (.t _)) rfl rfl rfl rfl rfl ?_) | ((with_reducible refine g_binOp ?_); first | refine lx_arith rfl rfl rfl rfl rfl rfl rfl ?_) | ((with_reducible refine g_assign ?_); first | refine lx_assign (r := (.t _)) rfl rfl rfl rfl rfl ?_) | ((with_reducible refine g_pick ?_); first | refine lx_pickT (r := (.t _)) rfl rfl rfl rfl rfl rfl ?_ | refine lx_pickF (r := (.t _)) rfl rfl rfl rfl rfl rfl ?_) | ((with_reducible refine g_len ?_); first | refine lx_len_str rfl rfl rfl rfl rfl ?_) | ((with_reducible refine g_call ?_); first | refine lx_callT rfl rfl hA rfl rfl (ArgsLE.refl _) rfl rfl rfl rfl rfl ?_) | refine c_condP rfl (fun hc => ?_) (fun hc => ?_) | refine lx_splitP rfl (fun hc => ?_) (fun hc => ?_))
    all_goals try (exfalso; omega)
    all_goals exact q_ret (resT_oneE rfl rfl rfl) (by simp)
end Go.AL
