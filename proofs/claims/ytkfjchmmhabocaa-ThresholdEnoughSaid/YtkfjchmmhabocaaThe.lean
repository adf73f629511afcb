/- ThresholdEnough: the law's walk. -/
import Derived.Test.YtkfjchmmhabocaaThd
set_option linter.unusedVariables false
namespace Go.AL
open Go Go.Proofs Go.RowKit

set_option maxHeartbeats 8000000 in
theorem ThresholdEnough_spec (t raw : List Int) : Spec Try.prog 3 [.t (.sl 1 (t.map (T.int .i64))), .t (.sl 1 (raw.map (T.int .i64)))] [] (.t (.bool true)) [] := by
  have hA := awake_spec
  have hLt := Light_spec t
  by_cases hg : (t.length : Int) ≤ 500 ∧ raw.length ≤ 30
  · obtain ⟨hg1, hg2⟩ := hg
    rw [decide_eq_true hg1] at hLt
    have hR := Roll_spec t
    have hN := Next_spec (Dc.mk t 0) 9 (by omega) (by show t.length ≤ 1000; omega)
    have hNl := (Dc.mk t 0).next_lt 9 (by omega)
    have hNd : ((Dc.mk t 0).next 9).2.l.length ≤ 1000 := by rw [Dc.next_l]; show t.length ≤ 1000; omega
    generalize (Dc.mk t 0).next 9 = q at hN hNl hNd
    obtain ⟨n0, d1⟩ := q
    simp only at hN hNl hNd
    obtain ⟨n, rfl⟩ : ∃ n : Nat, n0 = n := ⟨n0.toNat, by omega⟩
    have hK := kitTh_spec d1 n (by omega) hNd
    have hKf := kitTh_fit d1 n (by omega)
    have hKd : (kitTh d1 n).2.l.length ≤ 1000 := by rw [kitTh_l]; exact hNd
    generalize kitTh d1 n = q at hK hKf hKd
    obtain ⟨x, d2⟩ := q
    simp only at hK hKf hKd
    have hE : ∀ s : List Int, s.length ≤ 1000000 → Spec Try.prog 13 [.t x.toT, .t (.sl 1 (s.map (T.int .i64)))] [] (.t (.bool (enoughP x s))) [] ∧ Spec Try.prog 14 [.t x.toT, .t (.sl 1 (s.map (T.int .i64)))] [] (.t (.bool (enoughP x s))) [] := fun s hs => ⟨Enough_spec x s hKf hs, by
      rw [enough_eq hKf (fun _ _ => trivial) s (fun _ => trivial) (by rcases Decidable.em (x.n = 0) with h | h; exact .inr (.inr (by omega)); exact .inl h)]
      exact REnough_spec x s hKf hs⟩
    generalize enoughP x = F at hE
    obtain ⟨tn, w⟩ := x
    obtain ⟨hE1, hE2⟩ := hE raw (by omega)
    unfold Dc.row at hR hN hK
    unfold Th.toT at hK hE hE1 hE2
    simp only at hR hN hK hE hE1 hE2
    clear hKf
    refine spec_introG (env0 := [(0, _), (1, _)]) (st0 := []) Try.func3 rfl rfl rfl rfl ?_
    repeat' (first | (with_reducible refine codeT_seq ?_) | (with_reducible refine codeT_block ?_) | (with_reducible refine codeT_skip ?_) | (with_reducible refine codeT_regionL ?_) | (with_reducible refine lx_nil ?_) | (with_reducible refine q_then ?_) | (exfalso; omega) | ((with_reducible refine g_move ?_); first | refine lx_move (r := (.t _)) rfl rfl rfl rfl rfl ?_ | refine lx_move (r := (.ref _ _ _ _)) rfl rfl rfl rfl rfl ?_) | ((with_reducible refine g_binOp ?_); first | refine lx_arith rfl rfl rfl rfl rfl rfl rfl ?_) | ((with_reducible refine g_assign ?_); first | refine lx_assign (r := (.t _)) rfl rfl rfl rfl rfl ?_ | refine lx_assign (r := (.ref _ _ _ _)) rfl rfl rfl rfl rfl ?_) | ((with_reducible refine g_pick ?_); first | refine lx_pickF (r := (.t _)) rfl rfl rfl rfl rfl rfl ?_) | ((with_reducible refine g_alloc ?_); first | refine lx_alloc rfl rfl rfl rfl rfl rfl rfl ?_) | ((with_reducible refine g_store ?_); first | refine lx_store_var (r := (.t (.agg _))) rfl rfl rfl rfl rfl rfl rfl rfl rfl rfl ?_) | ((with_reducible refine g_unOp ?_); first | refine lx_not rfl rfl rfl rfl rfl ?_) | ((with_reducible refine g_len ?_); first | refine lx_len_map rfl rfl rfl rfl rfl ?_) | ((with_reducible refine g_call ?_); first | refine lx_callT rfl rfl hLt rfl rfl (ArgsLE.refl _) rfl rfl rfl rfl rfl ?_ | refine lx_call (r' := .ref (.loc 905) 0 0 0) [(.res 0, .loc 905)] rfl rfl hR (ArgsLE.refl _) rfl trivial rfl rfl rfl rfl rfl rfl rfl rfl rfl rfl ?_ | refine lx_call (r' := .t (.int .i64 (n : Int))) [(.par 0, .loc 905)] rfl rfl hN (ArgsLE.refl _) rfl ⟨rfl, trivial⟩ rfl rfl rfl rfl rfl rfl rfl rfl rfl rfl ?_ | refine lx_call (r' := .t (.agg _)) [(.par 0, .loc 905)] rfl rfl hK (ArgsLE.refl _) rfl ⟨rfl, trivial⟩ rfl rfl rfl rfl rfl rfl rfl rfl rfl rfl ?_) | refine c_condP rfl (fun hc => ?_) (fun hc => ?_))
    all_goals try (simp only [List.length_map]; omega)
    refine codeT_ghost (ghost_keep2 [1, 4, 5, 6, 7, 25] [.loc 905, .loc 7] rfl rfl) ?_
    refine codeT_loop (fun p env st => ∃ (i : Nat) (d : Dc), i ≤ 4 ∧ p = 4 - i ∧ d.l.length ≤ 1000 ∧
        env = EnvL.get [(1, .t (.sl 1 (raw.map (T.int .i64)))), (4, .t (.bool false)), (5, .ref (.loc 905) 0 0 0), (6, .t (.int .i64 (n : Int))), (7, .ref (.loc 7) 0 0 0), (25, .t (.int .i64 (i : Int)))] ∧
        st = StO.get [(.loc 905, some (.var 50 [.t (.sl 1 (d.l.map (T.int .i64))), .t (.int .i64 d.k)])), (.loc 7, some (.var 30 [.t (.int .i64 tn), .t (.sl 1 (w.map frs))]))])
      ?_ (n := 4) ⟨0, d2, by omega, rfl, hKd, rfl, rfl⟩
    rintro p env st ⟨i, d, hi, rfl, hd, rfl, rfl⟩
    have wi : IntKind.i64.wrap ((i : Int) + 1) = ((i + 1 : Nat) : Int) := by rw [wrap64 (by omega) (by omega)]; omega
    by_cases hlt : i < 4
    · have hN8 := Next_spec d 8 (by omega) hd
      have hN8l := d.next_lt 8 (by omega)
      have hN8d : (d.next 8).2.l.length ≤ 1000 := by rw [Dc.next_l]; exact hd
      generalize d.next 8 = q at hN8 hN8l hN8d
      obtain ⟨c0, d3⟩ := q
      simp only at hN8 hN8l hN8d
      obtain ⟨c, rfl⟩ : ∃ c : Nat, c0 = c := ⟨c0.toNat, by omega⟩
      unfold Dc.row at hN8
      repeat' (first | (with_reducible refine codeT_seq ?_) | (with_reducible refine codeT_block ?_) | (with_reducible refine codeT_skip ?_) | (with_reducible refine codeT_exit ?_) | (with_reducible refine codeT_regionL ?_) | ((with_reducible refine codeT_region_drawL ?_ ?_); · rfl) | (with_reducible refine lx_nil ?_) | (with_reducible refine q_then ?_) | (with_reducible refine q_then_exit ?_) | ((with_reducible refine q_block_same ?_ ?_); · rfl) | (with_reducible refine q_loop_exit ?_) | (exfalso; omega) | ((with_reducible refine g_move ?_); first | refine lx_move (r := (.t _)) rfl rfl rfl rfl rfl ?_ | refine lx_move (r := (.ref _ _ _ _)) rfl rfl rfl rfl rfl ?_) | ((with_reducible refine g_binOp ?_); first | refine lx_arith rfl rfl rfl rfl rfl rfl rfl ?_) | ((with_reducible refine g_assign ?_); first | refine lx_assign (r := (.t _)) rfl rfl rfl rfl rfl ?_) | ((with_reducible refine g_call ?_); first | refine lx_call (r' := .t (.int .i64 (c : Int))) [(.par 0, .loc 905)] rfl rfl hN8 (ArgsLE.refl _) rfl ⟨rfl, trivial⟩ rfl rfl rfl rfl rfl rfl rfl rfl rfl rfl ?_) | refine c_condP rfl (fun hc => ?_) (fun hc => ?_))
      refine codeT_ghost (ghost_nilL 8 (.loc 900) 3 1 rfl rfl rfl) ?_
      refine codeT_ghost (ghost_keep2 [1, 4, 5, 6, 7, 8, 25, 28, 29] [.loc 905, .loc 7, .loc 900] rfl rfl) ?_
      refine codeT_loop (fun p env st => ∃ (j : Nat) (d : Dc) (S : List Int), j ≤ c ∧ p = c - j ∧ d.l.length ≤ 1000 ∧ S.length = j ∧
          env = EnvL.get [(1, .t (.sl 1 (raw.map (T.int .i64)))), (4, .t (.bool false)), (5, .ref (.loc 905) 0 0 0), (6, .t (.int .i64 (n : Int))), (7, .ref (.loc 7) 0 0 0), (8, .row (.loc 900)), (25, .t (.int .i64 (i : Int))), (28, .t (.int .i64 (c : Int))), (29, .t (.int .i64 (j : Int)))] ∧
          st = StO.get [(.loc 905, some (.var 50 [.t (.sl 1 (d.l.map (T.int .i64))), .t (.int .i64 d.k)])), (.loc 7, some (.var 30 [.t (.int .i64 tn), .t (.sl 1 (w.map frs))])), (.loc 900, some (.slt 3 1 (S.map (T.int .i64))))])
        ?_ (n := c) ⟨0, d3, [], by omega, rfl, hN8d, rfl, rfl, rfl⟩
      rintro p env st ⟨j, d, S, hj, rfl, hd, hS, rfl, rfl⟩
      have wj : IntKind.i64.wrap ((j : Int) + 1) = ((j + 1 : Nat) : Int) := by rw [wrap64 (by omega) (by omega)]; omega
      by_cases hlj : j < c
      · have hNn := Next_spec d (IntKind.i64.wrap ((n : Int) + 1)) (by rw [wrap64 (by omega) (by omega)]; omega) hd
        have hNnd : (d.next (IntKind.i64.wrap ((n : Int) + 1))).2.l.length ≤ 1000 := by rw [Dc.next_l]; exact hd
        generalize d.next (IntKind.i64.wrap ((n : Int) + 1)) = q at hNn hNnd
        obtain ⟨v, d4⟩ := q
        simp only at hNn hNnd
        unfold Dc.row at hNn
        repeat' (first | (with_reducible refine codeT_seq ?_) | (with_reducible refine codeT_block ?_) | (with_reducible refine codeT_skip ?_) | (with_reducible refine codeT_exit ?_) | (with_reducible refine codeT_regionL ?_) | ((with_reducible refine codeT_region_drawL ?_ ?_); · rfl) | (with_reducible refine lx_nil ?_) | (with_reducible refine q_then ?_) | (with_reducible refine q_then_exit ?_) | (with_reducible refine q_block ?_) | ((with_reducible refine q_block_same ?_ ?_); · rfl) | (with_reducible refine q_loop_exit ?_) | (exfalso; omega) | ((with_reducible refine g_move ?_); first | refine lx_move (r := (.t _)) rfl rfl rfl rfl rfl ?_ | refine lx_move (r := (.ref _ _ _ _)) rfl rfl rfl rfl rfl ?_ | refine lx_move (r := (.row _)) rfl rfl rfl rfl rfl ?_) | ((with_reducible refine g_binOp ?_); first | refine lx_arith rfl rfl rfl rfl rfl rfl rfl ?_) | ((with_reducible refine g_assign ?_); first | refine lx_assign (r := (.row _)) rfl rfl rfl rfl rfl ?_) | ((with_reducible refine g_buildSlice ?_); first | refine lx_buildSlice rfl rfl rfl rfl rfl rfl rfl ?_) | ((with_reducible refine g_append ?_); first | refine lx_append_row rfl rfl rfl rfl rfl rfl rfl rfl rfl rfl ?_ ?_ ?_) | ((with_reducible refine g_call ?_); first | refine lx_call (r' := .t (.int .i64 v)) [(.par 0, .loc 905)] rfl rfl hNn (ArgsLE.refl _) rfl ⟨rfl, trivial⟩ rfl rfl rfl rfl rfl rfl rfl rfl rfl rfl ?_) | refine c_condP rfl (fun hc => ?_) (fun hc => ?_))
        all_goals try (simp only [List.length_map, List.length_singleton]; omega)
        refine q_loop (n' := c - (j + 1)) (by omega) ((ghost_keep2 [1, 4, 5, 6, 7, 8, 25, 28, 29] [.loc 905, .loc 7, .loc 37] rfl rfl).trans (ghost_renL2 (.loc 37) (.loc 900) rfl rfl rfl rfl)) ⟨j + 1, d4, S ++ [v], by omega, rfl, hNnd, by simp; omega, by rw [wj]; rfl, by rw [List.map_append]; rfl⟩
      · obtain rfl : j = c := by omega
        obtain ⟨hS1, hS2⟩ := hE S (by omega)
        generalize F S = V at hS1 hS2
        refine codeT_ghost (ghost_freezeL (id := .loc 900) rfl rfl rfl) ?_
        repeat' (first | (with_reducible refine codeT_seq ?_) | (with_reducible refine codeT_block ?_) | (with_reducible refine codeT_skip ?_) | (with_reducible refine codeT_exit ?_) | (with_reducible refine codeT_regionL ?_) | ((with_reducible refine codeT_region_drawL ?_ ?_); · rfl) | (with_reducible refine lx_nil ?_) | (with_reducible refine q_then ?_) | (with_reducible refine q_then_exit ?_) | (with_reducible refine q_block ?_) | ((with_reducible refine q_block_same ?_ ?_); · rfl) | (with_reducible refine q_loop_exit ?_) | ((with_reducible refine q_region_draw ?_ ?_); · rfl) | (exfalso; omega) | (exfalso; simp at hc; done) | ((with_reducible refine g_move ?_); first | refine lx_move (r := (.t _)) rfl rfl rfl rfl rfl ?_) | ((with_reducible refine g_load ?_); first | refine lx_load_varA (r := (.t (.agg _))) rfl rfl rfl rfl rfl rfl rfl rfl rfl ?_) | ((with_reducible refine g_binOp ?_); first | refine lx_arith rfl rfl rfl rfl rfl rfl rfl ?_ | refine lx_bool_ne rfl rfl rfl rfl rfl rfl ?_) | ((with_reducible refine g_call ?_); first | refine lx_callT rfl rfl hS1 rfl rfl (ArgsLE.refl _) rfl rfl rfl rfl rfl ?_ | refine lx_callT rfl rfl hS2 rfl rfl (ArgsLE.refl _) rfl rfl rfl rfl rfl ?_) | refine c_condP rfl (fun hc => ?_) (fun hc => ?_) | refine c_condN rfl (fun hc => ?_) (fun hc => ?_))
        exact q_loop (n' := 4 - (i + 1)) (by omega) (ghost_keep2 [1, 4, 5, 6, 7, 25] [.loc 905, .loc 7] rfl rfl) ⟨i + 1, d, by omega, rfl, hd, by rw [wi]; rfl, rfl⟩
    · obtain rfl : i = 4 := by omega
      clear hE
      generalize F raw = V at hE1 hE2
      repeat' (first | (with_reducible refine codeT_seq ?_) | (with_reducible refine codeT_ret ?_) | (with_reducible refine codeT_exit ?_) | (with_reducible refine codeT_regionL ?_) | ((with_reducible refine codeT_region_drawL ?_ ?_); · rfl) | (with_reducible refine lx_nil ?_) | (with_reducible refine q_then ?_) | (with_reducible refine q_then_exit ?_) | ((with_reducible refine q_block_same ?_ ?_); · rfl) | (with_reducible refine q_loop_exit ?_) | ((with_reducible refine q_region_draw ?_ ?_); · rfl) | refine c_condF rfl ?_ | (exfalso; simp at hc; done) | ((with_reducible refine g_move ?_); first | refine lx_move (r := (.t _)) rfl rfl rfl rfl rfl ?_) | ((with_reducible refine g_load ?_); first | refine lx_load_varA (r := (.t (.agg _))) rfl rfl rfl rfl rfl rfl rfl rfl rfl ?_) | ((with_reducible refine g_binOp ?_); first | refine lx_arith rfl rfl rfl rfl rfl rfl rfl ?_ | refine lx_bool_eq rfl rfl rfl rfl rfl rfl ?_) | ((with_reducible refine g_assign ?_); first | refine lx_assign (r := (.t _)) rfl rfl rfl rfl rfl ?_) | ((with_reducible refine g_pick ?_); first | refine lx_pickT (r := (.t _)) rfl rfl rfl rfl rfl rfl ?_) | ((with_reducible refine g_call ?_); first | refine lx_callT rfl rfl hE1 rfl rfl (ArgsLE.refl _) rfl rfl rfl rfl rfl ?_ | refine lx_callT rfl rfl hE2 rfl rfl (ArgsLE.refl _) rfl rfl rfl rfl rfl ?_ | refine lx_callT rfl rfl hA rfl rfl (ArgsLE.refl _) rfl rfl rfl rfl rfl ?_) | refine lx_splitP rfl (fun hc => ?_) (fun hc => ?_))
      exact q_done (q_ret (resT_oneE rfl rfl rfl) (stHas_spec trivial))
  · by_cases h1 : (t.length : Int) ≤ 500
    · rw [decide_eq_true h1] at hLt
      have h2 : 30 < raw.length := by omega
      refine spec_intro (env0 := [(0, _), (1, _)]) (st0 := []) Try.func3 rfl rfl rfl rfl ?_
      repeat' (first | (with_reducible refine codeT_seq ?_) | (with_reducible refine codeT_skip ?_) | (with_reducible refine codeT_ret ?_) | (with_reducible refine codeT_regionL ?_) | (with_reducible refine lx_nil ?_) | (with_reducible refine q_then ?_) | (with_reducible refine q_then_ret ?_) | (exfalso; omega) | ((with_reducible refine g_move ?_); first | refine lx_move (r := (.t _)) rfl rfl rfl rfl rfl ?_) | ((with_reducible refine g_binOp ?_); first | refine lx_arith rfl rfl rfl rfl rfl rfl rfl ?_) | ((with_reducible refine g_assign ?_); first | refine lx_assign (r := (.t _)) rfl rfl rfl rfl rfl ?_) | ((with_reducible refine g_pick ?_); first | refine lx_pickF (r := (.t _)) rfl rfl rfl rfl rfl rfl ?_) | ((with_reducible refine g_unOp ?_); first | refine lx_not rfl rfl rfl rfl rfl ?_) | ((with_reducible refine g_len ?_); first | refine lx_len_map rfl rfl rfl rfl rfl ?_) | ((with_reducible refine g_call ?_); first | refine lx_callT rfl rfl hLt rfl rfl (ArgsLE.refl _) rfl rfl rfl rfl rfl ?_ | refine lx_callT rfl rfl hA rfl rfl (ArgsLE.refl _) rfl rfl rfl rfl rfl ?_) | refine c_condP rfl (fun hc => ?_) (fun hc => ?_))
      exact q_ret (resT_oneE rfl rfl rfl) (by simp)
    · rw [decide_eq_false h1] at hLt
      refine spec_intro (env0 := [(0, _), (1, _)]) (st0 := []) Try.func3 rfl rfl rfl rfl ?_
      repeat' (first | (with_reducible refine codeT_seq ?_) | (with_reducible refine codeT_ret ?_) | (with_reducible refine codeT_regionL ?_) | (with_reducible refine lx_nil ?_) | (with_reducible refine q_then ?_) | (with_reducible refine q_then_ret ?_) | refine c_condT rfl ?_ | ((with_reducible refine g_guard ?_); first | refine lx_skip rfl rfl rfl ?_) | ((with_reducible refine g_move ?_); first | refine lx_move (r := (.t _)) rfl rfl rfl rfl rfl ?_) | ((with_reducible refine g_assign ?_); first | refine lx_assign (r := (.t _)) rfl rfl rfl rfl rfl ?_) | ((with_reducible refine g_pick ?_); first | refine lx_pickT (r := (.t _)) rfl rfl rfl rfl rfl rfl ?_) | ((with_reducible refine g_unOp ?_); first | refine lx_not rfl rfl rfl rfl rfl ?_) | ((with_reducible refine g_call ?_); first | refine lx_callT rfl rfl hLt rfl rfl (ArgsLE.refl _) rfl rfl rfl rfl rfl ?_ | refine lx_callT rfl rfl hA rfl rfl (ArgsLE.refl _) rfl rfl rfl rfl rfl ?_))
      exact q_ret (resT_oneE rfl rfl rfl) (by simp)
end Go.AL
