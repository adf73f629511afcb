/- ThresholdLists: the law's walk. -/
import Derived.Test.YtkfjchmmhabocaaThd
import Derived.Test.YtkfjchmmhabocaaThp
set_option linter.unusedVariables false
namespace Go.AL
open Go Go.Proofs Go.RowKit

def halfOne : List Fr := [⟨1, 2⟩, ⟨1, 1⟩]
theorem halfOne_wt (v : Int) (h0 : 0 ≤ v) (h : v < 2) : (halfOne.getD v.toNat default).wt = true := by
  have : v = 0 ∨ v = 1 := by omega
  rcases this with rfl | rfl <;> decide
theorem lists_snoc {l : List Fr} {f : Fr} (h : ∀ x ∈ l, x.wt = true) (hf : f.wt = true) : ∀ x ∈ l ++ [f], x.wt = true := fun x hx => by
  rcases List.mem_append.1 hx with h1 | h1
  · exact h x h1
  · rw [List.mem_singleton.1 h1]; exact hf
set_option maxRecDepth 4000 in
set_option maxHeartbeats 16000000 in
theorem ThresholdLists_spec (t : List Int) : Spec Try.prog 5 [.t (.sl 1 (t.map (T.int .i64)))] [] (.t (.bool true)) [] := by
  have hA := awake_spec
  have hLt := Light_spec t
  by_cases hg1 : (t.length : Int) ≤ 500
  · rw [decide_eq_true hg1] at hLt
    have hR := Roll_spec t
    have hN := Next_spec (Dc.mk t 0) 4 (by omega) (by show t.length ≤ 1000; omega)
    have hNl := (Dc.mk t 0).next_lt 4 (by omega)
    have hNd : ((Dc.mk t 0).next 4).2.l.length ≤ 1000 := by rw [Dc.next_l]; show t.length ≤ 1000; omega
    generalize (Dc.mk t 0).next 4 = q at hN hNl hNd
    obtain ⟨v1, d1⟩ := q
    simp only at hN hNl hNd
    have hN2 := Next_spec d1 4 (by omega) hNd
    have hN2l := d1.next_lt 4 (by omega)
    have hN2d : (d1.next 4).2.l.length ≤ 1000 := by rw [Dc.next_l]; exact hNd
    generalize d1.next 4 = q at hN2 hN2l hN2d
    obtain ⟨v2, d2⟩ := q
    simp only at hN2 hN2l hN2d
    obtain ⟨n, hn⟩ : ∃ n : Nat, IntKind.i64.wrap (1 + v1) = (n : Int) := ⟨(1 + v1).toNat, by rw [wrap64 (by omega) (by omega)]; omega⟩
    obtain ⟨m, hm⟩ : ∃ m : Nat, IntKind.i64.wrap (1 + v2) = (m : Int) := ⟨(1 + v2).toNat, by rw [wrap64 (by omega) (by omega)]; omega⟩
    have hn1 : 1 ≤ n ∧ n ≤ 4 := by have := wrap64 (n := 1 + v1) (by omega) (by omega); omega
    have hm1 : 1 ≤ m ∧ m ≤ 4 := by have := wrap64 (n := 1 + v2) (by omega) (by omega); omega
    have hnm : (IntKind.i64.wrap (IntKind.i64.wrap (1 + v1) + IntKind.i64.wrap (1 + v2))) = ((n + m : Nat) : Int) := by rw [hn, hm, wrap64 (by omega) (by omega)]; omega
    unfold Dc.row at hR hN hN2
    simp only at hR hN hN2
    refine spec_introG (env0 := [(0, _)]) (st0 := []) Try.func5 rfl rfl rfl rfl ?_
    repeat' (first | (with_reducible refine codeT_seq ?_) | (with_reducible refine codeT_block ?_) | (with_reducible refine codeT_skip ?_) | (with_reducible refine codeT_regionL ?_) | (with_reducible refine lx_nil ?_) | (with_reducible refine q_then ?_) | refine c_condF rfl ?_ | ((with_reducible refine g_move ?_); first | refine lx_move (r := (.t _)) rfl rfl rfl rfl rfl ?_ | refine lx_move (r := (.ref _ _ _ _)) rfl rfl rfl rfl rfl ?_) | ((with_reducible refine g_binOp ?_); first | refine lx_arith rfl rfl rfl rfl rfl rfl rfl ?_) | ((with_reducible refine g_assign ?_); first | refine lx_assign (r := (.t _)) rfl rfl rfl rfl rfl ?_ | refine lx_assign (r := (.ref _ _ _ _)) rfl rfl rfl rfl rfl ?_) | ((with_reducible refine g_alloc ?_); first | refine lx_alloc rfl rfl rfl rfl rfl rfl rfl ?_) | ((with_reducible refine g_store ?_); first | refine lx_store_var (r := (.t (.agg _))) rfl rfl rfl rfl rfl rfl rfl rfl rfl rfl ?_) | ((with_reducible refine g_unOp ?_); first | refine lx_not rfl rfl rfl rfl rfl ?_) | ((with_reducible refine g_build ?_); first | refine lx_build (r := (.t (.agg _))) rfl rfl rfl rfl rfl rfl rfl ?_) | ((with_reducible refine g_call ?_); first | refine lx_callT rfl rfl hLt rfl rfl (ArgsLE.refl _) rfl rfl rfl rfl rfl ?_ | refine lx_call (r' := .ref (.loc 905) 0 0 0) [(.res 0, .loc 905)] rfl rfl hR (ArgsLE.refl _) rfl trivial rfl rfl rfl rfl rfl rfl rfl rfl rfl rfl ?_ | refine lx_call (r' := .t (.int .i64 v1)) [(.par 0, .loc 905)] rfl rfl hN (ArgsLE.refl _) rfl ⟨rfl, trivial⟩ rfl rfl rfl rfl rfl rfl rfl rfl rfl rfl ?_ | refine lx_call (r' := .t (.int .i64 v2)) [(.par 0, .loc 905)] rfl rfl hN2 (ArgsLE.refl _) rfl ⟨rfl, trivial⟩ rfl rfl rfl rfl rfl rfl rfl rfl rfl rfl ?_))
    refine codeT_ghost (ghost_nilL 8 (.loc 901) 38 2 rfl rfl rfl) ?_
    refine codeT_ghost (ghost_nilL 9 (.loc 902) 38 2 rfl rfl rfl) ?_
    refine codeT_ghost (ghost_keep2 [2, 3, 4, 5, 6, 7, 8, 9, 35, 36] [.loc 905, .loc 6, .loc 7, .loc 901, .loc 902] rfl rfl) ?_
    refine codeT_loop (fun p env st => ∃ (i : Nat) (d : Dc) (a b : List Fr), i ≤ n + m ∧ p = n + m - i ∧ d.l.length ≤ 1000 ∧ a.length = min i n ∧ b.length = i - n ∧ (∀ f ∈ a, f.wt = true) ∧ (∀ f ∈ b, f.wt = true) ∧ (0 < i → oneW ∈ a) ∧ (n < i → oneW ∈ b) ∧
        env = EnvL.get [(2, .t (.bool false)), (3, .ref (.loc 905) 0 0 0), (4, (.t (.int .i64 (IntKind.i64.wrap (1 + v1))))), (5, (.t (.int .i64 (IntKind.i64.wrap (1 + v2))))), (6, .ref (.loc 6) 0 0 0), (7, .ref (.loc 7) 0 0 0), (8, .row (.loc 901)), (9, .row (.loc 902)), (35, (.t (.int .i64 (IntKind.i64.wrap (IntKind.i64.wrap (1 + v1) + IntKind.i64.wrap (1 + v2)))))), (36, (.t (.int .i64 (i : Int))))] ∧
        st = StO.get [(.loc 905, some (.var 50 [.t (.sl 1 (d.l.map (T.int .i64))), .t (.int .i64 d.k)])), (.loc 6, some (.var 38 [.t (.int .i64 1), .t (.int .i64 2)])), (.loc 7, some (.var 38 [.t (.int .i64 1), .t (.int .i64 1)])), (.loc 901, some (.slt 38 2 (a.map Fr.toT))), (.loc 902, some (.slt 38 2 (b.map Fr.toT)))])
      ?_ (n := n + m) ⟨0, d2, [], [], by omega, rfl, hN2d, by simp, by simp, by simp, by simp, by omega, by omega, rfl, rfl⟩
    rintro p env st ⟨i, d, a, b, hi, rfl, hd, ha, hb, haw, hbw, ha1, hb1, rfl, rfl⟩
    have wi : IntKind.i64.wrap ((i : Int) + 1) = ((i + 1 : Nat) : Int) := by rw [wrap64 (by omega) (by omega)]; omega
    by_cases hlt : i < n + m
    · have hN3 := Next_spec d 2 (by omega) hd
      have hN3l := d.next_lt 2 (by omega)
      have hN3d : (d.next 2).2.l.length ≤ 1000 := by rw [Dc.next_l]; exact hd
      generalize d.next 2 = q at hN3 hN3l hN3d
      obtain ⟨v, d3⟩ := q
      simp only at hN3 hN3l hN3d
      have hvw := halfOne_wt v hN3l.1 hN3l.2
      have h2 : halfOne.length = 2 := rfl
      have h1w : oneW.wt = true := by decide
      unfold Dc.row at hN3
      by_cases c1 : i < n
      · by_cases c0 : i = 0
        · repeat' (first | (with_reducible refine codeT_seq ?_) | (with_reducible refine codeT_block ?_) | (with_reducible refine codeT_skip ?_) | (with_reducible refine codeT_exit ?_) | (with_reducible refine codeT_regionL ?_) | ((with_reducible refine codeT_region_drawL ?_ ?_); · rfl) | (with_reducible refine lx_nil ?_) | (with_reducible refine q_then ?_) | (with_reducible refine q_then_exit ?_) | (with_reducible refine q_block ?_) | ((with_reducible refine q_block_same ?_ ?_); · rfl) | (with_reducible refine q_loop_exit ?_) | ((with_reducible refine q_region_draw ?_ ?_); · rfl) | refine c_condT rfl ?_ | (exfalso; omega) | refine lx_buildSliceF (es := halfOne.map Fr.toT) rfl rfl rfl rfl rfl rfl ?_ | ((with_reducible refine g_guard ?_); first | refine lx_skip rfl rfl rfl ?_) | ((with_reducible refine g_move ?_); first | refine lx_move (r := (.t _)) rfl rfl rfl rfl rfl ?_ | refine lx_move (r := (.ref _ _ _ _)) rfl rfl rfl rfl rfl ?_ | refine lx_move (r := (.row _)) rfl rfl rfl rfl rfl ?_) | ((with_reducible refine g_load ?_); first | refine lx_load_varA (r := (.t (.agg _))) rfl rfl rfl rfl rfl rfl rfl rfl rfl ?_ | refine lx_load_tpA rfl rfl rfl rfl rfl rfl rfl rfl ?_) | ((with_reducible refine g_binOp ?_); first | refine lx_arith rfl rfl rfl rfl rfl rfl rfl ?_) | ((with_reducible refine g_assign ?_); first | refine lx_assign (r := (.t _)) rfl rfl rfl rfl rfl ?_ | refine lx_assign (r := (.row _)) rfl rfl rfl rfl rfl ?_) | ((with_reducible refine g_pick ?_); first | refine lx_pickT (r := (.t _)) rfl rfl rfl rfl rfl rfl ?_) | ((with_reducible refine g_alloc ?_); first | refine lx_alloc rfl rfl rfl rfl rfl rfl rfl ?_) | ((with_reducible refine g_store ?_); first | refine lx_store_var (r := (.t (.agg _))) rfl rfl rfl rfl rfl rfl rfl rfl rfl rfl ?_) | ((with_reducible refine g_indexAddr ?_); first | refine lx_indexAddr_map rfl rfl rfl rfl rfl rfl ?_ ?_ ?_) | ((with_reducible refine g_buildSlice ?_); first | refine lx_buildSlice rfl rfl rfl rfl rfl rfl rfl ?_) | ((with_reducible refine g_append ?_); first | refine lx_append_row rfl rfl rfl rfl rfl rfl rfl rfl rfl rfl ?_ ?_ ?_) | ((with_reducible refine g_call ?_); first | refine lx_call (r' := .t (.int .i64 v)) [(.par 0, .loc 905)] rfl rfl hN3 (ArgsLE.refl _) rfl ⟨rfl, trivial⟩ rfl rfl rfl rfl rfl rfl rfl rfl rfl rfl ?_) | refine c_condP rfl (fun hc => ?_) (fun hc => ?_) | refine lx_splitP rfl (fun hc => ?_) (fun hc => ?_))
          all_goals try (simp only [List.length_map, List.length_singleton]; omega)
          all_goals try omega
          all_goals try rfl
          refine q_loop (n' := n + m - (i + 1)) (by omega) ((ghost_keep2 [2, 3, 4, 5, 6, 7, 8, 9, 35, 36] [.loc 905, .loc 6, .loc 7, .loc 60, .loc 902] rfl rfl).trans (ghost_renL2 (.loc 60) (.loc 901) rfl rfl rfl rfl)) ⟨i + 1, d3, a ++ [oneW], b, by omega, rfl, hN3d, by simp; omega, by omega, lists_snoc haw h1w, hbw, fun _ => by simp, fun h => by omega, by rw [wi]; rfl, by rw [List.map_append]; rfl⟩
        · repeat' (first | (with_reducible refine codeT_seq ?_) | (with_reducible refine codeT_block ?_) | (with_reducible refine codeT_skip ?_) | (with_reducible refine codeT_exit ?_) | (with_reducible refine codeT_regionL ?_) | ((with_reducible refine codeT_region_drawL ?_ ?_); · rfl) | (with_reducible refine lx_nil ?_) | (with_reducible refine q_then ?_) | (with_reducible refine q_then_exit ?_) | (with_reducible refine q_block ?_) | ((with_reducible refine q_block_same ?_ ?_); · rfl) | (with_reducible refine q_loop_exit ?_) | ((with_reducible refine q_region_draw ?_ ?_); · rfl) | (exfalso; omega) | refine lx_buildSliceF (es := halfOne.map Fr.toT) rfl rfl rfl rfl rfl rfl ?_ | ((with_reducible refine g_move ?_); first | refine lx_move (r := (.t _)) rfl rfl rfl rfl rfl ?_ | refine lx_move (r := (.ref _ _ _ _)) rfl rfl rfl rfl rfl ?_ | refine lx_move (r := (.row _)) rfl rfl rfl rfl rfl ?_) | ((with_reducible refine g_load ?_); first | refine lx_load_varA (r := (.t (.agg _))) rfl rfl rfl rfl rfl rfl rfl rfl rfl ?_ | refine lx_load_tpA rfl rfl rfl rfl rfl rfl rfl rfl ?_) | ((with_reducible refine g_binOp ?_); first | refine lx_arith rfl rfl rfl rfl rfl rfl rfl ?_) | ((with_reducible refine g_assign ?_); first | refine lx_assign (r := (.t _)) rfl rfl rfl rfl rfl ?_ | refine lx_assign (r := (.row _)) rfl rfl rfl rfl rfl ?_) | ((with_reducible refine g_pick ?_); first | refine lx_pickF (r := (.t _)) rfl rfl rfl rfl rfl rfl ?_) | ((with_reducible refine g_alloc ?_); first | refine lx_alloc rfl rfl rfl rfl rfl rfl rfl ?_) | ((with_reducible refine g_store ?_); first | refine lx_store_var (r := (.t (.agg _))) rfl rfl rfl rfl rfl rfl rfl rfl rfl rfl ?_) | ((with_reducible refine g_indexAddr ?_); first | refine lx_indexAddr_map rfl rfl rfl rfl rfl rfl ?_ ?_ ?_) | ((with_reducible refine g_buildSlice ?_); first | refine lx_buildSlice rfl rfl rfl rfl rfl rfl rfl ?_) | ((with_reducible refine g_append ?_); first | refine lx_append_row rfl rfl rfl rfl rfl rfl rfl rfl rfl rfl ?_ ?_ ?_) | ((with_reducible refine g_call ?_); first | refine lx_call (r' := .t (.int .i64 v)) [(.par 0, .loc 905)] rfl rfl hN3 (ArgsLE.refl _) rfl ⟨rfl, trivial⟩ rfl rfl rfl rfl rfl rfl rfl rfl rfl rfl ?_) | refine c_condP rfl (fun hc => ?_) (fun hc => ?_) | refine lx_splitP rfl (fun hc => ?_) (fun hc => ?_))
          all_goals try (simp only [List.length_map, List.length_singleton]; omega)
          all_goals try omega
          all_goals try rfl
          refine q_loop (n' := n + m - (i + 1)) (by omega) ((ghost_keep2 [2, 3, 4, 5, 6, 7, 8, 9, 35, 36] [.loc 905, .loc 6, .loc 7, .loc 60, .loc 902] rfl rfl).trans (ghost_renL2 (.loc 60) (.loc 901) rfl rfl rfl rfl)) ⟨i + 1, d3, a ++ [halfOne.getD v.toNat default], b, by omega, rfl, hN3d, by simp; omega, by omega, lists_snoc haw hvw, hbw, fun _ => List.mem_append_left _ (ha1 (by omega)), fun h => by omega, by rw [wi]; rfl, by rw [List.map_append]; rfl⟩
      · by_cases c0 : i = n
        · repeat' (first | (with_reducible refine codeT_seq ?_) | (with_reducible refine codeT_block ?_) | (with_reducible refine codeT_skip ?_) | (with_reducible refine codeT_exit ?_) | (with_reducible refine codeT_regionL ?_) | ((with_reducible refine codeT_region_drawL ?_ ?_); · rfl) | (with_reducible refine lx_nil ?_) | (with_reducible refine q_then ?_) | (with_reducible refine q_then_exit ?_) | (with_reducible refine q_block ?_) | ((with_reducible refine q_block_same ?_ ?_); · rfl) | (with_reducible refine q_loop_exit ?_) | ((with_reducible refine q_region_draw ?_ ?_); · rfl) | (exfalso; omega) | refine lx_buildSliceF (es := halfOne.map Fr.toT) rfl rfl rfl rfl rfl rfl ?_ | ((with_reducible refine g_move ?_); first | refine lx_move (r := (.t _)) rfl rfl rfl rfl rfl ?_ | refine lx_move (r := (.ref _ _ _ _)) rfl rfl rfl rfl rfl ?_ | refine lx_move (r := (.row _)) rfl rfl rfl rfl rfl ?_) | ((with_reducible refine g_load ?_); first | refine lx_load_varA (r := (.t (.agg _))) rfl rfl rfl rfl rfl rfl rfl rfl rfl ?_ | refine lx_load_tpA rfl rfl rfl rfl rfl rfl rfl rfl ?_) | ((with_reducible refine g_binOp ?_); first | refine lx_arith rfl rfl rfl rfl rfl rfl rfl ?_) | ((with_reducible refine g_assign ?_); first | refine lx_assign (r := (.t _)) rfl rfl rfl rfl rfl ?_ | refine lx_assign (r := (.row _)) rfl rfl rfl rfl rfl ?_) | ((with_reducible refine g_pick ?_); first | refine lx_pickF (r := (.t _)) rfl rfl rfl rfl rfl rfl ?_) | ((with_reducible refine g_alloc ?_); first | refine lx_alloc rfl rfl rfl rfl rfl rfl rfl ?_) | ((with_reducible refine g_store ?_); first | refine lx_store_var (r := (.t (.agg _))) rfl rfl rfl rfl rfl rfl rfl rfl rfl rfl ?_) | ((with_reducible refine g_indexAddr ?_); first | refine lx_indexAddr_map rfl rfl rfl rfl rfl rfl ?_ ?_ ?_) | ((with_reducible refine g_buildSlice ?_); first | refine lx_buildSlice rfl rfl rfl rfl rfl rfl rfl ?_) | ((with_reducible refine g_append ?_); first | refine lx_append_row rfl rfl rfl rfl rfl rfl rfl rfl rfl rfl ?_ ?_ ?_) | ((with_reducible refine g_call ?_); first | refine lx_call (r' := .t (.int .i64 v)) [(.par 0, .loc 905)] rfl rfl hN3 (ArgsLE.refl _) rfl ⟨rfl, trivial⟩ rfl rfl rfl rfl rfl rfl rfl rfl rfl rfl ?_) | refine c_condP rfl (fun hc => ?_) (fun hc => ?_) | refine lx_splitP rfl (fun hc => ?_) (fun hc => ?_))
          all_goals try (simp only [List.length_map, List.length_singleton]; omega)
          all_goals try omega
          all_goals try rfl
          refine q_loop (n' := n + m - (i + 1)) (by omega) ((ghost_keep2 [2, 3, 4, 5, 6, 7, 8, 9, 35, 36] [.loc 905, .loc 6, .loc 7, .loc 901, .loc 64] rfl rfl).trans (ghost_renL2 (.loc 64) (.loc 902) rfl rfl rfl rfl)) ⟨i + 1, d3, a, b ++ [oneW], by omega, rfl, hN3d, by omega, by simp; omega, haw, lists_snoc hbw h1w, fun _ => ha1 (by omega), fun _ => by simp, by rw [wi]; rfl, by rw [List.map_append]; rfl⟩
        · repeat' (first | (with_reducible refine codeT_seq ?_) | (with_reducible refine codeT_block ?_) | (with_reducible refine codeT_skip ?_) | (with_reducible refine codeT_exit ?_) | (with_reducible refine codeT_regionL ?_) | ((with_reducible refine codeT_region_drawL ?_ ?_); · rfl) | (with_reducible refine lx_nil ?_) | (with_reducible refine q_then ?_) | (with_reducible refine q_then_exit ?_) | (with_reducible refine q_block ?_) | ((with_reducible refine q_block_same ?_ ?_); · rfl) | (with_reducible refine q_loop_exit ?_) | ((with_reducible refine q_region_draw ?_ ?_); · rfl) | (exfalso; omega) | refine lx_buildSliceF (es := halfOne.map Fr.toT) rfl rfl rfl rfl rfl rfl ?_ | ((with_reducible refine g_move ?_); first | refine lx_move (r := (.t _)) rfl rfl rfl rfl rfl ?_ | refine lx_move (r := (.ref _ _ _ _)) rfl rfl rfl rfl rfl ?_ | refine lx_move (r := (.row _)) rfl rfl rfl rfl rfl ?_) | ((with_reducible refine g_load ?_); first | refine lx_load_varA (r := (.t (.agg _))) rfl rfl rfl rfl rfl rfl rfl rfl rfl ?_ | refine lx_load_tpA rfl rfl rfl rfl rfl rfl rfl rfl ?_) | ((with_reducible refine g_binOp ?_); first | refine lx_arith rfl rfl rfl rfl rfl rfl rfl ?_) | ((with_reducible refine g_assign ?_); first | refine lx_assign (r := (.t _)) rfl rfl rfl rfl rfl ?_ | refine lx_assign (r := (.row _)) rfl rfl rfl rfl rfl ?_) | ((with_reducible refine g_pick ?_); first | refine lx_pickF (r := (.t _)) rfl rfl rfl rfl rfl rfl ?_) | ((with_reducible refine g_alloc ?_); first | refine lx_alloc rfl rfl rfl rfl rfl rfl rfl ?_) | ((with_reducible refine g_store ?_); first | refine lx_store_var (r := (.t (.agg _))) rfl rfl rfl rfl rfl rfl rfl rfl rfl rfl ?_) | ((with_reducible refine g_indexAddr ?_); first | refine lx_indexAddr_map rfl rfl rfl rfl rfl rfl ?_ ?_ ?_) | ((with_reducible refine g_buildSlice ?_); first | refine lx_buildSlice rfl rfl rfl rfl rfl rfl rfl ?_) | ((with_reducible refine g_append ?_); first | refine lx_append_row rfl rfl rfl rfl rfl rfl rfl rfl rfl rfl ?_ ?_ ?_) | ((with_reducible refine g_call ?_); first | refine lx_call (r' := .t (.int .i64 v)) [(.par 0, .loc 905)] rfl rfl hN3 (ArgsLE.refl _) rfl ⟨rfl, trivial⟩ rfl rfl rfl rfl rfl rfl rfl rfl rfl rfl ?_) | refine c_condP rfl (fun hc => ?_) (fun hc => ?_) | refine lx_splitP rfl (fun hc => ?_) (fun hc => ?_))
          all_goals try (simp only [List.length_map, List.length_singleton]; omega)
          all_goals try omega
          all_goals try rfl
          refine q_loop (n' := n + m - (i + 1)) (by omega) ((ghost_keep2 [2, 3, 4, 5, 6, 7, 8, 9, 35, 36] [.loc 905, .loc 6, .loc 7, .loc 901, .loc 64] rfl rfl).trans (ghost_renL2 (.loc 64) (.loc 902) rfl rfl rfl rfl)) ⟨i + 1, d3, a, b ++ [halfOne.getD v.toNat default], by omega, rfl, hN3d, by omega, by simp; omega, haw, lists_snoc hbw hvw, fun _ => ha1 (by omega), fun _ => List.mem_append_left _ (hb1 (by omega)), by rw [wi]; rfl, by rw [List.map_append]; rfl⟩
    · obtain rfl : i = n + m := by omega
      have ha1 := ha1 (by omega)
      have hb1 := hb1 (by omega)
      have ha : a.length = n := by omega
      have hb : b.length = m := by omega
      refine codeT_ghost (ghost_freezeL (id := .loc 901) rfl rfl rfl) ?_
      refine codeT_ghost (ghost_freezeL (id := .loc 902) rfl rfl rfl) ?_
      repeat' (first | (with_reducible refine codeT_seq ?_) | (with_reducible refine codeT_block ?_) | (with_reducible refine codeT_skip ?_) | (with_reducible refine codeT_exit ?_) | (with_reducible refine codeT_regionL ?_) | (with_reducible refine lx_nil ?_) | (with_reducible refine q_then ?_) | (with_reducible refine q_then_exit ?_) | ((with_reducible refine q_block_same ?_ ?_); · rfl) | (with_reducible refine q_loop_exit ?_) | (exfalso; omega) | refine lx_buildSliceF rfl rfl rfl rfl rfl rfl ?_ | ((with_reducible refine g_move ?_); first | refine lx_move (r := (.t _)) rfl rfl rfl rfl rfl ?_) | ((with_reducible refine g_binOp ?_); first | refine lx_arith rfl rfl rfl rfl rfl rfl rfl ?_) | ((with_reducible refine g_assign ?_); first | refine lx_assign (r := (.t _)) rfl rfl rfl rfl rfl ?_) | ((with_reducible refine g_alloc ?_); first | refine lx_alloc rfl rfl rfl rfl rfl rfl rfl ?_) | ((with_reducible refine g_store ?_); first | refine lx_store_var (r := (.t (.agg _))) rfl rfl rfl rfl rfl rfl rfl rfl rfl rfl ?_) | ((with_reducible refine g_build ?_); first | refine lx_build (r := (.t (.agg _))) rfl rfl rfl rfl rfl rfl rfl ?_) | refine c_condP rfl (fun hc => ?_) (fun hc => ?_))
      refine codeT_ghost (ghost_nilL 13 (.loc 903) 3 1 rfl rfl rfl) ?_
      refine codeT_ghost (ghost_nilL 14 (.loc 904) 3 1 rfl rfl rfl) ?_
      refine codeT_ghost (ghost_nilL 15 (.loc 906) 3 1 rfl rfl rfl) ?_
      refine codeT_ghost (ghost_keep2 [2, 3, 4, 5, 8, 9, 12, 13, 14, 15, 72, 73] [.loc 905, .loc 12, .loc 903, .loc 904, .loc 906] rfl rfl) ?_
      refine codeT_loop (fun p env st => ∃ (i : Nat) (d : Dc) (S L R : List Int), i ≤ n + m ∧ p = n + m - i ∧ d.l.length ≤ 1000 ∧ S.length ≤ i ∧ L.length ≤ i ∧ R.length ≤ i ∧ (∀ k : Nat, ((k : Int) ∈ L ↔ (k : Int) ∈ S ∧ k < n)) ∧ (∀ k : Nat, ((k : Int) ∈ R ↔ ((n + k : Nat) : Int) ∈ S)) ∧
          env = EnvL.get [(2, .t (.bool false)), (3, .ref (.loc 905) 0 0 0), (4, (.t (.int .i64 (IntKind.i64.wrap (1 + v1))))), (5, (.t (.int .i64 (IntKind.i64.wrap (1 + v2))))), (8, (.t (.sl 2 (a.map Fr.toT)))), (9, (.t (.sl 2 (b.map Fr.toT)))), (12, .ref (.loc 12) 0 0 0), (13, .row (.loc 903)), (14, .row (.loc 904)), (15, .row (.loc 906)), (72, (.t (.int .i64 (IntKind.i64.wrap (IntKind.i64.wrap (1 + v1) + IntKind.i64.wrap (1 + v2)))))), (73, (.t (.int .i64 (i : Int))))] ∧
          st = StO.get [(.loc 905, some (.var 50 [.t (.sl 1 (d.l.map (T.int .i64))), .t (.int .i64 d.k)])), (.loc 12, some (.var 30 [.t (.int .i64 0), .t (.sl 1 [.sl 2 (a.map Fr.toT), .sl 2 (b.map Fr.toT)])])), (.loc 903, some (.slt 3 1 (S.map (T.int .i64)))), (.loc 904, some (.slt 3 1 (L.map (T.int .i64)))), (.loc 906, some (.slt 3 1 (R.map (T.int .i64))))])
        ?_ (n := n + m) ⟨0, d, [], [], [], by omega, rfl, hd, by simp, by simp, by simp, by simp, by simp, rfl, rfl⟩
      rintro p env st ⟨i, d, S, L, R, hi, rfl, hd, hS, hL, hRl, hLi, hRi, rfl, rfl⟩
      have wi : IntKind.i64.wrap ((i : Int) + 1) = ((i + 1 : Nat) : Int) := by rw [wrap64 (by omega) (by omega)]; omega
      by_cases hlt : i < n + m
      · have hN3 := Next_spec d 2 (by omega) hd
        have hN3l := d.next_lt 2 (by omega)
        have hN3d : (d.next 2).2.l.length ≤ 1000 := by rw [Dc.next_l]; exact hd
        generalize d.next 2 = q at hN3 hN3l hN3d
        obtain ⟨v, d3⟩ := q
        simp only at hN3 hN3l hN3d
        unfold Dc.row at hN3
        have win : n ≤ i → IntKind.i64.wrap ((i : Int) - IntKind.i64.wrap (1 + v1)) = ((i - n : Nat) : Int) := fun h => by rw [hn, wrap64 (by omega) (by omega)]; omega
        by_cases hv : v = 0
        · repeat' (first | (with_reducible refine codeT_seq ?_) | (with_reducible refine codeT_block ?_) | (with_reducible refine codeT_skip ?_) | (with_reducible refine codeT_exit ?_) | (with_reducible refine codeT_regionL ?_) | (with_reducible refine lx_nil ?_) | (with_reducible refine q_then ?_) | (with_reducible refine q_then_exit ?_) | ((with_reducible refine q_block_same ?_ ?_); · rfl) | (with_reducible refine q_loop_exit ?_) | (exfalso; omega) | ((with_reducible refine g_move ?_); first | refine lx_move (r := (.t _)) rfl rfl rfl rfl rfl ?_ | refine lx_move (r := (.ref _ _ _ _)) rfl rfl rfl rfl rfl ?_) | ((with_reducible refine g_binOp ?_); first | refine lx_arith rfl rfl rfl rfl rfl rfl rfl ?_) | ((with_reducible refine g_assign ?_); first | refine lx_assign (r := (.t _)) rfl rfl rfl rfl rfl ?_) | ((with_reducible refine g_call ?_); first | refine lx_call (r' := .t (.int .i64 v)) [(.par 0, .loc 905)] rfl rfl hN3 (ArgsLE.refl _) rfl ⟨rfl, trivial⟩ rfl rfl rfl rfl rfl rfl rfl rfl rfl rfl ?_) | refine c_condP rfl (fun hc => ?_) (fun hc => ?_))
          all_goals try (simp only [List.length_map, List.length_singleton]; omega)
          all_goals try omega
          all_goals try rfl
          exact q_loop (n' := n + m - (i + 1)) (by omega) (ghost_keep2 [2, 3, 4, 5, 8, 9, 12, 13, 14, 15, 72, 73] [.loc 905, .loc 12, .loc 903, .loc 904, .loc 906] rfl rfl) ⟨i + 1, d3, S, L, R, by omega, rfl, hN3d, by omega, by omega, by omega, hLi, hRi, by rw [wi]; rfl, rfl⟩
        by_cases c1 : i < n
        · repeat' (first | (with_reducible refine codeT_seq ?_) | (with_reducible refine codeT_block ?_) | (with_reducible refine codeT_skip ?_) | (with_reducible refine codeT_exit ?_) | (with_reducible refine codeT_regionL ?_) | (with_reducible refine lx_nil ?_) | (with_reducible refine q_then ?_) | (with_reducible refine q_then_exit ?_) | (with_reducible refine q_block ?_) | ((with_reducible refine q_block_same ?_ ?_); · rfl) | (with_reducible refine q_loop_exit ?_) | (exfalso; omega) | ((with_reducible refine g_move ?_); first | refine lx_move (r := (.t _)) rfl rfl rfl rfl rfl ?_ | refine lx_move (r := (.ref _ _ _ _)) rfl rfl rfl rfl rfl ?_ | refine lx_move (r := (.row _)) rfl rfl rfl rfl rfl ?_) | ((with_reducible refine g_binOp ?_); first | refine lx_arith rfl rfl rfl rfl rfl rfl rfl ?_) | ((with_reducible refine g_assign ?_); first | refine lx_assign (r := (.t _)) rfl rfl rfl rfl rfl ?_ | refine lx_assign (r := (.row _)) rfl rfl rfl rfl rfl ?_) | ((with_reducible refine g_buildSlice ?_); first | refine lx_buildSlice rfl rfl rfl rfl rfl rfl rfl ?_) | ((with_reducible refine g_append ?_); first | refine lx_append_row rfl rfl rfl rfl rfl rfl rfl rfl rfl rfl ?_ ?_ ?_) | ((with_reducible refine g_call ?_); first | refine lx_call (r' := .t (.int .i64 v)) [(.par 0, .loc 905)] rfl rfl hN3 (ArgsLE.refl _) rfl ⟨rfl, trivial⟩ rfl rfl rfl rfl rfl rfl rfl rfl rfl rfl ?_) | refine c_condP rfl (fun hc => ?_) (fun hc => ?_))
          all_goals try (simp only [List.length_map, List.length_singleton]; omega)
          all_goals try omega
          all_goals try rfl
          refine q_loop (n' := n + m - (i + 1)) (by omega) (((ghost_keep2 [2, 3, 4, 5, 8, 9, 12, 13, 14, 15, 72, 73] [.loc 905, .loc 12, .loc 82, .loc 89, .loc 906] rfl rfl).trans (ghost_renL2 (.loc 82) (.loc 903) rfl rfl rfl rfl)).trans (ghost_renL2 (.loc 89) (.loc 904) rfl rfl rfl rfl)) ⟨i + 1, d3, S ++ [(i : Int)], L ++ [(i : Int)], R, by omega, rfl, hN3d, by simp; omega, by simp; omega, by omega, fun k => ?_, fun k => ?_, by rw [wi]; rfl, by rw [List.map_append, List.map_append]; rfl⟩
          · have := hLi k
            simp only [List.mem_append, List.mem_singleton]
            constructor
            · rintro (h | h)
              · exact ⟨.inl (this.1 h).1, (this.1 h).2⟩
              · exact ⟨.inr h, by omega⟩
            · rintro ⟨h | h, h2⟩
              · exact .inl (this.2 ⟨h, h2⟩)
              · exact .inr h
          · have := hRi k
            simp only [List.mem_append, List.mem_singleton]
            exact ⟨fun h => .inl (this.1 h), fun h => this.2 (h.resolve_right (by omega))⟩
        · have wq := win (by omega)
          repeat' (first | (with_reducible refine codeT_seq ?_) | (with_reducible refine codeT_block ?_) | (with_reducible refine codeT_skip ?_) | (with_reducible refine codeT_exit ?_) | (with_reducible refine codeT_regionL ?_) | (with_reducible refine lx_nil ?_) | (with_reducible refine q_then ?_) | (with_reducible refine q_then_exit ?_) | (with_reducible refine q_block ?_) | ((with_reducible refine q_block_same ?_ ?_); · rfl) | (with_reducible refine q_loop_exit ?_) | (exfalso; omega) | ((with_reducible refine g_move ?_); first | refine lx_move (r := (.t _)) rfl rfl rfl rfl rfl ?_ | refine lx_move (r := (.ref _ _ _ _)) rfl rfl rfl rfl rfl ?_ | refine lx_move (r := (.row _)) rfl rfl rfl rfl rfl ?_) | ((with_reducible refine g_binOp ?_); first | refine lx_arith rfl rfl rfl rfl rfl rfl rfl ?_) | ((with_reducible refine g_assign ?_); first | refine lx_assign (r := (.t _)) rfl rfl rfl rfl rfl ?_ | refine lx_assign (r := (.row _)) rfl rfl rfl rfl rfl ?_) | ((with_reducible refine g_buildSlice ?_); first | refine lx_buildSlice rfl rfl rfl rfl rfl rfl rfl ?_) | ((with_reducible refine g_append ?_); first | refine lx_append_row rfl rfl rfl rfl rfl rfl rfl rfl rfl rfl ?_ ?_ ?_) | ((with_reducible refine g_call ?_); first | refine lx_call (r' := .t (.int .i64 v)) [(.par 0, .loc 905)] rfl rfl hN3 (ArgsLE.refl _) rfl ⟨rfl, trivial⟩ rfl rfl rfl rfl rfl rfl rfl rfl rfl rfl ?_) | refine c_condP rfl (fun hc => ?_) (fun hc => ?_))
          all_goals try (simp only [List.length_map, List.length_singleton]; omega)
          all_goals try omega
          all_goals try rfl
          refine q_loop (n' := n + m - (i + 1)) (by omega) (((ghost_keep2 [2, 3, 4, 5, 8, 9, 12, 13, 14, 15, 72, 73] [.loc 905, .loc 12, .loc 82, .loc 904, .loc 95] rfl rfl).trans (ghost_renL2 (.loc 82) (.loc 903) rfl rfl rfl rfl)).trans (ghost_renL2 (.loc 95) (.loc 906) rfl rfl rfl rfl)) ⟨i + 1, d3, S ++ [(i : Int)], L, R ++ [IntKind.i64.wrap ((i : Int) - IntKind.i64.wrap (1 + v1))], by omega, rfl, hN3d, by simp; omega, by omega, by simp; omega, fun k => ?_, fun k => ?_, by rw [wi]; rfl, by rw [List.map_append, List.map_append]; rfl⟩
          · have := hLi k
            simp only [List.mem_append, List.mem_singleton]
            exact ⟨fun h => ⟨.inl (this.1 h).1, (this.1 h).2⟩, fun ⟨h, h2⟩ => this.2 ⟨h.resolve_right (by omega), h2⟩⟩
          · have := hRi k
            rw [wq]
            simp only [List.mem_append, List.mem_singleton]
            constructor
            · rintro (h | h)
              · exact .inl (this.1 h)
              · exact .inr (by omega)
            · rintro (h | h)
              · exact .inl (this.2 h)
              · exact .inr (by omega)
      · obtain rfl : i = n + m := by omega
        have hwa := whole_one haw ha1
        have hwb := whole_one hbw hb1
        have hlen2 : lensT [a, b] = n + m := by simp only [lensT]; omega
        have hlena : lensT [a] = n := by simp only [lensT]; omega
        have hlenb : lensT [b] = m := by simp only [lensT]; omega
        have vB : validP ⟨0, [a, b]⟩ (IntKind.i64.wrap (IntKind.i64.wrap (1 + v1) + IntKind.i64.wrap (1 + v2))) = true := by
          rw [hnm, ← hlen2]
          exact valid_lists _ (by simp) (fun l hl => by
            simp only [List.mem_cons, List.not_mem_nil, or_false] at hl
            rcases hl with rfl | rfl
            · exact ⟨by omega, haw, hwa⟩
            · exact ⟨by omega, hbw, hwb⟩) (by omega) (by omega)
        have vA : validP ⟨0, [a]⟩ (IntKind.i64.wrap (1 + v1)) = true := by
          rw [hn, ← hlena]
          exact valid_lists _ (by simp) (fun l hl => by rw [List.mem_singleton.1 hl]; exact ⟨by omega, haw, hwa⟩) (by omega) (by omega)
        have vC : validP ⟨0, [b]⟩ (IntKind.i64.wrap (1 + v2)) = true := by
          rw [hm, ← hlenb]
          exact valid_lists _ (by simp) (fun l hl => by rw [List.mem_singleton.1 hl]; exact ⟨by omega, hbw, hwb⟩) (by omega) (by omega)
        have sB : (Th.mk 0 [a, b]).Sm := ⟨by simp, fun l hl => by
          simp only [List.mem_cons, List.not_mem_nil, or_false] at hl
          rcases hl with rfl | rfl <;> omega⟩
        have sA : (Th.mk 0 [a]).Sm := ⟨by simp, fun l hl => by rw [List.mem_singleton.1 hl]; omega⟩
        have sC : (Th.mk 0 [b]).Sm := ⟨by simp, fun l hl => by rw [List.mem_singleton.1 hl]; omega⟩
        have fB : (Th.mk 0 [a, b]).Fit := ⟨by show lensT [a, b] ≤ 8; omega, by simp, fun l hl => by
          simp only [List.mem_cons, List.not_mem_nil, or_false] at hl
          rcases hl with rfl | rfl
          · exact haw
          · exact hbw, .inl rfl⟩
        have fA : (Th.mk 0 [a]).Fit := ⟨by show lensT [a] ≤ 8; omega, by simp, fun l hl => by rw [List.mem_singleton.1 hl]; exact haw, .inl rfl⟩
        have fC : (Th.mk 0 [b]).Fit := ⟨by show lensT [b] ≤ 8; omega, by simp, fun l hl => by rw [List.mem_singleton.1 hl]; exact hbw, .inl rfl⟩
        have hV := Valid_spec ⟨0, [a, b]⟩ (IntKind.i64.wrap (IntKind.i64.wrap (1 + v1) + IntKind.i64.wrap (1 + v2))) sB
        rw [vB] at hV
        have hE0 := Enough_spec ⟨0, [a, b]⟩ S fB (by omega)
        have hE1 := Enough_spec ⟨0, [a]⟩ L fA (by omega)
        have hE2 := Enough_spec ⟨0, [b]⟩ R fC (by omega)
        rw [two_parts (n := n) ha (by omega) hLi hRi] at hE0
        have hL0 := Least_spec ⟨0, [a, b]⟩ (IntKind.i64.wrap (IntKind.i64.wrap (1 + v1) + IntKind.i64.wrap (1 + v2))) sB leastG vB ⟨Int.le_refl 0, by show (0 : Int) ≤ 8; decide⟩ (fun l hl => by
          simp only [List.mem_cons, List.not_mem_nil, or_false] at hl
          rcases hl with rfl | rfl
          · exact ⟨by omega, haw⟩
          · exact ⟨by omega, hbw⟩) leastG_le (fun l hl => by
          simp only [List.mem_cons, List.not_mem_nil, or_false] at hl
          rcases hl with rfl | rfl
          · exact leastG_is _ haw hwa
          · exact leastG_is _ hbw hwb)
        have hL1 := Least_spec ⟨0, [a]⟩ (IntKind.i64.wrap (1 + v1)) sA leastG vA ⟨Int.le_refl 0, by show (0 : Int) ≤ 8; decide⟩ (fun l hl => by rw [List.mem_singleton.1 hl]; exact ⟨by omega, haw⟩) leastG_le (fun l hl => by rw [List.mem_singleton.1 hl]; exact leastG_is _ haw hwa)
        have hL2 := Least_spec ⟨0, [b]⟩ (IntKind.i64.wrap (1 + v2)) sC leastG vC ⟨Int.le_refl 0, by show (0 : Int) ≤ 8; decide⟩ (fun l hl => by rw [List.mem_singleton.1 hl]; exact ⟨by omega, hbw⟩) leastG_le (fun l hl => by rw [List.mem_singleton.1 hl]; exact leastG_is _ hbw hwb)
        have gA := leastG_le a
        have gB := leastG_le b
        simp only [leastSum, Nat.add_zero, Int.zero_add] at hL0 hL1 hL2
        have hsum : IntKind.i64.wrap ((leastG a : Int) + (leastG b : Int)) = ((leastG a + leastG b : Nat) : Int) := by rw [wrap64 (by omega) (by omega)]; omega
        rw [← hsum] at hL0
        generalize enoughP ⟨0, [a]⟩ L = VL at hE0 hE1
        generalize enoughP ⟨0, [b]⟩ R = VR at hE0 hE2
        generalize (leastG a : Int) = ga at hL0 hL1 hL2
        generalize (leastG b : Int) = gb at hL0 hL1 hL2
        simp only [Th.toT, List.map_cons, List.map_nil, frs] at hV hE0 hE1 hE2 hL0 hL1 hL2
        refine codeT_ghost (ghost_freezeL (id := .loc 903) rfl rfl rfl) ?_
        refine codeT_ghost (ghost_freezeL (id := .loc 904) rfl rfl rfl) ?_
        refine codeT_ghost (ghost_freezeL (id := .loc 906) rfl rfl rfl) ?_
        cases VL <;> cases VR
        all_goals simp only [Bool.and_true, Bool.and_false, Bool.true_and, Bool.false_and] at hE0
        · repeat' (first | (with_reducible refine codeT_seq ?_) | (with_reducible refine codeT_block ?_) | (with_reducible refine codeT_skip ?_) | (with_reducible refine codeT_ret ?_) | (with_reducible refine codeT_exit ?_) | (with_reducible refine codeT_regionL ?_) | ((with_reducible refine codeT_region_drawL ?_ ?_); · rfl) | (with_reducible refine lx_nil ?_) | (with_reducible refine q_then ?_) | (with_reducible refine q_then_exit ?_) | ((with_reducible refine q_block_same ?_ ?_); · rfl) | (with_reducible refine q_loop_exit ?_) | ((with_reducible refine q_region_draw ?_ ?_); · rfl) | (exfalso; omega) | refine lx_buildSliceF rfl rfl rfl rfl rfl rfl ?_ | ((with_reducible refine g_guard ?_); first | refine lx_skip rfl rfl rfl ?_) | ((with_reducible refine g_move ?_); first | refine lx_move (r := (.t _)) rfl rfl rfl rfl rfl ?_) | ((with_reducible refine g_load ?_); first | refine lx_load_varA (r := (.t (.agg _))) rfl rfl rfl rfl rfl rfl rfl rfl rfl ?_) | ((with_reducible refine g_binOp ?_); first | refine lx_arith rfl rfl rfl rfl rfl rfl rfl ?_ | refine lx_bool_eq rfl rfl rfl rfl rfl rfl ?_) | ((with_reducible refine g_assign ?_); first | refine lx_assign (r := (.t _)) rfl rfl rfl rfl rfl ?_) | ((with_reducible refine g_pick ?_); first | refine lx_pickT (r := (.t _)) rfl rfl rfl rfl rfl rfl ?_ | refine lx_pickF (r := (.t _)) rfl rfl rfl rfl rfl rfl ?_) | ((with_reducible refine g_alloc ?_); first | refine lx_alloc rfl rfl rfl rfl rfl rfl rfl ?_) | ((with_reducible refine g_store ?_); first | refine lx_store_var (r := (.t (.agg _))) rfl rfl rfl rfl rfl rfl rfl rfl rfl rfl ?_) | ((with_reducible refine g_build ?_); first | refine lx_build (r := (.t (.agg _))) rfl rfl rfl rfl rfl rfl rfl ?_) | ((with_reducible refine g_call ?_); first | refine lx_callT rfl rfl hV rfl rfl (ArgsLE.refl _) rfl rfl rfl rfl rfl ?_ | refine lx_callT rfl rfl hE0 rfl rfl (ArgsLE.refl _) rfl rfl rfl rfl rfl ?_ | refine lx_callT rfl rfl hE1 rfl rfl (ArgsLE.refl _) rfl rfl rfl rfl rfl ?_ | refine lx_callT rfl rfl hL0 rfl rfl (ArgsLE.refl _) rfl rfl rfl rfl rfl ?_ | refine lx_callT rfl rfl hL1 rfl rfl (ArgsLE.refl _) rfl rfl rfl rfl rfl ?_ | refine lx_callT rfl rfl hL2 rfl rfl (ArgsLE.refl _) rfl rfl rfl rfl rfl ?_ | refine lx_callT rfl rfl hA rfl rfl (ArgsLE.refl _) rfl rfl rfl rfl rfl ?_) | refine c_condP rfl (fun hc => ?_) (fun hc => ?_) | refine lx_splitP rfl (fun hc => ?_) (fun hc => ?_))
          exact q_done (q_ret (resT_oneE rfl rfl rfl) (stHas_spec trivial))
        · repeat' (first | (with_reducible refine codeT_seq ?_) | (with_reducible refine codeT_block ?_) | (with_reducible refine codeT_skip ?_) | (with_reducible refine codeT_ret ?_) | (with_reducible refine codeT_exit ?_) | (with_reducible refine codeT_regionL ?_) | ((with_reducible refine codeT_region_drawL ?_ ?_); · rfl) | (with_reducible refine lx_nil ?_) | (with_reducible refine q_then ?_) | (with_reducible refine q_then_exit ?_) | ((with_reducible refine q_block_same ?_ ?_); · rfl) | (with_reducible refine q_loop_exit ?_) | ((with_reducible refine q_region_draw ?_ ?_); · rfl) | (exfalso; omega) | refine lx_buildSliceF rfl rfl rfl rfl rfl rfl ?_ | ((with_reducible refine g_guard ?_); first | refine lx_skip rfl rfl rfl ?_) | ((with_reducible refine g_move ?_); first | refine lx_move (r := (.t _)) rfl rfl rfl rfl rfl ?_) | ((with_reducible refine g_load ?_); first | refine lx_load_varA (r := (.t (.agg _))) rfl rfl rfl rfl rfl rfl rfl rfl rfl ?_) | ((with_reducible refine g_binOp ?_); first | refine lx_arith rfl rfl rfl rfl rfl rfl rfl ?_ | refine lx_bool_eq rfl rfl rfl rfl rfl rfl ?_) | ((with_reducible refine g_assign ?_); first | refine lx_assign (r := (.t _)) rfl rfl rfl rfl rfl ?_) | ((with_reducible refine g_pick ?_); first | refine lx_pickT (r := (.t _)) rfl rfl rfl rfl rfl rfl ?_ | refine lx_pickF (r := (.t _)) rfl rfl rfl rfl rfl rfl ?_) | ((with_reducible refine g_alloc ?_); first | refine lx_alloc rfl rfl rfl rfl rfl rfl rfl ?_) | ((with_reducible refine g_store ?_); first | refine lx_store_var (r := (.t (.agg _))) rfl rfl rfl rfl rfl rfl rfl rfl rfl rfl ?_) | ((with_reducible refine g_build ?_); first | refine lx_build (r := (.t (.agg _))) rfl rfl rfl rfl rfl rfl rfl ?_) | ((with_reducible refine g_call ?_); first | refine lx_callT rfl rfl hV rfl rfl (ArgsLE.refl _) rfl rfl rfl rfl rfl ?_ | refine lx_callT rfl rfl hE0 rfl rfl (ArgsLE.refl _) rfl rfl rfl rfl rfl ?_ | refine lx_callT rfl rfl hE1 rfl rfl (ArgsLE.refl _) rfl rfl rfl rfl rfl ?_ | refine lx_callT rfl rfl hL0 rfl rfl (ArgsLE.refl _) rfl rfl rfl rfl rfl ?_ | refine lx_callT rfl rfl hL1 rfl rfl (ArgsLE.refl _) rfl rfl rfl rfl rfl ?_ | refine lx_callT rfl rfl hL2 rfl rfl (ArgsLE.refl _) rfl rfl rfl rfl rfl ?_ | refine lx_callT rfl rfl hA rfl rfl (ArgsLE.refl _) rfl rfl rfl rfl rfl ?_) | refine c_condP rfl (fun hc => ?_) (fun hc => ?_) | refine lx_splitP rfl (fun hc => ?_) (fun hc => ?_))
          exact q_done (q_ret (resT_oneE rfl rfl rfl) (stHas_spec trivial))
        · repeat' (first | (with_reducible refine codeT_seq ?_) | (with_reducible refine codeT_block ?_) | (with_reducible refine codeT_skip ?_) | (with_reducible refine codeT_ret ?_) | (with_reducible refine codeT_exit ?_) | (with_reducible refine codeT_regionL ?_) | ((with_reducible refine codeT_region_drawL ?_ ?_); · rfl) | (with_reducible refine lx_nil ?_) | (with_reducible refine q_then ?_) | (with_reducible refine q_then_exit ?_) | ((with_reducible refine q_block_same ?_ ?_); · rfl) | (with_reducible refine q_loop_exit ?_) | ((with_reducible refine q_region_draw ?_ ?_); · rfl) | (exfalso; omega) | refine lx_buildSliceF rfl rfl rfl rfl rfl rfl ?_ | ((with_reducible refine g_move ?_); first | refine lx_move (r := (.t _)) rfl rfl rfl rfl rfl ?_) | ((with_reducible refine g_load ?_); first | refine lx_load_varA (r := (.t (.agg _))) rfl rfl rfl rfl rfl rfl rfl rfl rfl ?_) | ((with_reducible refine g_binOp ?_); first | refine lx_arith rfl rfl rfl rfl rfl rfl rfl ?_ | refine lx_bool_eq rfl rfl rfl rfl rfl rfl ?_) | ((with_reducible refine g_assign ?_); first | refine lx_assign (r := (.t _)) rfl rfl rfl rfl rfl ?_) | ((with_reducible refine g_pick ?_); first | refine lx_pickT (r := (.t _)) rfl rfl rfl rfl rfl rfl ?_) | ((with_reducible refine g_alloc ?_); first | refine lx_alloc rfl rfl rfl rfl rfl rfl rfl ?_) | ((with_reducible refine g_store ?_); first | refine lx_store_var (r := (.t (.agg _))) rfl rfl rfl rfl rfl rfl rfl rfl rfl rfl ?_) | ((with_reducible refine g_build ?_); first | refine lx_build (r := (.t (.agg _))) rfl rfl rfl rfl rfl rfl rfl ?_) | ((with_reducible refine g_call ?_); first | refine lx_callT rfl rfl hV rfl rfl (ArgsLE.refl _) rfl rfl rfl rfl rfl ?_ | refine lx_callT rfl rfl hE0 rfl rfl (ArgsLE.refl _) rfl rfl rfl rfl rfl ?_ | refine lx_callT rfl rfl hE1 rfl rfl (ArgsLE.refl _) rfl rfl rfl rfl rfl ?_ | refine lx_callT rfl rfl hE2 rfl rfl (ArgsLE.refl _) rfl rfl rfl rfl rfl ?_ | refine lx_callT rfl rfl hL0 rfl rfl (ArgsLE.refl _) rfl rfl rfl rfl rfl ?_ | refine lx_callT rfl rfl hL1 rfl rfl (ArgsLE.refl _) rfl rfl rfl rfl rfl ?_ | refine lx_callT rfl rfl hL2 rfl rfl (ArgsLE.refl _) rfl rfl rfl rfl rfl ?_ | refine lx_callT rfl rfl hA rfl rfl (ArgsLE.refl _) rfl rfl rfl rfl rfl ?_) | refine c_condP rfl (fun hc => ?_) (fun hc => ?_) | refine lx_splitP rfl (fun hc => ?_) (fun hc => ?_))
          exact q_done (q_ret (resT_oneE rfl rfl rfl) (stHas_spec trivial))
        · repeat' (first | (with_reducible refine codeT_seq ?_) | (with_reducible refine codeT_block ?_) | (with_reducible refine codeT_skip ?_) | (with_reducible refine codeT_ret ?_) | (with_reducible refine codeT_exit ?_) | (with_reducible refine codeT_regionL ?_) | ((with_reducible refine codeT_region_drawL ?_ ?_); · rfl) | (with_reducible refine lx_nil ?_) | (with_reducible refine q_then ?_) | (with_reducible refine q_then_exit ?_) | ((with_reducible refine q_block_same ?_ ?_); · rfl) | (with_reducible refine q_loop_exit ?_) | ((with_reducible refine q_region_draw ?_ ?_); · rfl) | (exfalso; omega) | refine lx_buildSliceF rfl rfl rfl rfl rfl rfl ?_ | ((with_reducible refine g_move ?_); first | refine lx_move (r := (.t _)) rfl rfl rfl rfl rfl ?_) | ((with_reducible refine g_load ?_); first | refine lx_load_varA (r := (.t (.agg _))) rfl rfl rfl rfl rfl rfl rfl rfl rfl ?_) | ((with_reducible refine g_binOp ?_); first | refine lx_arith rfl rfl rfl rfl rfl rfl rfl ?_ | refine lx_bool_eq rfl rfl rfl rfl rfl rfl ?_) | ((with_reducible refine g_assign ?_); first | refine lx_assign (r := (.t _)) rfl rfl rfl rfl rfl ?_) | ((with_reducible refine g_pick ?_); first | refine lx_pickT (r := (.t _)) rfl rfl rfl rfl rfl rfl ?_) | ((with_reducible refine g_alloc ?_); first | refine lx_alloc rfl rfl rfl rfl rfl rfl rfl ?_) | ((with_reducible refine g_store ?_); first | refine lx_store_var (r := (.t (.agg _))) rfl rfl rfl rfl rfl rfl rfl rfl rfl rfl ?_) | ((with_reducible refine g_build ?_); first | refine lx_build (r := (.t (.agg _))) rfl rfl rfl rfl rfl rfl rfl ?_) | ((with_reducible refine g_call ?_); first | refine lx_callT rfl rfl hV rfl rfl (ArgsLE.refl _) rfl rfl rfl rfl rfl ?_ | refine lx_callT rfl rfl hE0 rfl rfl (ArgsLE.refl _) rfl rfl rfl rfl rfl ?_ | refine lx_callT rfl rfl hE1 rfl rfl (ArgsLE.refl _) rfl rfl rfl rfl rfl ?_ | refine lx_callT rfl rfl hE2 rfl rfl (ArgsLE.refl _) rfl rfl rfl rfl rfl ?_ | refine lx_callT rfl rfl hL0 rfl rfl (ArgsLE.refl _) rfl rfl rfl rfl rfl ?_ | refine lx_callT rfl rfl hL1 rfl rfl (ArgsLE.refl _) rfl rfl rfl rfl rfl ?_ | refine lx_callT rfl rfl hL2 rfl rfl (ArgsLE.refl _) rfl rfl rfl rfl rfl ?_ | refine lx_callT rfl rfl hA rfl rfl (ArgsLE.refl _) rfl rfl rfl rfl rfl ?_) | refine c_condP rfl (fun hc => ?_) (fun hc => ?_) | refine lx_splitP rfl (fun hc => ?_) (fun hc => ?_))
          exact q_done (q_ret (resT_oneE rfl rfl rfl) (stHas_spec trivial))
  · rw [decide_eq_false hg1] at hLt
    refine spec_intro (env0 := [(0, _)]) (st0 := []) Try.func5 rfl rfl rfl rfl ?_
    repeat' (first | (with_reducible refine codeT_seq ?_) | (with_reducible refine codeT_ret ?_) | (with_reducible refine codeT_regionL ?_) | (with_reducible refine lx_nil ?_) | (with_reducible refine q_then ?_) | (with_reducible refine q_then_ret ?_) | refine c_condT rfl ?_ | ((with_reducible refine g_move ?_); first | refine lx_move (r := (.t _)) rfl rfl rfl rfl rfl ?_) | ((with_reducible refine g_assign ?_); first | refine lx_assign (r := (.t _)) rfl rfl rfl rfl rfl ?_) | ((with_reducible refine g_unOp ?_); first | refine lx_not rfl rfl rfl rfl rfl ?_) | ((with_reducible refine g_call ?_); first | refine lx_callT rfl rfl hLt rfl rfl (ArgsLE.refl _) rfl rfl rfl rfl rfl ?_ | refine lx_callT rfl rfl hA rfl rfl (ArgsLE.refl _) rfl rfl rfl rfl rfl ?_))
    exact q_ret (resT_oneE rfl rfl rfl) (by simp)
end Go.AL
