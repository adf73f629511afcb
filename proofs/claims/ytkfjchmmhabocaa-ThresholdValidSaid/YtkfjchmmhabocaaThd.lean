/- How weights are sorted. -/
import Derived.Test.YtkfjchmmhabocaaThc
import Derived.Test.YtkfjchmmhabocaaThp
import Derived.Test.YtkfjchmmhabocaaAl3
import Derived.Test.YtkfjchmmhabocaaAl4
set_option linter.unusedVariables false
namespace Go.AL
open Go Go.Proofs Go.RowKit

set_option maxHeartbeats 2000000 in
theorem cmp_spec (a b : Fr) (ha : a.wt = true) (hb : b.wt = true) : Spec Try.prog 38 [.t a.toT, .t b.toT] [] (.t (.int .i64 (cmpF a b))) [] := by
  obtain ⟨h1, h2, h3, h4⟩ := cmp_bd ha hb
  have e1 : IntKind.i64.wrap (b.n * a.d) = b.n * a.d := wrap64 (by omega) (by omega)
  have e2 : IntKind.i64.wrap (a.n * b.d) = a.n * b.d := wrap64 (by omega) (by omega)
  have e3 : IntKind.i64.wrap (IntKind.i64.wrap (b.n * a.d) - IntKind.i64.wrap (a.n * b.d)) = cmpF a b := by rw [e1, e2]; unfold cmpF; exact wrap64 (by omega) (by omega)
  generalize cmpF a b = c at *
  unfold Fr.toT
  refine spec_intro (env0 := [(0, _), (1, _)]) (st0 := []) Try.func38 rfl rfl rfl rfl ?_
  repeat' (first | (with_reducible refine codeT_seq ?_) | (with_reducible refine codeT_ret ?_) | (with_reducible refine codeT_regionL ?_) | (with_reducible refine lx_nil ?_) | (with_reducible refine q_then ?_) | ((with_reducible refine g_load ?_); first | refine lx_load_var rfl rfl rfl rfl rfl rfl rfl rfl ?_) | ((with_reducible refine g_fieldAddr ?_); first | refine lx_fieldAddr rfl rfl rfl rfl rfl rfl rfl ?_) | ((with_reducible refine g_binOp ?_); first | refine lx_arith rfl rfl rfl rfl rfl rfl rfl ?_) | ((with_reducible refine g_assign ?_); first | refine lx_assign (r := (.t _)) rfl rfl rfl rfl rfl ?_) | ((with_reducible refine g_box ?_); first | refine lx_box (r := (.t (.agg _))) (cs := (List.map .t _)) rfl rfl rfl rfl rfl rfl rfl rfl rfl ?_))
  exact q_ret (resT_oneE rfl rfl (congrArg (T.int .i64) e3)) (by simp)
set_option maxHeartbeats 8000000 in
theorem insert_spec (l : List Fr) (hw : ∀ f ∈ l, f.wt = true) (h12 : l.length ≤ 12) : Spec Try.prog 50 [.row (.par 0), .t (.int .i64 0), .t (.int .i64 (l.length : Int)), .t (.fn 38)] [(.par 0, .slt 38 2 (l.map Fr.toT))] (.tup []) [(.par 0, .slt 38 2 ((sortF l).map Fr.toT))] := by
  obtain ⟨R, hR⟩ : ∃ R, R = sortF l := ⟨_, rfl⟩
  rw [← hR]
  unfold sortF at hR
  obtain ⟨n, hn⟩ : ∃ n, n = l.length := ⟨_, rfl⟩
  rw [← hn] at hR ⊢
  refine spec_intro (env0 := [(0, _), (1, _), (2, _), (3, _)]) (st0 := [(_, some _)]) Try.func50 rfl rfl rfl rfl ?_
  repeat' (first | (with_reducible refine codeT_seq ?_) | (with_reducible refine codeT_block ?_) | (with_reducible refine codeT_regionL ?_) | (with_reducible refine lx_nil ?_) | (with_reducible refine q_then ?_) | ((with_reducible refine g_move ?_); first | refine lx_move (r := (.t _)) rfl rfl rfl rfl rfl ?_) | ((with_reducible refine g_binOp ?_); first | refine lx_arith rfl rfl rfl rfl rfl rfl rfl ?_) | ((with_reducible refine g_assign ?_); first | refine lx_assign (r := (.t _)) rfl rfl rfl rfl rfl ?_))
  refine codeT_ghost (ghost_keep2 [0, 1, 2, 3, 8] [.par 0] rfl rfl) ?_
  refine codeT_loop (fun q env st => ∃ (i : Nat) (y : List Fr), 1 ≤ i ∧ i ≤ n + 1 ∧ q = n + 1 - i ∧ y.length = n ∧ (∀ f ∈ y, f.wt = true) ∧ R = srt (n - i) y ∧ env = EnvL.get [(0, .row (.par 0)), (1, .t (.int .i64 0)), (2, .t (.int .i64 (n : Int))), (3, .t (.fn 38)), (8, .t (.int .i64 (i : Int)))] ∧
      st = StO.get [(.par 0, some (.slt 38 2 (y.map Fr.toT)))])
    ?_ (n := n) ⟨1, l, by omega, by omega, by omega, hn.symm, hw, hR, rfl, rfl⟩
  rintro q env st ⟨i, y, hi1, hi, rfl, hy, hyw, hG, rfl, rfl⟩
  have wi : IntKind.i64.wrap ((i : Int) + 1) = ((i + 1 : Nat) : Int) := by rw [wrap64 (by omega) (by omega)]; omega
  by_cases hlt : i < n
  · rw [show n - i = (n - (i + 1)) + 1 by omega, srt, hy, show n - (n - (i + 1) + 1) = i by omega] at hG
    repeat' (first | (with_reducible refine codeT_seq ?_) | (with_reducible refine codeT_block ?_) | (with_reducible refine codeT_skip ?_) | (with_reducible refine codeT_exit ?_) | (with_reducible refine codeT_regionL ?_) | (with_reducible refine lx_nil ?_) | (with_reducible refine q_then ?_) | (with_reducible refine q_then_exit ?_) | ((with_reducible refine q_block_same ?_ ?_); · rfl) | (with_reducible refine q_loop_exit ?_) | (exfalso; omega) | ((with_reducible refine g_move ?_); first | refine lx_move (r := (.t _)) rfl rfl rfl rfl rfl ?_) | ((with_reducible refine g_binOp ?_); first | refine lx_arith rfl rfl rfl rfl rfl rfl rfl ?_) | ((with_reducible refine g_assign ?_); first | refine lx_assign (r := (.t _)) rfl rfl rfl rfl rfl ?_) | refine c_condP rfl (fun hc => ?_) (fun hc => ?_))
    refine codeT_ghost (ghost_keep2 [0, 1, 2, 3, 8, 9] [.par 0] rfl rfl) ?_
    refine codeT_loop (fun q env st => ∃ (j : Nat) (z : List Fr), j ≤ i ∧ q = j ∧ z.length = n ∧ (∀ f ∈ z, f.wt = true) ∧ R = srt (n - (i + 1)) (bub j z) ∧ env = EnvL.get [(0, .row (.par 0)), (1, .t (.int .i64 0)), (2, .t (.int .i64 (n : Int))), (3, .t (.fn 38)), (8, .t (.int .i64 (i : Int))), (9, .t (.int .i64 (j : Int)))] ∧
        st = StO.get [(.par 0, some (.slt 38 2 (z.map Fr.toT)))])
      ?_ (n := i) ⟨i, y, by omega, rfl, hy, hyw, hG, rfl, rfl⟩
    rintro q env st ⟨j, z, hj, rfl, hz, hzw, hG, rfl, rfl⟩
    cases q with
    | zero =>
      rw [bub] at hG
      repeat' (first | (with_reducible refine codeT_seq ?_) | (with_reducible refine codeT_exit ?_) | (with_reducible refine codeT_regionL ?_) | ((with_reducible refine codeT_region_drawL ?_ ?_); · rfl) | (with_reducible refine lx_nil ?_) | (with_reducible refine q_then ?_) | (with_reducible refine q_then_exit ?_) | (with_reducible refine q_block ?_) | ((with_reducible refine q_block_same ?_ ?_); · rfl) | (with_reducible refine q_loop_exit ?_) | ((with_reducible refine q_region_draw ?_ ?_); · rfl) | refine c_condF rfl ?_ | ((with_reducible refine g_guard ?_); first | refine lx_skip rfl rfl rfl ?_) | ((with_reducible refine g_move ?_); first | refine lx_move (r := (.t _)) rfl rfl rfl rfl rfl ?_) | ((with_reducible refine g_binOp ?_); first | refine lx_arith rfl rfl rfl rfl rfl rfl rfl ?_) | ((with_reducible refine g_assign ?_); first | refine lx_assign (r := (.t _)) rfl rfl rfl rfl rfl ?_) | ((with_reducible refine g_pick ?_); first | refine lx_pickF (r := (.t _)) rfl rfl rfl rfl rfl rfl ?_))
      exact q_loop (n' := n + 1 - (i + 1)) (by omega) (ghost_keep2 [0, 1, 2, 3, 8] [.par 0] rfl rfl) ⟨i + 1, z, by omega, by omega, rfl, hz, hzw, hG, by rw [wi]; rfl, rfl⟩
    | succ j =>
      have w1 : IntKind.i64.wrap (((j + 1 : Nat) : Int) - 1) = (j : Int) := by rw [wrap64 (by omega) (by omega)]; omega
      have mA : z.getD (j + 1) default ∈ z := getD_mem (j := j + 1) (by omega)
      have mB : z.getD j default ∈ z := getD_mem (j := j) (by omega)
      have hC := cmp_spec (z.getD (j + 1) default) (z.getD j default) (hzw _ mA) (hzw _ mB)
      rw [bub] at hG
      obtain ⟨J, hJ⟩ : ∃ J : Int, J = ((j + 1 : Nat) : Int) := ⟨_, rfl⟩
      rw [← hJ] at w1 ⊢
      have eA : z.getD J.toNat default = z.getD (j + 1) default := by rw [hJ]; rfl
      have eB : z.getD (IntKind.i64.wrap (J - 1)).toNat default = z.getD j default := by rw [w1]; rfl
      have hS : swp z (j + 1) = (z.set J.toNat (z.getD (IntKind.i64.wrap (J - 1)).toNat default)).set (IntKind.i64.wrap (J - 1)).toNat (z.getD J.toNat default) := by
        rw [eA, eB, w1, hJ]; rfl
      rw [← eA, ← eB] at hC hG
      have hp := swp_perm z (j + 1) (by omega)
      generalize hc0 : cmpF (z.getD J.toNat default) (z.getD (IntKind.i64.wrap (J - 1)).toNat default) = c at *
      unfold Fr.toT at hC ⊢
      have bJ : 0 ≤ IntKind.i64.wrap (J - 1) ∧ IntKind.i64.wrap (J - 1) < n := by rw [w1]; omega
      by_cases hcn : c < 0
      · rw [if_pos hcn] at hG
        repeat' (first | (with_reducible refine codeT_seq ?_) | (with_reducible refine codeT_block ?_) | (with_reducible refine codeT_skip ?_) | (with_reducible refine codeT_exit ?_) | (with_reducible refine codeT_regionL ?_) | ((with_reducible refine codeT_region_drawL ?_ ?_); · rfl) | (with_reducible refine lx_nil ?_) | (with_reducible refine q_then ?_) | (with_reducible refine q_then_exit ?_) | (with_reducible refine q_block ?_) | ((with_reducible refine q_block_same ?_ ?_); · rfl) | (with_reducible refine q_loop_exit ?_) | ((with_reducible refine q_region_draw ?_ ?_); · rfl) | (exfalso; omega) | ((with_reducible refine g_move ?_); first | refine lx_move (r := (.t _)) rfl rfl rfl rfl rfl ?_ | refine lx_move (r := (.row _)) rfl rfl rfl rfl rfl ?_) | ((with_reducible refine g_load ?_); first | refine lx_load_elsAM rfl rfl rfl rfl rfl rfl rfl ?_ ?_ ?_) | ((with_reducible refine g_binOp ?_); first | refine lx_arith rfl rfl rfl rfl rfl rfl rfl ?_) | ((with_reducible refine g_assign ?_); first | refine lx_assign (r := (.t _)) rfl rfl rfl rfl rfl ?_) | ((with_reducible refine g_pick ?_); first | refine lx_pickT (r := (.t _)) rfl rfl rfl rfl rfl rfl ?_) | ((with_reducible refine g_store ?_); first | refine lx_store_slt rfl rfl rfl rfl rfl rfl ?_ ?_ ?_) | ((with_reducible refine g_indexAddr ?_); first | refine lx_indexAddr_row rfl rfl rfl rfl rfl rfl rfl ?_ ?_ ?_) | ((with_reducible refine g_call ?_); first | refine lx_callT rfl rfl hC rfl rfl (ArgsLE.refl _) rfl rfl rfl rfl rfl ?_) | refine c_condP rfl (fun hc => ?_) (fun hc => ?_) | refine lx_splitP rfl (fun hc => ?_) (fun hc => ?_))
        all_goals try (simp only [List.length_map, List.length_set]; omega)
        all_goals try omega
        all_goals try rfl
        exact q_loop (n' := j) (by omega) (ghost_keep2 [0, 1, 2, 3, 8, 9] [.par 0] rfl rfl) ⟨j, swp z (j + 1), by omega, rfl, by rw [hp.length_eq]; exact hz, fun f hf => hzw f (hp.mem_iff.1 hf), hG, by rw [w1]; rfl, by rw [hS]; simp only [List.map_set]; rfl⟩
      · rw [if_neg hcn] at hG
        repeat' (first | (with_reducible refine codeT_seq ?_) | (with_reducible refine codeT_block ?_) | (with_reducible refine codeT_skip ?_) | (with_reducible refine codeT_exit ?_) | (with_reducible refine codeT_regionL ?_) | ((with_reducible refine codeT_region_drawL ?_ ?_); · rfl) | (with_reducible refine lx_nil ?_) | (with_reducible refine q_then ?_) | (with_reducible refine q_then_exit ?_) | (with_reducible refine q_block ?_) | ((with_reducible refine q_block_same ?_ ?_); · rfl) | (with_reducible refine q_loop_exit ?_) | ((with_reducible refine q_region_draw ?_ ?_); · rfl) | (exfalso; omega) | ((with_reducible refine g_move ?_); first | refine lx_move (r := (.t _)) rfl rfl rfl rfl rfl ?_ | refine lx_move (r := (.row _)) rfl rfl rfl rfl rfl ?_) | ((with_reducible refine g_load ?_); first | refine lx_load_elsAM rfl rfl rfl rfl rfl rfl rfl ?_ ?_ ?_) | ((with_reducible refine g_binOp ?_); first | refine lx_arith rfl rfl rfl rfl rfl rfl rfl ?_) | ((with_reducible refine g_assign ?_); first | refine lx_assign (r := (.t _)) rfl rfl rfl rfl rfl ?_) | ((with_reducible refine g_pick ?_); first | refine lx_pickT (r := (.t _)) rfl rfl rfl rfl rfl rfl ?_) | ((with_reducible refine g_indexAddr ?_); first | refine lx_indexAddr_row rfl rfl rfl rfl rfl rfl rfl ?_ ?_ ?_) | ((with_reducible refine g_call ?_); first | refine lx_callT rfl rfl hC rfl rfl (ArgsLE.refl _) rfl rfl rfl rfl rfl ?_) | refine c_condP rfl (fun hc => ?_) (fun hc => ?_) | refine lx_splitP rfl (fun hc => ?_) (fun hc => ?_))
        all_goals try (simp only [List.length_map, List.length_set]; omega)
        all_goals try omega
        all_goals try rfl
        exact q_loop (n' := n + 1 - (i + 1)) (by omega) (ghost_keep2 [0, 1, 2, 3, 8] [.par 0] rfl rfl) ⟨i + 1, z, by omega, by omega, rfl, hz, hzw, hG, by rw [wi]; rfl, rfl⟩
  · rw [show n - i = 0 by omega, srt] at hG
    subst hG
    repeat' (first | (with_reducible refine codeT_seq ?_) | (with_reducible refine codeT_block ?_) | (with_reducible refine codeT_skip ?_) | (with_reducible refine codeT_exit ?_) | (with_reducible refine codeT_regionL ?_) | (with_reducible refine lx_nil ?_) | (with_reducible refine q_then ?_) | (with_reducible refine q_then_exit ?_) | ((with_reducible refine q_block_same ?_ ?_); · rfl) | (with_reducible refine q_loop_exit ?_) | (exfalso; omega) | ((with_reducible refine g_move ?_); first | refine lx_move (r := (.t _)) rfl rfl rfl rfl rfl ?_) | ((with_reducible refine g_binOp ?_); first | refine lx_arith rfl rfl rfl rfl rfl rfl rfl ?_) | refine c_condP rfl (fun hc => ?_) (fun hc => ?_))
    exact q_end (resT_none rfl) (stHas_spec ⟨rfl, trivial⟩)
end Go.AL
/- How a list of weights is collected. -/
set_option linter.unusedVariables false
namespace Go.AL
open Go Go.Proofs Go.RowKit

set_option maxHeartbeats 2000000 in
theorem Values_spec (l : List Fr) : Spec Try.prog 37 [.t (frs l)] [] (.fn 46 [.ref (.res 0) 0 0 0]) [(.res 0, .var 39 [.t (frs l)])] := by
  unfold frs
  refine spec_introG (env0 := [(0, _)]) (st0 := []) Try.func37 rfl rfl rfl rfl ?_
  repeat' (first | (with_reducible refine codeT_seq ?_) | (with_reducible refine codeT_ret ?_) | (with_reducible refine codeT_regionL ?_) | (with_reducible refine lx_nil ?_) | (with_reducible refine q_then ?_) | ((with_reducible refine g_assign ?_); first | refine lx_assign (r := (.t _)) rfl rfl rfl rfl rfl ?_ | refine lx_assign (r := (.fn _ _)) rfl rfl rfl rfl rfl ?_) | ((with_reducible refine g_box ?_); first | refine lx_box (r := (.t _)) (cs := [.t _]) rfl rfl rfl rfl rfl rfl rfl rfl rfl ?_) | ((with_reducible refine g_makeFunc ?_); first | refine lx_makeFunc rfl rfl rfl rfl rfl ?_))
  refine q_ghost ((ghost_keep2 [2] [.loc 1] rfl rfl).trans (ghost_renL2 (.loc 1) (.res 0) rfl rfl rfl rfl)) ?_
  exact q_done (q_ret (resT_one rfl (AVLE.of_eq rfl)) (stHas_spec ⟨rfl, trivial⟩))
set_option maxHeartbeats 4000000 in
theorem valF_spec (l : List Fr) (hl : l.length ≤ 1000) (kk : LoopK) (tb : Nat)
    (H : ∀ (ds : List Fr) (x : Fr), ds.length ≤ 1000 → RoundT Try.prog kk [(tb, .ref (.par 10) 0 0 0)] [.t x.toT] [(.par 10, .var 39 [.row (.par 11)]), (.par 11, .slt 38 2 (ds.map Fr.toT))] [(.par 10, .var 39 [.row (.res 0)]), (.res 0, .slt 38 2 ((ds ++ [x]).map Fr.toT))]) :
    Spec Try.prog 46 [.row (.par 50), .ref (.par 20) 0 0 0] [(.par 50, .loop kk [(tb, .ref (.par 10) 0 0 0)]), (.par 20, .var 39 [.t (frs l)]), (.par 10, .var 39 [.row (.par 11)]), (.par 11, .slt 38 2 [])]
      (.tup []) [(.par 50, .loop kk [(tb, .ref (.par 10) 0 0 0)]), (.par 20, .var 39 [.t (frs l)]), (.par 10, .var 39 [.row (.res 0)]), (.res 0, .slt 38 2 (l.map Fr.toT))] := by
  unfold frs
  refine spec_introG (env0 := [(0, _), (1, _)]) (st0 := [(_, some _), (_, some _), (_, some _), (_, some _)]) Try.func46 rfl rfl rfl rfl ?_
  repeat' (first | (with_reducible refine codeT_seq ?_) | (with_reducible refine codeT_block ?_) | (with_reducible refine codeT_regionL ?_) | (with_reducible refine lx_nil ?_) | (with_reducible refine q_then ?_) | ((with_reducible refine g_move ?_); first | refine lx_move (r := (.t _)) rfl rfl rfl rfl rfl ?_) | ((with_reducible refine g_load ?_); first | refine lx_load_var rfl rfl rfl rfl rfl rfl rfl rfl ?_) | ((with_reducible refine g_len ?_); first | refine lx_len_map rfl rfl rfl rfl rfl ?_))
  refine codeT_ghost ((ghost_keep2 [0, 1, 5, 6, 7] [.par 50, .par 20, .par 10, .par 11] rfl rfl).trans (ghost_renLP (.par 11) (.loc 900) rfl rfl rfl rfl)) ?_
  refine codeT_loop (fun p env st => ∃ (j : Nat), j ≤ l.length ∧ p = l.length - j ∧
      env = EnvL.get [(0, .row (.par 50)), (1, .ref (.par 20) 0 0 0), (5, .t (.sl 2 (l.map Fr.toT))), (6, .t (.int .i64 (l.length : Int))), (7, .t (.int .i64 (j : Int)))] ∧
      st = StO.get [(.par 50, some (.loop kk [(tb, .ref (.par 10) 0 0 0)])), (.par 20, some (.var 39 [.t (.sl 2 (l.map Fr.toT))])), (.par 10, some (.var 39 [.row (.loc 900)])), (.loc 900, some (.slt 38 2 ((l.take j).map Fr.toT)))])
    ?_ (n := l.length) ⟨0, by omega, rfl, rfl, rfl⟩
  rintro p env st ⟨j, hj, rfl, rfl, rfl⟩
  have wj : IntKind.i64.wrap ((j : Int) + 1) = ((j + 1 : Nat) : Int) := by rw [wrap64 (by omega) (by omega)]; omega
  by_cases hlt : j < l.length
  · have hR := H (l.take j) (l.getD (j : Int).toNat default) (by rw [List.length_take]; omega)
    have hT : l.take j ++ [l.getD (j : Int).toNat default] = l.take (j + 1) := by
      rw [List.take_add_one, Int.toNat_natCast, List.getD_eq_getElem?_getD, List.getElem?_eq_getElem hlt]; rfl
    rw [hT] at hR
    unfold Fr.toT at hR ⊢
    repeat' (first | (with_reducible refine codeT_seq ?_) | (with_reducible refine codeT_block ?_) | (with_reducible refine codeT_skip ?_) | (with_reducible refine codeT_exit ?_) | (with_reducible refine codeT_regionL ?_) | (with_reducible refine lx_nil ?_) | (with_reducible refine q_then ?_) | (with_reducible refine q_then_exit ?_) | (with_reducible refine q_block ?_) | ((with_reducible refine q_block_same ?_ ?_); · rfl) | (with_reducible refine q_loop_exit ?_) | refine c_condF rfl ?_ | (exfalso; omega) | ((with_reducible refine g_move ?_); first | refine lx_move (r := (.t _)) rfl rfl rfl rfl rfl ?_ | refine lx_move (r := (.row _)) rfl rfl rfl rfl rfl ?_) | ((with_reducible refine g_load ?_); first | refine lx_load_varA (r := (.t (.agg _))) rfl rfl rfl rfl rfl rfl rfl rfl rfl ?_ | refine lx_load_tpA rfl rfl rfl rfl rfl rfl rfl rfl ?_) | ((with_reducible refine g_binOp ?_); first | refine lx_arith rfl rfl rfl rfl rfl rfl rfl ?_) | ((with_reducible refine g_alloc ?_); first | refine lx_alloc rfl rfl rfl rfl rfl rfl rfl ?_) | ((with_reducible refine g_store ?_); first | refine lx_store_var (r := (.t (.agg _))) rfl rfl rfl rfl rfl rfl rfl rfl rfl rfl ?_) | ((with_reducible refine g_indexAddr ?_); first | refine lx_indexAddr_map rfl rfl rfl rfl rfl rfl ?_ ?_ ?_) | ((with_reducible refine g_unOp ?_); first | refine lx_not rfl rfl rfl rfl rfl ?_) | ((with_reducible refine g_call ?_); first | refine lx_yield [(.par 11, .loc 900), (.res 0, .loc 901)] rfl rfl hR rfl (ArgsLE.refl _) rfl rfl ⟨rfl, rfl, trivial⟩ rfl rfl rfl rfl rfl rfl rfl rfl rfl rfl ?_) | refine c_condP rfl (fun hc => ?_) (fun hc => ?_))
    all_goals try (simp only [List.length_map]; omega)
    all_goals try omega
    all_goals try rfl
    refine q_loop (n' := l.length - (j + 1)) (by omega) ((ghost_keep2 [0, 1, 5, 6, 7] [.par 50, .par 20, .par 10, .loc 901] rfl rfl).trans (ghost_renL2 (.loc 901) (.loc 900) rfl rfl rfl rfl)) ⟨j + 1, by omega, rfl, by rw [wj]; rfl, rfl⟩
  · obtain rfl : j = l.length := by omega
    rw [List.take_length]
    repeat' (first | (with_reducible refine codeT_seq ?_) | (with_reducible refine codeT_block ?_) | (with_reducible refine codeT_skip ?_) | (with_reducible refine codeT_exit ?_) | (with_reducible refine codeT_regionL ?_) | (with_reducible refine lx_nil ?_) | (with_reducible refine q_then ?_) | (with_reducible refine q_then_exit ?_) | ((with_reducible refine q_block_same ?_ ?_); · rfl) | (with_reducible refine q_loop_exit ?_) | (exfalso; omega) | ((with_reducible refine g_binOp ?_); first | refine lx_arith rfl rfl rfl rfl rfl rfl rfl ?_) | refine c_condP rfl (fun hc => ?_) (fun hc => ?_))
    refine q_ghost ((ghost_keep2 [] [.par 50, .par 20, .par 10, .loc 900] rfl rfl).trans (ghost_renL2 (.loc 900) (.res 0) rfl rfl rfl rfl)) ?_
    exact q_done (q_end (resT_none rfl) (stHas_spec ⟨rfl, rfl, rfl, rfl, trivial⟩))
set_option maxHeartbeats 8000000 in
theorem AppendSeq_spec (l : List Fr) (hl : l.length ≤ 1000) : Spec Try.prog 47 [.t .nilsl, .fn 46 [.ref (.par 20) 0 0 0]] [(.par 20, .var 39 [.t (frs l)])] (.row (.res 0)) [(.par 20, .var 39 [.t (frs l)]), (.res 0, .slt 38 2 (l.map Fr.toT))] := by
  have hF := valF_spec l hl
  refine spec_introG (env0 := [(0, _), (1, _)]) (st0 := [(_, some _)]) Try.func47 rfl rfl rfl rfl ?_
  repeat' (first | (with_reducible refine codeT_seq ?_) | (with_reducible refine codeT_block ?_) | (with_reducible refine codeT_regionL ?_) | (with_reducible refine lx_nil ?_) | (with_reducible refine q_then ?_) | ((with_reducible refine g_move ?_); first | refine lx_move (r := (.fn _ _)) rfl rfl rfl rfl rfl ?_) | ((with_reducible refine g_assign ?_); first | refine lx_assign (r := (.t _)) rfl rfl rfl rfl rfl ?_) | ((with_reducible refine g_box ?_); first | refine lx_box (r := (.t _)) (cs := [.t _]) rfl rfl rfl rfl rfl rfl rfl rfl rfl ?_))
  refine codeT_ghost (ghost_cellNilL (r := .loc 2) 0 (.loc 900) 38 2 rfl rfl rfl rfl rfl) ?_
  refine codeT_ghost (ghost_keep2 [2, 4, 6] [.par 20, .loc 2, .loc 900] rfl rfl) ?_
  refine codeT_rangeFuncL (.par 50) (.loc 905) [(.par 50, .loc 905), (.par 10, .loc 2), (.par 11, .loc 900), (.par 20, .par 20), (.res 0, .loc 906)] rfl (fun fn B => hF ⟨13, fn, #[7], _, _, B⟩ 2 ?_) (fun _ _ => rfl) rfl rfl rfl (.cons (.refl _) .nil) ⟨.refl _, trivial⟩ rfl rfl ⟨rfl, rfl, rfl, trivial⟩ rfl rfl rfl rfl rfl rfl ?_
  · intro ds x hd
    refine roundT_intro rfl rfl rfl rfl rfl ?_
    rw [show (ds ++ [x]).map Fr.toT = ds.map Fr.toT ++ [Fr.toT x] from List.map_append ..]
    unfold Fr.toT
    repeat' (first | (with_reducible refine codeT_block ?_) | (with_reducible refine codeT_regionL ?_) | (with_reducible refine lx_nil ?_) | (with_reducible refine q_then ?_) | (with_reducible refine q_block ?_) | ((with_reducible refine g_load ?_); first | refine lx_load_var rfl rfl rfl rfl rfl rfl rfl rfl ?_ | refine lx_load_varA (r := (.t (.agg _))) rfl rfl rfl rfl rfl rfl rfl rfl rfl ?_) | ((with_reducible refine g_alloc ?_); first | refine lx_alloc rfl rfl rfl rfl rfl rfl rfl ?_) | ((with_reducible refine g_store ?_); first | refine lx_store_var (r := (.t (.agg _))) rfl rfl rfl rfl rfl rfl rfl rfl rfl rfl ?_ | refine lx_store_var (r := (.row _)) rfl rfl rfl rfl rfl rfl rfl rfl rfl rfl ?_) | ((with_reducible refine g_buildSlice ?_); first | refine lx_buildSlice rfl rfl rfl rfl rfl rfl rfl ?_) | ((with_reducible refine g_append ?_); first | refine lx_append_row rfl rfl rfl rfl rfl rfl rfl rfl rfl rfl ?_ ?_ ?_))
    all_goals try (simp only [List.length_map, List.length_singleton]; omega)
    refine q_ghost ((ghost_keep2 [] [.par 10, .loc 11] rfl rfl).trans (ghost_renL2 (.loc 11) (.res 0) rfl rfl rfl rfl)) ?_
    exact q_round ⟨rfl, rfl, trivial⟩
  · repeat' (first | (with_reducible refine codeT_seq ?_) | (with_reducible refine codeT_ret ?_) | (with_reducible refine codeT_regionL ?_) | (with_reducible refine lx_nil ?_) | (with_reducible refine q_then ?_) | (with_reducible refine q_block ?_) | ((with_reducible refine g_load ?_); first | refine lx_load_var rfl rfl rfl rfl rfl rfl rfl rfl ?_) | ((with_reducible refine g_assign ?_); first | refine lx_assign (r := (.row _)) rfl rfl rfl rfl rfl ?_))
    refine q_ghost ((ghost_keep2 [4] [.par 20, .loc 906] rfl rfl).trans (ghost_renL2 (.loc 906) (.res 0) rfl rfl rfl rfl)) ?_
    exact q_done (q_ret (resT_one rfl (AVLE.of_eq rfl)) (stHas_spec ⟨rfl, rfl, trivial⟩))
set_option maxHeartbeats 2000000 in
theorem Collect_spec (l : List Fr) (hl : l.length ≤ 1000) : Spec Try.prog 44 [.fn 46 [.ref (.par 20) 0 0 0]] [(.par 20, .var 39 [.t (frs l)])] (.row (.res 0)) [(.par 20, .var 39 [.t (frs l)]), (.res 0, .slt 38 2 (l.map Fr.toT))] := by
  have hA := AppendSeq_spec l hl
  unfold frs at *
  refine spec_introG (env0 := [(0, _)]) (st0 := [(_, some _)]) Try.func44 rfl rfl rfl rfl ?_
  repeat' (first | (with_reducible refine codeT_seq ?_) | (with_reducible refine codeT_ret ?_) | (with_reducible refine codeT_regionL ?_) | (with_reducible refine lx_nil ?_) | (with_reducible refine q_then ?_) | ((with_reducible refine g_move ?_); first | refine lx_move (r := (.fn _ _)) rfl rfl rfl rfl rfl ?_) | ((with_reducible refine g_assign ?_); first | refine lx_assign (r := (.t _)) rfl rfl rfl rfl rfl ?_ | refine lx_assign (r := (.row _)) rfl rfl rfl rfl rfl ?_) | ((with_reducible refine g_call ?_); first | refine lx_call (r' := .row (.loc 906)) [(.res 0, .loc 906)] rfl rfl hA (ArgsLE.refl _) rfl ⟨rfl, trivial⟩ rfl rfl rfl rfl rfl rfl rfl rfl rfl rfl ?_))
  refine q_ghost ((ghost_keep2 [2] [.par 20, .loc 906] rfl rfl).trans (ghost_renL2 (.loc 906) (.res 0) rfl rfl rfl rfl)) ?_
  exact q_done (q_ret (resT_one rfl (AVLE.of_eq rfl)) (stHas_spec ⟨rfl, rfl, trivial⟩))
set_option maxHeartbeats 2000000 in
theorem pdq_spec (l : List Fr) (hw : ∀ f ∈ l, f.wt = true) (h12 : l.length ≤ 12) (v : Int) : Spec Try.prog 48 [.row (.par 0), .t (.int .i64 0), .t (.int .i64 (l.length : Int)), .t (.int .i64 v), .t (.fn 38)] [(.par 0, .slt 38 2 (l.map Fr.toT))] (.tup []) [(.par 0, .slt 38 2 ((sortF l).map Fr.toT))] := by
  have hI := insert_spec l hw h12
  have w0 : IntKind.i64.wrap ((l.length : Int) - 0) = (l.length : Int) := by rw [wrap64 (by omega) (by omega)]; omega
  refine spec_intro (env0 := [(0, _), (1, _), (2, _), (3, _), (4, _)]) (st0 := [(_, some _)]) Try.func48 rfl rfl rfl rfl ?_
  repeat' (first | (with_reducible refine codeT_seq ?_) | (with_reducible refine codeT_block ?_) | (with_reducible refine codeT_regionL ?_) | (with_reducible refine lx_nil ?_) | (with_reducible refine q_then ?_) | ((with_reducible refine g_assign ?_); first | refine lx_assign (r := (.t _)) rfl rfl rfl rfl rfl ?_))
  refine codeT_loop (fun q env st => env = EnvL.get [(11, .t (.bool true)), (10, .t (.bool true)), (0, .row (.par 0)), (1, .t (.int .i64 0)), (2, .t (.int .i64 (l.length : Int))), (3, .t (.int .i64 v)), (4, .t (.fn 38))] ∧ st = StO.get [(.par 0, some (.slt 38 2 (l.map Fr.toT)))]) ?_ (n := 0) ⟨rfl, rfl⟩
  · rintro q env st ⟨rfl, rfl⟩
    repeat' (first | (with_reducible refine codeT_seq ?_) | (with_reducible refine codeT_block ?_) | (with_reducible refine codeT_skip ?_) | (with_reducible refine codeT_ret ?_) | (with_reducible refine codeT_regionL ?_) | (with_reducible refine lx_nil ?_) | (with_reducible refine q_then ?_) | (with_reducible refine q_then_ret ?_) | (with_reducible refine q_block_ret ?_) | (with_reducible refine q_loop_ret ?_) | (exfalso; omega) | ((with_reducible refine g_move ?_); first | refine lx_move (r := (.t _)) rfl rfl rfl rfl rfl ?_ | refine lx_move (r := (.row _)) rfl rfl rfl rfl rfl ?_) | ((with_reducible refine g_binOp ?_); first | refine lx_arith rfl rfl rfl rfl rfl rfl rfl ?_) | ((with_reducible refine g_assign ?_); first | refine lx_assign (r := (.t _)) rfl rfl rfl rfl rfl ?_) | ((with_reducible refine g_call ?_); first | refine lx_call (r' := .tup []) [] rfl rfl hI (ArgsLE.refl _) rfl ⟨rfl, trivial⟩ rfl rfl rfl rfl rfl rfl rfl rfl rfl rfl ?_) | refine c_condP rfl (fun hc => ?_) (fun hc => ?_))
    exact q_ret (resT_none rfl) (stHas_spec ⟨rfl, trivial⟩)
set_option maxHeartbeats 2000000 in
theorem len64_spec (n : Int) (h0 : 0 ≤ n) (h : n ≤ 12) : ∃ v, Spec Try.prog 59 [.t (.int .u64 n)] [] (.t (.int .i64 v)) [] := by
  have w8 : IntKind.u8.wrap n = n := by
    have : IntKind.u8.wrap n = n % 256 := rfl
    omega
  apply Exists.intro
  refine spec_intro (env0 := [(0, _)]) (st0 := []) Try.func59 rfl rfl rfl rfl ?_
  repeat' (first | (with_reducible refine codeT_seq ?_) | (with_reducible refine codeT_skip ?_) | (with_reducible refine codeT_ret ?_) | (with_reducible refine codeT_regionL ?_) | (with_reducible refine lx_nil ?_) | (with_reducible refine q_then ?_) | (exfalso; omega) | ((with_reducible refine g_move ?_); first | refine lx_move (r := (.t _)) rfl rfl rfl rfl rfl ?_) | ((with_reducible refine g_binOp ?_); first | refine lx_arith rfl rfl rfl rfl rfl rfl rfl ?_) | ((with_reducible refine g_assign ?_); first | refine lx_assign (r := (.t _)) rfl rfl rfl rfl rfl ?_) | ((with_reducible refine g_index ?_); first | refine lx_index_str rfl rfl rfl rfl rfl rfl ?_ ?_ ?_) | ((with_reducible refine g_convert ?_); first | refine lx_conv_int rfl rfl rfl rfl rfl ?_) | refine c_condP rfl (fun hc => ?_) (fun hc => ?_))
  · omega
  · exact Int.lt_of_lt_of_le (b := 13) (by omega) (by decide +kernel)
  · exact q_ret (resT_oneE rfl rfl rfl) (by simp)
set_option maxHeartbeats 2000000 in
theorem len_spec (n : Int) (h0 : 0 ≤ n) (h : n ≤ 12) : ∃ v, Spec Try.prog 49 [.t (.int .u64 n)] [] (.t (.int .i64 v)) [] := by
  obtain ⟨v, hv⟩ := len64_spec n h0 h
  refine ⟨v, ?_⟩
  refine spec_intro (env0 := [(0, _)]) (st0 := []) Try.func49 rfl rfl rfl rfl ?_
  repeat' (first | (with_reducible refine codeT_seq ?_) | (with_reducible refine codeT_skip ?_) | (with_reducible refine codeT_ret ?_) | (with_reducible refine codeT_regionL ?_) | (with_reducible refine lx_nil ?_) | (with_reducible refine q_then ?_) | refine c_condF rfl ?_ | ((with_reducible refine g_move ?_); first | refine lx_move (r := (.t _)) rfl rfl rfl rfl rfl ?_) | ((with_reducible refine g_assign ?_); first | refine lx_assign (r := (.t _)) rfl rfl rfl rfl rfl ?_) | ((with_reducible refine g_call ?_); first | refine lx_callT rfl rfl hv rfl rfl (ArgsLE.refl _) rfl rfl rfl rfl rfl ?_))
  exact q_ret (resT_oneE rfl rfl rfl) (by simp)
set_option maxHeartbeats 2000000 in
theorem SortFunc_spec (l : List Fr) (hw : ∀ f ∈ l, f.wt = true) (h12 : l.length ≤ 12) : Spec Try.prog 45 [.row (.par 0), .t (.fn 38)] [(.par 0, .slt 38 2 (l.map Fr.toT))] (.tup []) [(.par 0, .slt 38 2 ((sortF l).map Fr.toT))] := by
  have wl : IntKind.u64.wrap (l.length : Int) = (l.length : Int) := by
    have : IntKind.u64.wrap (l.length : Int) = (l.length : Int) % 18446744073709551616 := rfl
    omega
  obtain ⟨v, hv⟩ := len_spec (IntKind.u64.wrap (l.length : Int)) (by omega) (by omega)
  have hI := pdq_spec l hw h12 v
  refine spec_intro (env0 := [(0, _), (1, _)]) (st0 := [(_, some _)]) Try.func45 rfl rfl rfl rfl ?_
  repeat' (first | (with_reducible refine codeT_seq ?_) | (with_reducible refine codeT_regionL ?_) | (with_reducible refine lx_nil ?_) | (with_reducible refine q_then ?_) | ((with_reducible refine g_move ?_); first | refine lx_move (r := (.t _)) rfl rfl rfl rfl rfl ?_ | refine lx_move (r := (.row _)) rfl rfl rfl rfl rfl ?_) | ((with_reducible refine g_assign ?_); first | refine lx_assign (r := (.t _)) rfl rfl rfl rfl rfl ?_) | ((with_reducible refine g_convert ?_); first | refine lx_conv_int rfl rfl rfl rfl rfl ?_) | ((with_reducible refine g_len ?_); first | refine lx_len_rowmap rfl rfl rfl rfl rfl rfl ?_) | ((with_reducible refine g_call ?_); first | refine lx_callT rfl rfl hv rfl rfl (ArgsLE.refl _) rfl rfl rfl rfl rfl ?_ | refine lx_call (r' := .tup []) [] rfl rfl hI (ArgsLE.refl _) rfl ⟨rfl, trivial⟩ rfl rfl rfl rfl rfl rfl rfl rfl rfl rfl ?_))
  exact q_end (resT_none rfl) (stHas_spec ⟨rfl, trivial⟩)
set_option maxHeartbeats 2000000 in
theorem SortedFunc_spec (l : List Fr) (hw : ∀ f ∈ l, f.wt = true) (h12 : l.length ≤ 12) : Spec Try.prog 36 [.fn 46 [.ref (.par 20) 0 0 0], .t (.fn 38)] [(.par 20, .var 39 [.t (frs l)])] (.row (.res 0)) [(.par 20, .var 39 [.t (frs l)]), (.res 0, .slt 38 2 ((sortF l).map Fr.toT))] := by
  have hC := Collect_spec l (by omega)
  have hS := SortFunc_spec l hw h12
  unfold frs at *
  refine spec_introG (env0 := [(0, _), (1, _)]) (st0 := [(_, some _)]) Try.func36 rfl rfl rfl rfl ?_
  repeat' (first | (with_reducible refine codeT_seq ?_) | (with_reducible refine codeT_ret ?_) | (with_reducible refine codeT_regionL ?_) | (with_reducible refine lx_nil ?_) | (with_reducible refine q_then ?_) | ((with_reducible refine g_move ?_); first | refine lx_move (r := (.t _)) rfl rfl rfl rfl rfl ?_ | refine lx_move (r := (.row _)) rfl rfl rfl rfl rfl ?_ | refine lx_move (r := (.fn _ _)) rfl rfl rfl rfl rfl ?_) | ((with_reducible refine g_assign ?_); first | refine lx_assign (r := (.t _)) rfl rfl rfl rfl rfl ?_ | refine lx_assign (r := (.row _)) rfl rfl rfl rfl rfl ?_) | ((with_reducible refine g_call ?_); first | refine lx_call (r' := .row (.loc 906)) [(.res 0, .loc 906)] rfl rfl hC (ArgsLE.refl _) rfl ⟨rfl, trivial⟩ rfl rfl rfl rfl rfl rfl rfl rfl rfl rfl ?_ | refine lx_call (r' := .tup []) [(.par 0, .loc 906)] rfl rfl hS (ArgsLE.refl _) rfl ⟨rfl, trivial⟩ rfl rfl rfl rfl rfl rfl rfl rfl rfl rfl ?_))
  refine q_ghost ((ghost_keep2 [4] [.par 20, .loc 906] rfl rfl).trans (ghost_renL2 (.loc 906) (.res 0) rfl rfl rfl rfl)) ?_
  exact q_done (q_ret (resT_one rfl (AVLE.of_eq rfl)) (stHas_spec ⟨rfl, rfl, trivial⟩))
set_option maxHeartbeats 4000000 in
theorem least_spec (l : List Fr) (hw : ∀ f ∈ l, f.wt = true) (h8 : l.length ≤ 8) (k : Nat) (hk : k ≤ l.length) (h1 : wholeF ((sortF l).take k) = true) (h0 : ∀ m, m < k → wholeF ((sortF l).take m) = false) : Spec Try.prog 26 [.t (frs l)] [] (.t (.int .i64 (k : Int))) [] := by
  have hV := Values_spec l
  have hS := SortedFunc_spec l hw (by omega)
  have hp := sort_perm l
  have hy : ∀ f ∈ sortF l, f.wt = true := fun f hf => hw f (hp.mem_iff.1 hf)
  have hyl : (sortF l).length = l.length := hp.length_eq
  generalize sortF l = y at *
  unfold frs at *
  refine spec_introG (env0 := [(0, _)]) (st0 := []) Try.func26 rfl rfl rfl rfl ?_
  repeat' (first | (with_reducible refine codeT_seq ?_) | (with_reducible refine codeT_block ?_) | (with_reducible refine codeT_regionL ?_) | (with_reducible refine lx_nil ?_) | (with_reducible refine q_then ?_) | ((with_reducible refine g_move ?_); first | refine lx_move (r := (.t _)) rfl rfl rfl rfl rfl ?_) | ((with_reducible refine g_assign ?_); first | refine lx_assign (r := (.t _)) rfl rfl rfl rfl rfl ?_ | refine lx_assign (r := (.row _)) rfl rfl rfl rfl rfl ?_) | ((with_reducible refine g_call ?_); first | refine lx_call (r' := .fn 46 [.ref (.loc 904) 0 0 0]) [(.res 0, .loc 904)] rfl rfl hV (ArgsLE.refl _) rfl trivial rfl rfl rfl rfl rfl rfl rfl rfl rfl rfl ?_ | refine lx_call (r' := .row (.loc 906)) [(.par 20, .loc 904), (.res 0, .loc 906)] rfl rfl hS (ArgsLE.refl _) rfl ⟨rfl, trivial⟩ rfl rfl rfl rfl rfl rfl rfl rfl rfl rfl ?_))
  refine codeT_ghost (ghost_freezeL (id := .loc 906) rfl rfl rfl) ?_
  refine codeT_ghost (ghost_keep2 [0, 2, 3] [] rfl rfl) ?_
  refine codeT_loop (fun q env st => ∃ (j : Nat), j ≤ k ∧ q = k - j ∧ env = EnvL.get [(0, .t (.sl 2 (y.map Fr.toT))), (2, .t (.int .i64 0)), (3, .t (.int .i64 (j : Int)))] ∧ st = StO.get [])
    ?_ (n := k) ⟨0, by omega, rfl, rfl, rfl⟩
  rintro q env st ⟨j, hj, rfl, rfl, rfl⟩
  have wj : IntKind.i64.wrap ((j : Int) + 1) = ((j + 1 : Nat) : Int) := by rw [wrap64 (by omega) (by omega)]; omega
  have hW := whole_spec (y.take j) (fun f hf => hy f (List.mem_of_mem_take hf)) (by rw [List.length_take]; omega)
  unfold frs at hW
  have he : AV.t (T.sl 2 (List.drop (Int.toNat 0) (List.take (j : Int).toNat (y.map Fr.toT)))) = AV.t (T.sl 2 ((y.take j).map Fr.toT)) := by
    rw [List.map_take]; rfl
  by_cases hlt : j < k
  · have hz := h0 j hlt
    rw [hz] at hW
    repeat' (first | (with_reducible refine codeT_seq ?_) | (with_reducible refine codeT_block ?_) | (with_reducible refine codeT_skip ?_) | (with_reducible refine codeT_regionL ?_) | (with_reducible refine lx_nil ?_) | (with_reducible refine q_then ?_) | (with_reducible refine q_block ?_) | refine c_condT rfl ?_ | ((with_reducible refine g_move ?_); first | refine lx_move (r := (.t _)) rfl rfl rfl rfl rfl ?_) | ((with_reducible refine g_binOp ?_); first | refine lx_arith rfl rfl rfl rfl rfl rfl rfl ?_) | ((with_reducible refine g_assign ?_); first | refine lx_assign (r := (.t _)) rfl rfl rfl rfl rfl ?_) | ((with_reducible refine g_unOp ?_); first | refine lx_not rfl rfl rfl rfl rfl ?_) | ((with_reducible refine g_slice ?_); first | refine lx_slice_sl rfl rfl rfl ⟨_, rfl⟩ rfl rfl rfl ?_ ?_ ?_ ?_) | ((with_reducible refine g_call ?_); first | refine lx_callT rfl rfl hW rfl rfl (ArgsLE.cons (AVLE.of_eq he) (ArgsLE.refl _)) rfl rfl rfl rfl rfl ?_))
    all_goals try (simp only [List.length_map]; omega)
    all_goals try omega
    exact q_loop (n' := k - (j + 1)) (by omega) (ghost_keep2 [0, 2, 3] [] rfl rfl) ⟨j + 1, by omega, rfl, by rw [wj]; rfl, rfl⟩
  · obtain rfl : j = k := by omega
    rw [h1] at hW
    repeat' (first | (with_reducible refine codeT_seq ?_) | (with_reducible refine codeT_ret ?_) | (with_reducible refine codeT_exit ?_) | (with_reducible refine codeT_regionL ?_) | (with_reducible refine lx_nil ?_) | (with_reducible refine q_then ?_) | (with_reducible refine q_then_exit ?_) | ((with_reducible refine q_block_same ?_ ?_); · rfl) | (with_reducible refine q_loop_exit ?_) | refine c_condF rfl ?_ | ((with_reducible refine g_move ?_); first | refine lx_move (r := (.t _)) rfl rfl rfl rfl rfl ?_) | ((with_reducible refine g_assign ?_); first | refine lx_assign (r := (.t _)) rfl rfl rfl rfl rfl ?_) | ((with_reducible refine g_unOp ?_); first | refine lx_not rfl rfl rfl rfl rfl ?_) | ((with_reducible refine g_slice ?_); first | refine lx_slice_sl rfl rfl rfl ⟨_, rfl⟩ rfl rfl rfl ?_ ?_ ?_ ?_) | ((with_reducible refine g_call ?_); first | refine lx_callT rfl rfl hW rfl rfl (ArgsLE.cons (AVLE.of_eq he) (ArgsLE.refl _)) rfl rfl rfl rfl rfl ?_))
    all_goals try (simp only [List.length_map]; omega)
    all_goals try omega
    exact q_done (q_ret (resT_oneE rfl rfl rfl) (stHas_spec trivial))
end Go.AL
/- How many keys are enough; what keeps the laws awake; the kit's thresholds. -/
set_option linter.unusedVariables false
namespace Go.AL
open Go Go.Proofs Go.RowKit

theorem leastSum_take (g : List Fr → Nat) : ∀ (w : List (List Fr)) (j : Nat), j < w.length → leastSum g (w.take (j + 1)) = leastSum g (w.take j) + g (w.getD j default)
  | [], j, h => by simp at h
  | x :: r, 0, h => by simp [leastSum]
  | x :: r, j + 1, h => by
    have := leastSum_take g r j (by simpa using h)
    rw [List.take_succ_cons, List.take_succ_cons, leastSum, leastSum, this, List.getD_cons_succ]; omega
theorem leastSum_le (g : List Fr → Nat) (hg : ∀ l, g l ≤ l.length) : ∀ (w : List (List Fr)), leastSum g w ≤ lensT w
  | [] => by simp [leastSum, lensT]
  | x :: r => by
    have := leastSum_le g hg r
    have := hg x
    simp only [leastSum, lensT]; omega
theorem lensT_le (w : List (List Fr)) (h : ∀ l ∈ w, l.length ≤ 8) : lensT w ≤ 8 * w.length := by
  induction w with
  | nil => simp [lensT]
  | cons x r ih =>
    have := ih fun l hl => h l (List.mem_cons_of_mem _ hl)
    have := h x (by simp)
    simp only [lensT, List.length_cons]; omega
set_option maxHeartbeats 4000000 in
theorem Least_spec (t : Th) (k : Int) (ht : t.Sm) (g : List Fr → Nat) (hv : validP t k = true) (hn : 0 ≤ t.n ∧ t.n ≤ 8) (hw : ∀ l ∈ t.w, l.length ≤ 8 ∧ ∀ f ∈ l, f.wt = true) (hg : ∀ l, g l ≤ l.length) (hl : ∀ l ∈ t.w, IsLeast l (g l)) : Spec Try.prog 15 [.t t.toT, .t (.int .i64 k)] [] (.t (.int .i64 (t.n + (leastSum g t.w : Nat)))) [] := by
  have hV := Valid_spec t k ht
  rw [hv] at hV
  obtain ⟨tn, w⟩ := t
  unfold Th.toT at *
  obtain ⟨ht1, ht2⟩ := ht
  simp only at *
  refine spec_intro (env0 := [(0, _), (1, _)]) (st0 := []) Try.func15 rfl rfl rfl rfl ?_
  repeat' (first | (with_reducible refine codeT_seq ?_) | (with_reducible refine codeT_block ?_) | (with_reducible refine codeT_skip ?_) | (with_reducible refine codeT_regionL ?_) | (with_reducible refine lx_nil ?_) | (with_reducible refine q_then ?_) | refine c_condF rfl ?_ | ((with_reducible refine g_move ?_); first | refine lx_move (r := (.t _)) rfl rfl rfl rfl rfl ?_) | ((with_reducible refine g_load ?_); first | refine lx_load_var rfl rfl rfl rfl rfl rfl rfl rfl ?_ | refine lx_load_varA (r := (.t (.agg _))) rfl rfl rfl rfl rfl rfl rfl rfl rfl ?_) | ((with_reducible refine g_fieldAddr ?_); first | refine lx_fieldAddr rfl rfl rfl rfl rfl rfl rfl ?_) | ((with_reducible refine g_assign ?_); first | refine lx_assign (r := (.t _)) rfl rfl rfl rfl rfl ?_) | ((with_reducible refine g_box ?_); first | refine lx_box (r := (.t (.agg _))) (cs := (List.map .t _)) rfl rfl rfl rfl rfl rfl rfl rfl rfl ?_) | ((with_reducible refine g_unOp ?_); first | refine lx_not rfl rfl rfl rfl rfl ?_) | ((with_reducible refine g_len ?_); first | refine lx_len_map rfl rfl rfl rfl rfl ?_) | ((with_reducible refine g_call ?_); first | refine lx_callT rfl rfl hV rfl rfl (ArgsLE.refl _) rfl rfl rfl rfl rfl ?_))
  refine codeT_ghost (ghost_keep2 [4, 5, 15, 16, 17] [] rfl rfl) ?_
  refine codeT_loop (fun q env st => ∃ (j : Nat), j ≤ w.length ∧ q = w.length - j ∧ env = EnvL.get [(4, .t (.int .i64 0)), (5, .t (.int .i64 (tn + (leastSum g (w.take j) : Nat)))), (15, .t (.sl 1 (w.map frs))), (16, .t (.int .i64 (w.length : Int))), (17, .t (.int .i64 (j : Int)))] ∧ st = StO.get [])
    ?_ (n := w.length) ⟨0, by omega, rfl, by show _ = EnvL.get [(4, _), (5, .t (.int .i64 (tn + 0))), _, _, _]; rw [Int.add_zero]; rfl, rfl⟩
  rintro q env st ⟨j, hj, rfl, rfl, rfl⟩
  have wj : IntKind.i64.wrap ((j : Int) + 1) = ((j + 1 : Nat) : Int) := by rw [wrap64 (by omega) (by omega)]; omega
  by_cases hlt : j < w.length
  · have hm := getD_mem hlt
    have hx := hw _ hm
    have hy := hl _ hm
    have hL := least_spec _ hx.2 hx.1 _ hy.1 hy.2.1 hy.2.2
    have hT := leastSum_take g w j hlt
    have hle := leastSum_le g hg (w.take (j + 1))
    have hle2 := lensT_le (w.take (j + 1)) fun l hl => (hw l (List.mem_of_mem_take hl)).1
    have hle3 : (w.take (j + 1)).length ≤ 1000 := by rw [List.length_take]; omega
    have wn : IntKind.i64.wrap (tn + (leastSum g (w.take j) : Nat) + (g (w.getD (j : Int).toNat default) : Nat)) = tn + (leastSum g (w.take (j + 1)) : Nat) := by
      rw [show w.getD (j : Int).toNat default = w.getD j default from rfl, wrap64 (by omega) (by omega)]; omega
    unfold frs at hL
    repeat' (first | (with_reducible refine codeT_seq ?_) | (with_reducible refine codeT_block ?_) | (with_reducible refine codeT_skip ?_) | (with_reducible refine codeT_exit ?_) | (with_reducible refine codeT_regionL ?_) | (with_reducible refine lx_nil ?_) | (with_reducible refine q_then ?_) | (with_reducible refine q_then_exit ?_) | (with_reducible refine q_block ?_) | ((with_reducible refine q_block_same ?_ ?_); · rfl) | (with_reducible refine q_loop_exit ?_) | (exfalso; omega) | ((with_reducible refine g_move ?_); first | refine lx_move (r := (.t _)) rfl rfl rfl rfl rfl ?_) | ((with_reducible refine g_load ?_); first | refine lx_load_tp rfl rfl rfl rfl rfl rfl rfl ?_) | ((with_reducible refine g_binOp ?_); first | refine lx_arith rfl rfl rfl rfl rfl rfl rfl ?_) | ((with_reducible refine g_assign ?_); first | refine lx_assign (r := (.t _)) rfl rfl rfl rfl rfl ?_) | ((with_reducible refine g_indexAddr ?_); first | refine lx_indexAddr_map rfl rfl rfl rfl rfl rfl ?_ ?_ ?_) | ((with_reducible refine g_call ?_); first | refine lx_callT rfl rfl hL rfl rfl (ArgsLE.refl _) rfl rfl rfl rfl rfl ?_) | refine c_condP rfl (fun hc => ?_) (fun hc => ?_))
    all_goals try (simp only [List.length_map]; omega)
    all_goals try omega
    all_goals try rfl
    exact q_loop (n' := w.length - (j + 1)) (by omega) (ghost_keep2 [4, 5, 15, 16, 17] [] rfl rfl) ⟨j + 1, by omega, rfl, by rw [wj, wn]; rfl, rfl⟩
  · obtain rfl : j = w.length := by omega
    rw [List.take_length]
    repeat' (first | (with_reducible refine codeT_seq ?_) | (with_reducible refine codeT_block ?_) | (with_reducible refine codeT_skip ?_) | (with_reducible refine codeT_ret ?_) | (with_reducible refine codeT_exit ?_) | (with_reducible refine codeT_regionL ?_) | (with_reducible refine lx_nil ?_) | (with_reducible refine q_then ?_) | (with_reducible refine q_then_exit ?_) | ((with_reducible refine q_block_same ?_ ?_); · rfl) | (with_reducible refine q_loop_exit ?_) | (exfalso; omega) | ((with_reducible refine g_move ?_); first | refine lx_move (r := (.t _)) rfl rfl rfl rfl rfl ?_) | ((with_reducible refine g_binOp ?_); first | refine lx_arith rfl rfl rfl rfl rfl rfl rfl ?_) | ((with_reducible refine g_assign ?_); first | refine lx_assign (r := (.t _)) rfl rfl rfl rfl rfl ?_) | refine c_condP rfl (fun hc => ?_) (fun hc => ?_))
    exact q_ret (resT_oneE rfl rfl rfl) (by simp)
/-- Three halves. -/
def halvesF : Th := ⟨0, [[⟨1, 2⟩, ⟨1, 2⟩, ⟨1, 2⟩]]⟩
set_option maxHeartbeats 2000000 in
theorem halves_spec : Spec Try.prog 23 [] [] (.t halvesF.toT) [] := by
  show Spec Try.prog _ [] [] (.t (.agg [.int .i64 0, .sl 1 [.sl 2 [.agg [.int .i64 1, .int .i64 2], .agg [.int .i64 1, .int .i64 2], .agg [.int .i64 1, .int .i64 2]]]])) []
  refine spec_intro (env0 := []) (st0 := []) Try.func23 rfl rfl rfl rfl ?_
  repeat' (first | (with_reducible refine codeT_seq ?_) | (with_reducible refine codeT_ret ?_) | (with_reducible refine codeT_regionL ?_) | (with_reducible refine lx_nil ?_) | (with_reducible refine q_then ?_) | refine lx_buildSliceF rfl rfl rfl rfl rfl rfl ?_ | ((with_reducible refine g_load ?_); first | refine lx_load_varA (r := (.t (.agg _))) rfl rfl rfl rfl rfl rfl rfl rfl rfl ?_) | ((with_reducible refine g_alloc ?_); first | refine lx_alloc rfl rfl rfl rfl rfl rfl rfl ?_) | ((with_reducible refine g_store ?_); first | refine lx_store_var (r := (.t (.agg _))) rfl rfl rfl rfl rfl rfl rfl rfl rfl rfl ?_) | ((with_reducible refine g_build ?_); first | refine lx_build (r := (.t (.agg _))) rfl rfl rfl rfl rfl rfl rfl ?_))
  refine q_ret ?_ (stHas_spec trivial); refine resT_cell rfl rfl rfl inferInstance rfl inferInstance rfl ?_; exact TLe.av (by repeat first | exact TLe.refl _ | exact TLe.nil _ | exact TLe.esl _ | refine TLe.agg ?_ | refine TLs.cons ?_ ?_ | exact TLs.nil)
theorem halves_sm : halvesF.Sm := ⟨by decide, by decide⟩
theorem halves_fit : halvesF.Fit := ⟨by decide, by decide, by decide, .inl rfl⟩
theorem halves_least : IsLeast [⟨1, 2⟩, ⟨1, 2⟩, ⟨1, 2⟩] 2 := ⟨by decide, by decide, by decide⟩
set_option maxHeartbeats 4000000 in
theorem awake_spec : Spec Try.prog 9 [] [] (.t (.bool true)) [] := by
  have hH := halves_spec
  have hV := Valid_spec halvesF 3 halves_sm
  have hE1 := Enough_spec halvesF [0, 2] halves_fit (by decide)
  have hE2 := Enough_spec halvesF [1] halves_fit (by decide)
  have hL := Least_spec halvesF 3 halves_sm (fun l => if l.length = 3 then 2 else 0) (by decide) (by decide) (by decide) (fun l => by show (if _ then _ else _) ≤ _; split <;> omega) (fun l hl => by
    obtain rfl : l = _ := List.mem_singleton.1 hl
    exact halves_least)
  rw [show validP halvesF 3 = true by decide] at hV
  rw [show enoughP halvesF [0, 2] = true by decide] at hE1
  rw [show enoughP halvesF [1] = false by decide] at hE2
  rw [show (halvesF.n + (leastSum (fun l => if l.length = 3 then 2 else 0) halvesF.w : Nat) : Int) = 2 by decide] at hL
  simp only [List.map_cons, List.map_nil] at hE1 hE2
  generalize halvesF.toT = H at *
  refine spec_intro (env0 := []) (st0 := []) Try.func9 rfl rfl rfl rfl ?_
  repeat' (first | (with_reducible refine codeT_seq ?_) | (with_reducible refine codeT_ret ?_) | (with_reducible refine codeT_regionL ?_) | (with_reducible refine lx_nil ?_) | (with_reducible refine q_then ?_) | refine lx_buildSliceF rfl rfl rfl rfl rfl rfl ?_ | ((with_reducible refine g_move ?_); first | refine lx_move (r := (.t _)) rfl rfl rfl rfl rfl ?_) | ((with_reducible refine g_binOp ?_); first | refine lx_arith rfl rfl rfl rfl rfl rfl rfl ?_) | ((with_reducible refine g_assign ?_); first | refine lx_assign (r := (.t _)) rfl rfl rfl rfl rfl ?_) | ((with_reducible refine g_pick ?_); first | refine lx_pickT (r := (.t _)) rfl rfl rfl rfl rfl rfl ?_) | ((with_reducible refine g_unOp ?_); first | refine lx_not rfl rfl rfl rfl rfl ?_) | ((with_reducible refine g_call ?_); first | refine lx_callT rfl rfl hH rfl rfl (ArgsLE.refl _) rfl rfl rfl rfl rfl ?_ | refine lx_callT rfl rfl hV rfl rfl (ArgsLE.refl _) rfl rfl rfl rfl rfl ?_ | refine lx_callT rfl rfl hE1 rfl rfl (ArgsLE.refl _) rfl rfl rfl rfl rfl ?_ | refine lx_callT rfl rfl hE2 rfl rfl (ArgsLE.refl _) rfl rfl rfl rfl rfl ?_ | refine lx_callT rfl rfl hL rfl rfl (ArgsLE.refl _) rfl rfl rfl rfl rfl ?_))
  exact q_ret (resT_oneE rfl rfl rfl) (by simp)
end Go.AL
/- The kit's thresholds. -/
set_option linter.unusedVariables false
namespace Go.AL
open Go Go.Proofs Go.RowKit

end Go.AL
