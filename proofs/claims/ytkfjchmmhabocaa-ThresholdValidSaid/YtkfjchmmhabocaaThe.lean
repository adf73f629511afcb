/- The kit's thresholds, whose lists have no room behind them. -/
import Derived.Test.YtkfjchmmhabocaaThd
import Derived.Test.YtkfjchmmhabocaaAl4
import Derived.Test.YtkfjchmmhabocaaThp
set_option linter.unusedVariables false
namespace Go.AL
open Go Go.Proofs Go.RowKit

/-- A threshold as the kit makes it. -/
def Th.toQ (t : Th) : T := .agg [.int .i64 t.n, match t.w with | [] => .nilsl | l :: w => .slq 1 ((l :: w).map frs)]

set_option maxHeartbeats 8000000 in
theorem kitThQ_spec (d0 : Dc) (n : Nat) (hn : n ≤ 100) (hd0 : d0.l.length ≤ 1000) : Spec Try.prog 12 [.ref (.par 0) 0 0 0, .t (.int .i64 (n : Int))] [(.par 0, d0.row)] (.t (kitTh d0 n).1.toQ) [(.par 0, (kitTh d0 n).2.row)] := by
  obtain ⟨R, hR⟩ : ∃ R, R = kitTh d0 n := ⟨_, rfl⟩
  rw [← hR]
  unfold kitTh at hR
  by_cases h0 : n = 0
  · rw [if_pos h0] at hR
    subst hR
    simp only
    unfold Dc.row Th.toQ
    refine spec_intro (env0 := [(0, _), (1, _)]) (st0 := [(_, some _)]) Try.func12 rfl rfl rfl rfl ?_
    repeat' (first | (with_reducible refine codeT_seq ?_) | (with_reducible refine codeT_skip ?_) | (with_reducible refine codeT_ret ?_) | (with_reducible refine codeT_regionL ?_) | (with_reducible refine lx_nil ?_) | (with_reducible refine q_then ?_) | (with_reducible refine q_then_ret ?_) | (exfalso; omega) | ((with_reducible refine g_move ?_); first | refine lx_move (r := (.t _)) rfl rfl rfl rfl rfl ?_) | ((with_reducible refine g_binOp ?_); first | refine lx_arith rfl rfl rfl rfl rfl rfl rfl ?_) | ((with_reducible refine g_alloc ?_); first | refine lx_alloc rfl rfl rfl rfl rfl rfl rfl ?_) | ((with_reducible refine g_store ?_); first | refine lx_store_var (r := (.t (.agg _))) rfl rfl rfl rfl rfl rfl rfl rfl rfl rfl ?_) | ((with_reducible refine g_build ?_); first | refine lx_build (r := (.t (.agg _))) rfl rfl rfl rfl rfl rfl rfl ?_) | refine c_condP rfl (fun hc => ?_) (fun hc => ?_))
    refine q_ret ?_ (stHas_spec ⟨rfl, trivial⟩); refine resT_cell rfl rfl rfl inferInstance rfl inferInstance rfl ?_; exact TLe.av (by repeat first | exact TLe.refl _ | exact TLe.slq _ _ | exact TLe.nil _ | exact TLe.esl _ | refine TLe.agg ?_ | refine TLs.cons ?_ ?_ | exact TLs.nil)
  rw [if_neg h0] at hR
  have hN := Next_spec d0 3 (by omega) hd0
  have hlt := d0.next_lt 3 (by omega)
  have hl1 : (d0.next 3).2.l.length ≤ 1000 := by rw [Dc.next_l]; exact hd0
  generalize d0.next 3 = q at hR hN hlt hl1
  obtain ⟨v, d1⟩ := q
  simp only at hR hN hlt hl1
  have hN2 := Next_spec d1 (n : Int) (by omega) hl1
  by_cases hv : 0 < v
  · rw [if_pos hv] at hR
    have hlt2 := d1.next_lt (n : Int) (by omega)
    generalize d1.next (n : Int) = q2 at hR hN2 hlt2
    obtain ⟨v2, d2⟩ := q2
    simp only at hR hN2 hlt2
    have w2 : IntKind.i64.wrap (1 + v2) = 1 + v2 := wrap64 (by omega) (by omega)
    subst hR
    simp only
    rw [← w2]
    unfold Dc.row at hN hN2 ⊢
    unfold Th.toQ
    refine spec_intro (env0 := [(0, _), (1, _)]) (st0 := [(_, some _)]) Try.func12 rfl rfl rfl rfl ?_
    repeat' (first | (with_reducible refine codeT_seq ?_) | (with_reducible refine codeT_skip ?_) | (with_reducible refine codeT_ret ?_) | (with_reducible refine codeT_regionL ?_) | (with_reducible refine lx_nil ?_) | (with_reducible refine q_then ?_) | (with_reducible refine q_then_ret ?_) | (exfalso; omega) | ((with_reducible refine g_move ?_); first | refine lx_move (r := (.t _)) rfl rfl rfl rfl rfl ?_ | refine lx_move (r := (.ref _ _ _ _)) rfl rfl rfl rfl rfl ?_) | ((with_reducible refine g_binOp ?_); first | refine lx_arith rfl rfl rfl rfl rfl rfl rfl ?_) | ((with_reducible refine g_alloc ?_); first | refine lx_alloc rfl rfl rfl rfl rfl rfl rfl ?_) | ((with_reducible refine g_store ?_); first | refine lx_store_var (r := (.t (.agg _))) rfl rfl rfl rfl rfl rfl rfl rfl rfl rfl ?_) | ((with_reducible refine g_build ?_); first | refine lx_build (r := (.t (.agg _))) rfl rfl rfl rfl rfl rfl rfl ?_) | ((with_reducible refine g_call ?_); first | refine lx_call (r' := .t (.int .i64 v)) [] rfl rfl hN (ArgsLE.refl _) rfl ⟨rfl, trivial⟩ rfl rfl rfl rfl rfl rfl rfl rfl rfl rfl ?_ | refine lx_call (r' := .t (.int .i64 v2)) [] rfl rfl hN2 (ArgsLE.refl _) rfl ⟨rfl, trivial⟩ rfl rfl rfl rfl rfl rfl rfl rfl rfl rfl ?_) | refine c_condP rfl (fun hc => ?_) (fun hc => ?_))
    refine q_ret ?_ (stHas_spec ⟨rfl, trivial⟩); refine resT_cell rfl rfl rfl inferInstance rfl inferInstance rfl ?_; exact TLe.av (by repeat first | exact TLe.refl _ | exact TLe.slq _ _ | exact TLe.nil _ | exact TLe.esl _ | refine TLe.agg ?_ | refine TLs.cons ?_ ?_ | exact TLs.nil)
  rw [if_neg hv] at hR
  clear hN2
  have hG := genF_facts n d1 [] (by simp)
  obtain ⟨Q, hQ⟩ : ∃ Q, genF n d1 [] = Q := ⟨_, rfl⟩
  rw [hQ] at hG hR
  obtain ⟨L, D⟩ := Q
  simp only at hG hR
  obtain ⟨hL, hLw, hD⟩ := hG
  unfold Dc.row at hN ⊢
  refine spec_intro (env0 := [(0, _), (1, _)]) (st0 := [(_, some _)]) Try.func12 rfl rfl rfl rfl ?_
  repeat' (first | (with_reducible refine codeT_seq ?_) | (with_reducible refine codeT_block ?_) | (with_reducible refine codeT_skip ?_) | (with_reducible refine codeT_regionL ?_) | (with_reducible refine lx_nil ?_) | (with_reducible refine q_then ?_) | (exfalso; omega) | ((with_reducible refine g_move ?_); first | refine lx_move (r := (.t _)) rfl rfl rfl rfl rfl ?_ | refine lx_move (r := (.ref _ _ _ _)) rfl rfl rfl rfl rfl ?_) | ((with_reducible refine g_binOp ?_); first | refine lx_arith rfl rfl rfl rfl rfl rfl rfl ?_) | ((with_reducible refine g_assign ?_); first | refine lx_assign (r := (.t _)) rfl rfl rfl rfl rfl ?_) | ((with_reducible refine g_alloc ?_); first | refine lx_alloc rfl rfl rfl rfl rfl rfl rfl ?_) | ((with_reducible refine g_call ?_); first | refine lx_call (r' := .t (.int .i64 v)) [] rfl rfl hN (ArgsLE.refl _) rfl ⟨rfl, trivial⟩ rfl rfl rfl rfl rfl rfl rfl rfl rfl rfl ?_) | refine c_condP rfl (fun hc => ?_) (fun hc => ?_))
  refine codeT_ghost (ghost_nilL 5 (.loc 900) 38 2 rfl rfl rfl) ?_
  refine codeT_ghost (ghost_keep2 [0, 1, 4, 5, 18, 19] [.par 0, .loc 4, .loc 900] rfl rfl) ?_
  refine codeT_loop (fun p env st => ∃ (j : Nat) (d : Dc) (l : List Fr), j ≤ n ∧ p = n - j ∧ l.length = j ∧ d.l.length ≤ 1000 ∧ genF (n - j) d l = (L, D) ∧
      env = EnvL.get [(0, .ref (.par 0) 0 0 0), (1, .t (.int .i64 (n : Int))), (4, .ref (.loc 4) 0 0 0), (5, .row (.loc 900)), (18, .t (.int .i64 (n : Int))), (19, .t (.int .i64 (j : Int)))] ∧
      st = StO.get [(.par 0, some (.var 50 [.t (.sl 1 (d.l.map (T.int .i64))), .t (.int .i64 d.k)])), (.loc 4, some (.var 30 [.t (.int .i64 0), .t .nilsl])), (.loc 900, some (.slt 38 2 (l.map Fr.toT)))])
    ?_ (n := n) ⟨0, d1, [], by omega, rfl, rfl, hl1, hQ, rfl, rfl⟩
  rintro p env st ⟨j, d, l, hj, rfl, hlj, hdl, hr, rfl, rfl⟩
  have wj : IntKind.i64.wrap ((j : Int) + 1) = ((j + 1 : Nat) : Int) := by rw [wrap64 (by omega) (by omega)]; omega
  by_cases hlt : j < n
  · rw [show n - j = (n - (j + 1)) + 1 by omega, genF] at hr
    have hN6 := Next_spec d 6 (by omega) hdl
    have hl6 := d.next_lt 6 (by omega)
    have hd6 : (d.next 6).2.l.length ≤ 1000 := by rw [Dc.next_l]; exact hdl
    generalize d.next 6 = q at hr hN6 hl6 hd6
    obtain ⟨x, d2⟩ := q
    simp only at hr hN6 hl6 hd6
    have hs6 : sixF.length = 6 := rfl
    unfold Dc.row at hN6
    repeat' (first | (with_reducible refine codeT_seq ?_) | (with_reducible refine codeT_block ?_) | (with_reducible refine codeT_skip ?_) | (with_reducible refine codeT_exit ?_) | (with_reducible refine codeT_regionL ?_) | (with_reducible refine lx_nil ?_) | (with_reducible refine q_then ?_) | (with_reducible refine q_then_exit ?_) | (with_reducible refine q_block ?_) | ((with_reducible refine q_block_same ?_ ?_); · rfl) | (with_reducible refine q_loop_exit ?_) | (exfalso; omega) | refine lx_buildSliceF (es := sixF.map Fr.toT) rfl rfl rfl rfl rfl rfl ?_ | ((with_reducible refine g_move ?_); first | refine lx_move (r := (.t _)) rfl rfl rfl rfl rfl ?_ | refine lx_move (r := (.ref _ _ _ _)) rfl rfl rfl rfl rfl ?_ | refine lx_move (r := (.row _)) rfl rfl rfl rfl rfl ?_) | ((with_reducible refine g_load ?_); first | refine lx_load_tpA rfl rfl rfl rfl rfl rfl rfl rfl ?_) | ((with_reducible refine g_binOp ?_); first | refine lx_arith rfl rfl rfl rfl rfl rfl rfl ?_) | ((with_reducible refine g_assign ?_); first | refine lx_assign (r := (.row _)) rfl rfl rfl rfl rfl ?_) | ((with_reducible refine g_indexAddr ?_); first | refine lx_indexAddr_map rfl rfl rfl rfl rfl rfl ?_ ?_ ?_) | ((with_reducible refine g_buildSlice ?_); first | refine lx_buildSlice rfl rfl rfl rfl rfl rfl rfl ?_) | ((with_reducible refine g_build ?_); first | refine lx_build (r := (.t (.agg _))) rfl rfl rfl rfl rfl rfl rfl ?_) | ((with_reducible refine g_append ?_); first | refine lx_append_row rfl rfl rfl rfl rfl rfl rfl rfl rfl rfl ?_ ?_ ?_) | ((with_reducible refine g_call ?_); first | refine lx_call (r' := .t (.int .i64 x)) [] rfl rfl hN6 (ArgsLE.refl _) rfl ⟨rfl, trivial⟩ rfl rfl rfl rfl rfl rfl rfl rfl rfl rfl ?_) | refine c_condP rfl (fun hc => ?_) (fun hc => ?_))
    all_goals try (simp only [List.length_map, List.length_singleton]; omega)
    all_goals try omega
    refine q_loop (n' := n - (j + 1)) (by omega) ((ghost_keep2 [0, 1, 4, 5, 18, 19] [.par 0, .loc 4, .loc 34] rfl rfl).trans (ghost_renL2 (.loc 34) (.loc 900) rfl rfl rfl rfl)) ⟨j + 1, d2, l ++ [sixF.getD x.toNat default], by omega, rfl, by simp; omega, hd6, hr, by rw [wj]; rfl, by rw [List.map_append]; rfl⟩
  · obtain rfl : j = n := by omega
    rw [Nat.sub_self, genF] at hr
    simp only [Prod.mk.injEq] at hr
    obtain ⟨rfl, rfl⟩ := hr
    unfold kitW at hR
    simp only at hR
    have hA := Next_spec d (j : Int) (by omega) hdl
    have hAl := d.next_lt (j : Int) (by omega)
    have hAd : (d.next (j : Int)).2.l.length ≤ 1000 := by rw [Dc.next_l]; exact hdl
    generalize d.next (j : Int) = qa at hR hA hAl hAd
    obtain ⟨a, da⟩ := qa
    simp only at hR hA hAl hAd
    unfold Dc.row at hA
    have s1 : (l.map Fr.toT).set a.toNat (T.agg [.int .i64 1, .int .i64 1]) = (l.set a.toNat oneW).map Fr.toT := by rw [List.map_set]; rfl
    by_cases h1 : 1 < j
    · rw [if_pos h1] at hR
      have hB := Next_spec da 3 (by omega) hAd
      have hBl := da.next_lt 3 (by omega)
      have hBd : (da.next 3).2.l.length ≤ 1000 := by rw [Dc.next_l]; exact hAd
      generalize da.next 3 = qb at hR hB hBl hBd
      obtain ⟨b, db⟩ := qb
      simp only at hR hB hBl hBd
      unfold Dc.row at hB
      by_cases hb0 : b = 0
      · rw [if_pos hb0] at hR
        have hC := Next_spec db ((j : Int) - 1) (by omega) hBd
        have hCl := db.next_lt ((j : Int) - 1) (by omega)
        have wj1 : IntKind.i64.wrap ((j : Int) - 1) = (j : Int) - 1 := wrap64 (by omega) (by omega)
        generalize db.next ((j : Int) - 1) = qc at hR hC hCl
        obtain ⟨c, dc⟩ := qc
        simp only at hR hC hCl
        have wc : IntKind.i64.wrap (1 + c) = 1 + c := wrap64 (by omega) (by omega)
        unfold Dc.row at hC
        rw [← wj1] at hC
        subst hR
        simp only
        obtain ⟨X, hX⟩ : ∃ X, X = (((l.map Fr.toT).set a.toNat (T.agg [.int .i64 1, .int .i64 1])).set (Int.toNat 0) (T.agg [.int .i64 1, .int .i64 1])).set (IntKind.i64.wrap ((j : Int) - 1)).toNat (T.agg [.int .i64 1, .int .i64 1]) := ⟨_, rfl⟩
        have hX2 : X = (((l.set a.toNat oneW).set 0 oneW).set (j - 1) oneW).map Fr.toT := by
          rw [hX, wj1, show ((j : Int) - 1).toNat = j - 1 by omega, List.map_set, List.map_set, List.map_set]; rfl
        have hT : (Th.mk 0 [(((l.set a.toNat oneW).set 0 oneW).set (j - 1) oneW).take (1 + c).toNat, (((l.set a.toNat oneW).set 0 oneW).set (j - 1) oneW).drop (1 + c).toNat]).toQ = .agg [.int .i64 0, .slq 1 [.sl 2 (X.take (IntKind.i64.wrap (1 + c)).toNat), .sl 2 ((X.take (X.length : Int).toNat).drop (IntKind.i64.wrap (1 + c)).toNat)]] := by
          rw [wc, Int.toNat_natCast, List.take_length, hX2, ← List.map_take, ← List.map_drop]; rfl
        rw [hX] at hT
        rw [hT]
        repeat' (first | refine codeT_ghost (x := Code.seq (Code.region 14 _ _) _) (ghost_freezeL (id := .loc 900) rfl rfl rfl) ?_ | refine codeT_ghost (x := Code.seq (Code.region 15 _ _) _) (ghost_freezeL (id := .loc 900) rfl rfl rfl) ?_ | (with_reducible refine codeT_seq ?_) | (with_reducible refine codeT_block ?_) | (with_reducible refine codeT_skip ?_) | (with_reducible refine codeT_ret ?_) | (with_reducible refine codeT_exit ?_) | (with_reducible refine codeT_regionL ?_) | ((with_reducible refine codeT_region_drawL ?_ ?_); · rfl) | (with_reducible refine lx_nil ?_) | (with_reducible refine q_then ?_) | (with_reducible refine q_then_exit ?_) | (with_reducible refine q_then_ret ?_) | ((with_reducible refine q_block_same ?_ ?_); · rfl) | (with_reducible refine q_loop_exit ?_) | ((with_reducible refine q_region_draw ?_ ?_); · rfl) | (exfalso; omega) | refine lx_slice_sl3 rfl rfl rfl rfl rfl rfl rfl ?_ ?_ ?_ ?_ | refine lx_buildSliceQ rfl rfl rfl rfl rfl rfl ?_ | ((with_reducible refine g_move ?_); first | refine lx_move (r := (.t _)) rfl rfl rfl rfl rfl ?_ | refine lx_move (r := (.ref _ _ _ _)) rfl rfl rfl rfl rfl ?_ | refine lx_move (r := (.row _)) rfl rfl rfl rfl rfl ?_) | ((with_reducible refine g_binOp ?_); first | refine lx_arith rfl rfl rfl rfl rfl rfl rfl ?_) | ((with_reducible refine g_assign ?_); first | refine lx_assign (r := (.t _)) rfl rfl rfl rfl rfl ?_) | ((with_reducible refine g_pick ?_); first | refine lx_pickT (r := (.t _)) rfl rfl rfl rfl rfl rfl ?_) | ((with_reducible refine g_store ?_); first | refine lx_store_var (r := (.t (.agg _))) rfl rfl rfl rfl rfl rfl rfl rfl rfl rfl ?_ | refine lx_store_slt rfl rfl rfl rfl rfl rfl ?_ ?_ ?_) | ((with_reducible refine g_indexAddr ?_); first | refine lx_indexAddr_row rfl rfl rfl rfl rfl rfl rfl ?_ ?_ ?_) | ((with_reducible refine g_slice ?_); first | refine lx_slice_sl rfl rfl ⟨_, rfl⟩ rfl rfl rfl rfl ?_ ?_ ?_ ?_) | ((with_reducible refine g_build ?_); first | refine lx_build (r := (.t (.agg _))) rfl rfl rfl rfl rfl rfl rfl ?_) | ((with_reducible refine g_call ?_); first | refine lx_call (r' := .t (.int .i64 a)) [] rfl rfl hA (ArgsLE.refl _) rfl ⟨rfl, trivial⟩ rfl rfl rfl rfl rfl rfl rfl rfl rfl rfl ?_ | refine lx_call (r' := .t (.int .i64 b)) [] rfl rfl hB (ArgsLE.refl _) rfl ⟨rfl, trivial⟩ rfl rfl rfl rfl rfl rfl rfl rfl rfl rfl ?_ | refine lx_call (r' := .t (.int .i64 c)) [] rfl rfl hC (ArgsLE.refl _) rfl ⟨rfl, trivial⟩ rfl rfl rfl rfl rfl rfl rfl rfl rfl rfl ?_) | refine c_condP rfl (fun hc => ?_) (fun hc => ?_) | refine lx_splitP rfl (fun hc => ?_) (fun hc => ?_))
        all_goals try (simp only [List.length_map, List.length_set]; omega)
        all_goals try omega
        all_goals try rfl
        refine q_ret ?_ (stHas_spec ⟨rfl, trivial⟩); refine resT_cell rfl rfl rfl inferInstance rfl inferInstance rfl ?_; exact TLe.av (by repeat first | exact TLe.refl _ | exact TLe.slq _ _ | exact TLe.nil _ | exact TLe.esl _ | refine TLe.agg ?_ | refine TLs.cons ?_ ?_ | exact TLs.nil)
      · rw [if_neg hb0] at hR
        subst hR
        simp only
        have hT : (Th.mk 0 [l.set a.toNat oneW]).toQ = .agg [.int .i64 0, .slq 1 [.sl 2 ((l.map Fr.toT).set a.toNat (.agg [.int .i64 1, .int .i64 1]))]] := by rw [s1]; rfl
        rw [hT]
        repeat' (first | refine codeT_ghost (x := Code.seq (Code.region 15 _ _) _) (ghost_freezeL (id := .loc 900) rfl rfl rfl) ?_ | (with_reducible refine codeT_seq ?_) | (with_reducible refine codeT_block ?_) | (with_reducible refine codeT_skip ?_) | (with_reducible refine codeT_ret ?_) | (with_reducible refine codeT_exit ?_) | (with_reducible refine codeT_regionL ?_) | (with_reducible refine lx_nil ?_) | (with_reducible refine q_then ?_) | (with_reducible refine q_then_exit ?_) | ((with_reducible refine q_block_same ?_ ?_); · rfl) | (with_reducible refine q_loop_exit ?_) | (exfalso; omega) | refine lx_buildSliceQ rfl rfl rfl rfl rfl rfl ?_ | ((with_reducible refine g_move ?_); first | refine lx_move (r := (.t _)) rfl rfl rfl rfl rfl ?_ | refine lx_move (r := (.ref _ _ _ _)) rfl rfl rfl rfl rfl ?_ | refine lx_move (r := (.row _)) rfl rfl rfl rfl rfl ?_) | ((with_reducible refine g_binOp ?_); first | refine lx_arith rfl rfl rfl rfl rfl rfl rfl ?_) | ((with_reducible refine g_pick ?_); first | refine lx_pickT (r := (.t _)) rfl rfl rfl rfl rfl rfl ?_) | ((with_reducible refine g_store ?_); first | refine lx_store_var (r := (.t (.agg _))) rfl rfl rfl rfl rfl rfl rfl rfl rfl rfl ?_ | refine lx_store_slt rfl rfl rfl rfl rfl rfl ?_ ?_ ?_) | ((with_reducible refine g_indexAddr ?_); first | refine lx_indexAddr_row rfl rfl rfl rfl rfl rfl rfl ?_ ?_ ?_) | ((with_reducible refine g_build ?_); first | refine lx_build (r := (.t (.agg _))) rfl rfl rfl rfl rfl rfl rfl ?_) | ((with_reducible refine g_call ?_); first | refine lx_call (r' := .t (.int .i64 a)) [] rfl rfl hA (ArgsLE.refl _) rfl ⟨rfl, trivial⟩ rfl rfl rfl rfl rfl rfl rfl rfl rfl rfl ?_ | refine lx_call (r' := .t (.int .i64 b)) [] rfl rfl hB (ArgsLE.refl _) rfl ⟨rfl, trivial⟩ rfl rfl rfl rfl rfl rfl rfl rfl rfl rfl ?_) | refine c_condP rfl (fun hc => ?_) (fun hc => ?_) | refine lx_splitP rfl (fun hc => ?_) (fun hc => ?_))
        all_goals try (simp only [List.length_map, List.length_set]; omega)
        all_goals try omega
        all_goals try rfl
        refine q_ret ?_ (stHas_spec ⟨rfl, trivial⟩); refine resT_cell rfl rfl rfl inferInstance rfl inferInstance rfl ?_; exact TLe.av (by repeat first | exact TLe.refl _ | exact TLe.slq _ _ | exact TLe.nil _ | exact TLe.esl _ | refine TLe.agg ?_ | refine TLs.cons ?_ ?_ | exact TLs.nil)
    · rw [if_neg h1] at hR
      subst hR
      simp only
      have hT : (Th.mk 0 [l.set a.toNat oneW]).toQ = .agg [.int .i64 0, .slq 1 [.sl 2 ((l.map Fr.toT).set a.toNat (.agg [.int .i64 1, .int .i64 1]))]] := by rw [s1]; rfl
      rw [hT]
      repeat' (first | refine codeT_ghost (x := Code.seq (Code.region 15 _ _) _) (ghost_freezeL (id := .loc 900) rfl rfl rfl) ?_ | (with_reducible refine codeT_seq ?_) | (with_reducible refine codeT_block ?_) | (with_reducible refine codeT_skip ?_) | (with_reducible refine codeT_ret ?_) | (with_reducible refine codeT_exit ?_) | (with_reducible refine codeT_regionL ?_) | (with_reducible refine lx_nil ?_) | (with_reducible refine q_then ?_) | (with_reducible refine q_then_exit ?_) | ((with_reducible refine q_block_same ?_ ?_); · rfl) | (with_reducible refine q_loop_exit ?_) | refine c_condF rfl ?_ | (exfalso; omega) | refine lx_buildSliceQ rfl rfl rfl rfl rfl rfl ?_ | ((with_reducible refine g_guard ?_); first | refine lx_skip rfl rfl rfl ?_) | ((with_reducible refine g_move ?_); first | refine lx_move (r := (.t _)) rfl rfl rfl rfl rfl ?_ | refine lx_move (r := (.ref _ _ _ _)) rfl rfl rfl rfl rfl ?_ | refine lx_move (r := (.row _)) rfl rfl rfl rfl rfl ?_) | ((with_reducible refine g_binOp ?_); first | refine lx_arith rfl rfl rfl rfl rfl rfl rfl ?_) | ((with_reducible refine g_pick ?_); first | refine lx_pickF (r := (.t _)) rfl rfl rfl rfl rfl rfl ?_) | ((with_reducible refine g_store ?_); first | refine lx_store_var (r := (.t (.agg _))) rfl rfl rfl rfl rfl rfl rfl rfl rfl rfl ?_ | refine lx_store_slt rfl rfl rfl rfl rfl rfl ?_ ?_ ?_) | ((with_reducible refine g_indexAddr ?_); first | refine lx_indexAddr_row rfl rfl rfl rfl rfl rfl rfl ?_ ?_ ?_) | ((with_reducible refine g_build ?_); first | refine lx_build (r := (.t (.agg _))) rfl rfl rfl rfl rfl rfl rfl ?_) | ((with_reducible refine g_call ?_); first | refine lx_call (r' := .t (.int .i64 a)) [] rfl rfl hA (ArgsLE.refl _) rfl ⟨rfl, trivial⟩ rfl rfl rfl rfl rfl rfl rfl rfl rfl rfl ?_) | refine c_condP rfl (fun hc => ?_) (fun hc => ?_) | refine lx_splitP rfl (fun hc => ?_) (fun hc => ?_))
      all_goals try (simp only [List.length_map, List.length_set]; omega)
      all_goals try omega
      all_goals try rfl
      refine q_ret ?_ (stHas_spec ⟨rfl, trivial⟩); refine resT_cell rfl rfl rfl inferInstance rfl inferInstance rfl ?_; exact TLe.av (by repeat first | exact TLe.refl _ | exact TLe.slq _ _ | exact TLe.nil _ | exact TLe.esl _ | refine TLe.agg ?_ | refine TLs.cons ?_ ?_ | exact TLs.nil)
end Go.AL
/- How many keys are enough, as both sides answer, for any threshold. -/
set_option linter.unusedVariables false
namespace Go.AL
open Go Go.Proofs Go.RowKit

theorem and1j (n : Nat) (h : n < 18446744073709551616) : IntKind.i64.wrap ((BitVec.ofInt IntKind.i64.bits (n : Int) &&& BitVec.ofInt IntKind.i64.bits 1).toNat : Int) = ((n % 2 : Nat) : Int) := by
  rw [BitVec.toNat_and, BitVec.ofInt_natCast, show (1 : Int) = ((1 : Nat) : Int) from rfl, BitVec.ofInt_natCast, BitVec.toNat_ofNat, BitVec.toNat_ofNat]
  have : IntKind.i64.bits = 64 := rfl
  rw [this, Nat.mod_eq_of_lt (by omega), show 1 % 2 ^ 64 = 2 ^ 1 - 1 from rfl, Nat.and_two_pow_sub_one_eq_mod]
  exact wrap64 (by omega) (by omega)
/-- The test of a key in a mask. -/
theorem bit_valA (m k : Nat) (hm : m < 256) (hk : k < 8) : IntKind.i64.wrap ((BitVec.ofInt IntKind.i64.bits ((m : Int) / 2 ^ min (IntKind.u64.wrap (k : Int)).toNat IntKind.i64.bits) &&& BitVec.ofInt IntKind.i64.bits 1).toNat : Int) = if m.testBit k then 1 else 0 := by
  have w : IntKind.u64.wrap (k : Int) = (k : Int) := by
    have : IntKind.u64.wrap (k : Int) = (k : Int) % 18446744073709551616 := rfl
    omega
  have b : IntKind.i64.bits = 64 := rfl
  rw [w, Int.toNat_natCast, b, Nat.min_eq_left (by omega), show ((m : Int) / 2 ^ k) = ((m / 2 ^ k : Nat) : Int) by rw [Int.natCast_ediv, Int.natCast_pow]; rfl]
  have hle : m / 2 ^ k ≤ m := Nat.div_le_self _ _
  have h := and1j (m / 2 ^ k) (by omega)
  rw [b] at h
  rw [h, Nat.testBit_eq_decide_div_mod_eq]
  have : m / 2 ^ k % 2 = 0 ∨ m / 2 ^ k % 2 = 1 := by omega
  rcases this with h | h <;> rw [h] <;> simp

/-- What both sides answer. -/
def leastA (t : Th) (k : Int) : Int := if validP t k = true then t.n + (leastSum leastG t.w : Nat) else -1
theorem lens_ge : ∀ (w : List (List Fr)), (∀ l ∈ w, l.length ≠ 0) → w.length ≤ lensT w
  | [], _ => by simp [lensT]
  | x :: r, h => by
    have := lens_ge r fun l hl => h l (List.mem_cons_of_mem _ hl)
    have := h x (by simp)
    simp only [lensT, List.length_cons]; omega
theorem valid_facts (t : Th) (k : Int) (h : validP t k = true) : 0 ≤ k ∧ k ≤ 8 ∧ t.Fit ∧ 0 ≤ t.n ∧ t.n ≤ k ∧ (∀ l ∈ t.w, wholeF l = true) ∧ (k = 0 ∧ t.n = 0 ∧ t.w = [] ∨ 1 ≤ k ∧ (t.n ≠ 0 ∧ t.w = [] ∨ t.n = 0 ∧ t.w.length ≠ 0 ∧ (lensT t.w : Int) = k)) := by
  unfold validP at h
  by_cases hn : t.n = 0
  · rw [if_neg (by simp [hn])] at h
    by_cases hw : t.w.length = 0
    · rw [if_pos hw] at h
      have hk := of_decide_eq_true h
      have hw2 := List.length_eq_zero_iff.1 hw
      refine ⟨by omega, by omega, ⟨by rw [hw2]; simp [lensT], by omega, by rw [hw2]; simp, .inl hn⟩, by omega, by omega, by rw [hw2]; simp, .inl ⟨hk, hn, hw2⟩⟩
    · rw [if_neg hw] at h
      simp only [Bool.and_eq_true, decide_eq_true_eq, Bool.not_eq_true'] at h
      obtain ⟨⟨h1, h2⟩, h3⟩ := h
      obtain ⟨i1, i2⟩ := keysGo_ok t.w 0 (by omega)
      obtain ⟨j1, j2⟩ := i1.1 (by omega)
      have hL := i2 (by omega)
      rw [Nat.zero_add] at hL j2
      have hge := lens_ge t.w fun l hl => (j1 l hl).1
      refine ⟨by omega, by omega, ⟨j2, by omega, fun l hl => (j1 l hl).2, .inl hn⟩, by omega, by omega, fun l hl => ?_, .inr ⟨by omega, .inr ⟨hn, hw, by omega⟩⟩⟩
      have := List.any_eq_false.1 h3 l hl
      simpa using this
  · rw [if_pos hn] at h
    simp only [Bool.and_eq_true, decide_eq_true_eq] at h
    obtain ⟨h1, h2⟩ := h
    have hw2 := List.length_eq_zero_iff.1 h2
    refine ⟨by omega, by omega, ⟨by rw [hw2]; simp [lensT], by omega, by rw [hw2]; simp, .inr h2⟩, by omega, by omega, by rw [hw2]; simp, .inr ⟨by omega, .inl ⟨hn, hw2⟩⟩⟩
/-- The least number, among the sets of keys. -/
theorem least_facts (t : Th) (n : Nat) (h : validP t (n : Int) = true) : n ≤ 8 ∧ 0 ≤ leastA t n ∧ leastA t n ≤ n ∧ (∀ m, enoughP t (setB m n) = true → leastA t n ≤ ((setB m n).length : Int)) ∧ (∃ m, m < 2 ^ n ∧ enoughP t (setB m n) = true ∧ ((setB m n).length : Int) = leastA t n) := by
  obtain ⟨k1, k2, k3, k4, k5, k6, k7⟩ := valid_facts t n h
  unfold leastA
  rw [if_pos h]
  rcases k7 with ⟨c1, c2, c3⟩ | ⟨c1, c2⟩
  · obtain rfl : n = 0 := by omega
    rw [c2, c3]
    simp only [leastSum]
    refine ⟨by omega, by omega, by omega, fun m hm => by omega, 0, by decide, ?_, by decide⟩
    obtain ⟨tn, w⟩ := t
    simp only at c2 c3
    subst c2; subst c3
    decide
  · obtain ⟨g1, g2, g3, g4, g5, g6⟩ := grows_facts t n (by omega) (by omega) k3 ⟨k4, k5⟩ k6 (by
      rcases c2 with c | ⟨c3, c4, c5⟩
      · exact .inl c
      · exact .inr ⟨c3, c4, by omega⟩)
    exact ⟨by omega, by omega, g6, g2, g3⟩
set_option maxHeartbeats 4000000 in
theorem LeastA_spec (t : Th) (k : Int) (ht : t.Sm) : Spec Try.prog 15 [.t t.toT, .t (.int .i64 k)] [] (.t (.int .i64 (leastA t k))) [] := by
  unfold leastA
  by_cases hv : validP t k = true
  · rw [if_pos hv]
    obtain ⟨k1, k2, k3, k4, k5, k6, k7⟩ := valid_facts t k hv
    exact Least_spec t k ht leastG hv ⟨k4, by omega⟩ (fun l hl => ⟨by have := len_le hl; have := k3.few; omega, k3.wt l hl⟩) leastG_le (fun l hl => leastG_is _ (k3.wt l hl) (k6 l hl))
  · rw [if_neg hv]
    have hV := Valid_spec t k ht
    rw [show validP t k = false by simpa using hv] at hV
    obtain ⟨tn, w⟩ := t
    unfold Th.toT at *
    simp only at *
    refine spec_intro (env0 := [(0, _), (1, _)]) (st0 := []) Try.func15 rfl rfl rfl rfl ?_
    repeat' (first | (with_reducible refine codeT_seq ?_) | (with_reducible refine codeT_ret ?_) | (with_reducible refine codeT_regionL ?_) | (with_reducible refine lx_nil ?_) | (with_reducible refine q_then ?_) | (with_reducible refine q_then_ret ?_) | refine c_condT rfl ?_ | ((with_reducible refine g_move ?_); first | refine lx_move (r := (.t _)) rfl rfl rfl rfl rfl ?_) | ((with_reducible refine g_load ?_); first | refine lx_load_varA (r := (.t (.agg _))) rfl rfl rfl rfl rfl rfl rfl rfl rfl ?_) | ((with_reducible refine g_assign ?_); first | refine lx_assign (r := (.t _)) rfl rfl rfl rfl rfl ?_) | ((with_reducible refine g_box ?_); first | refine lx_box (r := (.t (.agg _))) (cs := (List.map .t _)) rfl rfl rfl rfl rfl rfl rfl rfl rfl ?_) | ((with_reducible refine g_unOp ?_); first | refine lx_not rfl rfl rfl rfl rfl ?_) | ((with_reducible refine g_call ?_); first | refine lx_callT rfl rfl hV rfl rfl (ArgsLE.refl _) rfl rfl rfl rfl rfl ?_))
    exact q_ret (resT_oneE rfl rfl rfl) (by simp)
set_option maxRecDepth 4000 in
set_option maxHeartbeats 16000000 in
theorem RLeastA_spec (t : Th) (k : Int) (ht : t.Sm) : Spec Try.prog 20 [.t t.toT, .t (.int .i64 k)] [] (.t (.int .i64 (leastA t k))) [] := by
  have hV := RVal_spec t k ht
  rw [← valid_eq] at hV
  by_cases hv : validP t k = true
  · rw [hv] at hV
    obtain ⟨k1, k2, k3, k4, k5, k6, k7⟩ := valid_facts t k hv
    obtain ⟨n, rfl⟩ : ∃ n : Nat, k = n := ⟨k.toNat, by omega⟩
    obtain ⟨n8, l0, l1, l2, l3⟩ := least_facts t n hv
    generalize leastA t n = L at *
    have hE : ∀ s : List Int, s.length ≤ 1000000 → Spec Try.prog 14 [.t t.toT, .t (.sl 1 (s.map (T.int .i64)))] [] (.t (.bool (enoughP t s))) [] := fun s hs => by
      rw [enough_eq k3 (fun _ _ => trivial) s (fun _ => trivial) (by rcases Decidable.em (t.n = 0) with h | h; exact .inr (.inr (by omega)); exact .inl h)]
      exact REnough_spec t s k3 hs
    generalize enoughP t = F at hE l2 l3
    clear k3 k4 k5 k6 k7 ht hv
    obtain ⟨tn, w⟩ := t
    unfold Th.toT at *
    simp only at *
    have hP : (IntKind.i64.wrap (1 * 2 ^ min (IntKind.u64.wrap (n : Int)).toNat IntKind.i64.bits)) = ((2 ^ n : Nat) : Int) := by
      have : n = 0 ∨ n = 1 ∨ n = 2 ∨ n = 3 ∨ n = 4 ∨ n = 5 ∨ n = 6 ∨ n = 7 ∨ n = 8 := by omega
      rcases this with rfl | rfl | rfl | rfl | rfl | rfl | rfl | rfl | rfl <;> decide
    have hP8 : 2 ^ n ≤ 256 := Nat.pow_le_pow_right (n := 2) (i := n) (j := 8) (by omega) (by omega)
    have hU : IntKind.u64.wrap (n : Int) = (n : Int) := by
      have : IntKind.u64.wrap (n : Int) = (n : Int) % 18446744073709551616 := rfl
      omega
    refine spec_intro (env0 := [(0, _), (1, _)]) (st0 := []) Try.func20 rfl rfl rfl rfl ?_
    repeat' (first | (with_reducible refine codeT_seq ?_) | (with_reducible refine codeT_block ?_) | (with_reducible refine codeT_skip ?_) | (with_reducible refine codeT_regionL ?_) | (with_reducible refine lx_nil ?_) | (with_reducible refine q_then ?_) | refine c_condF rfl ?_ | ((with_reducible refine g_move ?_); first | refine lx_move (r := (.t _)) rfl rfl rfl rfl rfl ?_) | ((with_reducible refine g_load ?_); first | refine lx_load_varA (r := (.t (.agg _))) rfl rfl rfl rfl rfl rfl rfl rfl rfl ?_) | ((with_reducible refine g_binOp ?_); first | refine lx_shl rfl rfl rfl rfl rfl rfl ?_ ?_) | ((with_reducible refine g_assign ?_); first | refine lx_assign (r := (.t _)) rfl rfl rfl rfl rfl ?_) | ((with_reducible refine g_box ?_); first | refine lx_box (r := (.t (.agg _))) (cs := (List.map .t _)) rfl rfl rfl rfl rfl rfl rfl rfl rfl ?_) | ((with_reducible refine g_unOp ?_); first | refine lx_not rfl rfl rfl rfl rfl ?_) | ((with_reducible refine g_convert ?_); first | refine lx_conv_int rfl rfl rfl rfl rfl ?_) | ((with_reducible refine g_call ?_); first | refine lx_callT rfl rfl hV rfl rfl (ArgsLE.refl _) rfl rfl rfl rfl rfl ?_))
    · omega
    refine codeT_ghost (ghost_keep2 [1, 2, 4, 5, 16, 17] [.loc 2] rfl rfl) ?_
    refine codeT_loop (fun p env st => ∃ (m : Nat) (best : Int), m ≤ 2 ^ n ∧ p = 2 ^ n - m ∧ L ≤ best ∧ best ≤ n ∧ (∀ m', m' < m → F (setB m' n) = true → best ≤ ((setB m' n).length : Int)) ∧
        env = EnvL.get [(1, .t (.int .i64 (n : Int))), (2, .ref (.loc 2) 0 0 0), (4, .t (.int .i64 0)), (5, .t (.int .i64 best)), (16, .t (.int .i64 (IntKind.i64.wrap (1 * 2 ^ min (IntKind.u64.wrap (n : Int)).toNat IntKind.i64.bits)))), (17, .t (.int .i64 (m : Int)))] ∧
        st = StO.get [(.loc 2, some (.var 30 [.t (.int .i64 tn), .t (.sl 1 (w.map frs))]))])
      ?_ (n := 2 ^ n) ⟨0, n, by omega, rfl, by omega, by omega, fun m' h => by omega, rfl, rfl⟩
    rintro p env st ⟨m, best, hm, rfl, hb1, hb2, hbest, rfl, rfl⟩
    have wm : IntKind.i64.wrap ((m : Int) + 1) = ((m + 1 : Nat) : Int) := by rw [wrap64 (by omega) (by omega)]; omega
    by_cases hltm : m < 2 ^ n
    · repeat' (first | (with_reducible refine codeT_seq ?_) | (with_reducible refine codeT_block ?_) | (with_reducible refine codeT_skip ?_) | (with_reducible refine codeT_exit ?_) | (with_reducible refine codeT_regionL ?_) | (with_reducible refine lx_nil ?_) | (with_reducible refine q_then ?_) | (with_reducible refine q_then_exit ?_) | ((with_reducible refine q_block_same ?_ ?_); · rfl) | (with_reducible refine q_loop_exit ?_) | (exfalso; omega) | ((with_reducible refine g_move ?_); first | refine lx_move (r := (.t _)) rfl rfl rfl rfl rfl ?_) | ((with_reducible refine g_binOp ?_); first | refine lx_arith rfl rfl rfl rfl rfl rfl rfl ?_) | ((with_reducible refine g_assign ?_); first | refine lx_assign (r := (.t _)) rfl rfl rfl rfl rfl ?_) | refine c_condP rfl (fun hc => ?_) (fun hc => ?_))
      refine codeT_ghost (ghost_nilL 7 (.loc 902) 3 1 rfl rfl rfl) ?_
      refine codeT_ghost (ghost_keep2 [1, 2, 4, 5, 6, 7, 16, 17, 20, 21] [.loc 2, .loc 902] rfl rfl) ?_
      refine codeT_loop (fun p env st => ∃ (k : Nat), k ≤ n ∧ p = n - k ∧
          env = EnvL.get [(1, .t (.int .i64 (n : Int))), (2, .ref (.loc 2) 0 0 0), (4, .t (.int .i64 0)), (5, .t (.int .i64 best)), (6, .t (.int .i64 (m : Int))), (7, .row (.loc 902)), (16, .t (.int .i64 (IntKind.i64.wrap (1 * 2 ^ min (IntKind.u64.wrap (n : Int)).toNat IntKind.i64.bits)))), (17, .t (.int .i64 (m : Int))), (20, .t (.int .i64 (n : Int))), (21, .t (.int .i64 (k : Int)))] ∧
          st = StO.get [(.loc 2, some (.var 30 [.t (.int .i64 tn), .t (.sl 1 (w.map frs))])), (.loc 902, some (.slt 3 1 ((setB m k).map (T.int .i64))))])
        ?_ (n := n) ⟨0, by omega, rfl, rfl, rfl⟩
      rintro p env st ⟨k, hk, rfl, rfl, rfl⟩
      have wk : IntKind.i64.wrap ((k : Int) + 1) = ((k + 1 : Nat) : Int) := by rw [wrap64 (by omega) (by omega)]; omega
      have hsl : (setB m k).length ≤ k := by
        unfold setB; rw [List.length_map]; have := List.length_filter_le (fun k => m.testBit k) (List.range k); rw [List.length_range] at this; exact this
      by_cases hltk : k < n
      · have hbit := bit_valA m k (by omega) (by omega)
        have hku : IntKind.u64.wrap (k : Int) = (k : Int) := by
          have : IntKind.u64.wrap (k : Int) = (k : Int) % 18446744073709551616 := rfl
          omega
        have hset : setB m (k + 1) = setB m k ++ (if m.testBit k then [(k : Int)] else []) := by
          unfold setB; rw [List.range_succ, List.filter_append, List.map_append]; cases hb : m.testBit k <;> simp [List.filter_cons, hb]
        cases hb : m.testBit k with
        | true =>
          rw [hb, if_pos rfl] at hbit hset
          repeat' (first | (with_reducible refine codeT_seq ?_) | (with_reducible refine codeT_block ?_) | (with_reducible refine codeT_skip ?_) | (with_reducible refine codeT_exit ?_) | (with_reducible refine codeT_regionL ?_) | (with_reducible refine lx_nil ?_) | (with_reducible refine q_then ?_) | (with_reducible refine q_then_exit ?_) | (with_reducible refine q_block ?_) | ((with_reducible refine q_block_same ?_ ?_); · rfl) | (with_reducible refine q_loop_exit ?_) | (exfalso; omega) | ((with_reducible refine g_move ?_); first | refine lx_move (r := (.t _)) rfl rfl rfl rfl rfl ?_ | refine lx_move (r := (.row _)) rfl rfl rfl rfl rfl ?_) | ((with_reducible refine g_binOp ?_); first | refine lx_arith rfl rfl rfl rfl rfl rfl rfl ?_ | refine lx_shr rfl rfl rfl rfl rfl rfl ?_ ?_) | ((with_reducible refine g_assign ?_); first | refine lx_assign (r := (.t _)) rfl rfl rfl rfl rfl ?_ | refine lx_assign (r := (.row _)) rfl rfl rfl rfl rfl ?_) | ((with_reducible refine g_convert ?_); first | refine lx_conv_int rfl rfl rfl rfl rfl ?_) | ((with_reducible refine g_buildSlice ?_); first | refine lx_buildSlice rfl rfl rfl rfl rfl rfl rfl ?_) | ((with_reducible refine g_append ?_); first | refine lx_append_row rfl rfl rfl rfl rfl rfl rfl rfl rfl rfl ?_ ?_ ?_) | refine c_condP rfl (fun hc => ?_) (fun hc => ?_))
          all_goals try (simp only [List.length_map, List.length_singleton]; omega)
          all_goals try omega
          refine q_loop (n' := n - (k + 1)) (by omega) ((ghost_keep2 [1, 2, 4, 5, 6, 7, 16, 17, 20, 21] [.loc 2, .loc 33] rfl rfl).trans (ghost_renL2 (.loc 33) (.loc 902) rfl rfl rfl rfl)) ⟨k + 1, by omega, rfl, by rw [wk]; rfl, by rw [hset, List.map_append]; rfl⟩
        | false =>
          rw [hb, if_neg (by decide)] at hbit hset
          rw [List.append_nil] at hset
          repeat' (first | (with_reducible refine codeT_seq ?_) | (with_reducible refine codeT_block ?_) | (with_reducible refine codeT_skip ?_) | (with_reducible refine codeT_exit ?_) | (with_reducible refine codeT_regionL ?_) | (with_reducible refine lx_nil ?_) | (with_reducible refine q_then ?_) | (with_reducible refine q_then_exit ?_) | (with_reducible refine q_block ?_) | ((with_reducible refine q_block_same ?_ ?_); · rfl) | (with_reducible refine q_loop_exit ?_) | (exfalso; omega) | ((with_reducible refine g_move ?_); first | refine lx_move (r := (.t _)) rfl rfl rfl rfl rfl ?_) | ((with_reducible refine g_binOp ?_); first | refine lx_arith rfl rfl rfl rfl rfl rfl rfl ?_ | refine lx_shr rfl rfl rfl rfl rfl rfl ?_ ?_) | ((with_reducible refine g_assign ?_); first | refine lx_assign (r := (.t _)) rfl rfl rfl rfl rfl ?_) | ((with_reducible refine g_convert ?_); first | refine lx_conv_int rfl rfl rfl rfl rfl ?_) | refine c_condP rfl (fun hc => ?_) (fun hc => ?_))
          all_goals try omega
          refine q_loop (n' := n - (k + 1)) (by omega) (ghost_keep2 [1, 2, 4, 5, 6, 7, 16, 17, 20, 21] [.loc 2, .loc 902] rfl rfl) ⟨k + 1, by omega, rfl, by rw [wk]; rfl, by rw [hset]; rfl⟩
      · obtain rfl : k = n := by omega
        have hB := Spec.borrow (k := 1) (e := 3) (sz := 1) (es := (setB m k).map (T.int .i64)) (args := [.t (.agg [.int .i64 tn, .sl 1 (w.map frs)]), .row (.par 1)]) (r := .bool (F (setB m k))) (fun h h' v hv => by simpa [RepT] using hv) (hE (setB m k) (by omega))
        have hl2 := l2 m
        have hlen : ((((setB m k).map (T.int .i64)).length : Nat) : Int) = ((setB m k).length : Int) := by rw [List.length_map]
        have key : ∀ b', b' = best ∨ b' = ((setB m k).length : Int) → b' ≤ best → L ≤ b' → (F (setB m k) = true → b' ≤ ((setB m k).length : Int)) → ∀ m', m' < m + 1 → F (setB m' k) = true → b' ≤ ((setB m' k).length : Int) := fun b' _ h1 _ h2 m' q1 q2 => (Nat.lt_or_ge m' m).elim (fun h => by have := hbest m' h q2; omega) (fun h => by
          have e : m' = m := by omega
          subst e; exact h2 q2)
        cases hV1 : F (setB m k) with
        | false =>
          rw [hV1] at hB key
          repeat' (first | (with_reducible refine codeT_seq ?_) | (with_reducible refine codeT_block ?_) | (with_reducible refine codeT_skip ?_) | (with_reducible refine codeT_exit ?_) | (with_reducible refine codeT_regionL ?_) | (with_reducible refine lx_nil ?_) | (with_reducible refine q_then ?_) | (with_reducible refine q_then_exit ?_) | (with_reducible refine q_block ?_) | ((with_reducible refine q_block_same ?_ ?_); · rfl) | (with_reducible refine q_loop_exit ?_) | refine c_condF rfl ?_ | (exfalso; omega) | ((with_reducible refine g_guard ?_); first | refine lx_skip rfl rfl rfl ?_) | ((with_reducible refine g_move ?_); first | refine lx_move (r := (.t _)) rfl rfl rfl rfl rfl ?_ | refine lx_move (r := (.row _)) rfl rfl rfl rfl rfl ?_) | ((with_reducible refine g_load ?_); first | refine lx_load_varA (r := (.t (.agg _))) rfl rfl rfl rfl rfl rfl rfl rfl rfl ?_) | ((with_reducible refine g_binOp ?_); first | refine lx_arith rfl rfl rfl rfl rfl rfl rfl ?_) | ((with_reducible refine g_pick ?_); first | refine lx_pickT (r := (.t _)) rfl rfl rfl rfl rfl rfl ?_ | refine lx_pickF (r := (.t _)) rfl rfl rfl rfl rfl rfl ?_) | ((with_reducible refine g_len ?_); first | refine lx_len_rowmap rfl rfl rfl rfl rfl rfl ?_) | ((with_reducible refine g_call ?_); first | refine lx_callR (r' := .t (.bool false)) [(.par 1, .loc 902)] rfl rfl hB (ArgsLE.refl _) rfl ⟨rfl, trivial⟩ rfl rfl rfl rfl rfl rfl rfl rfl ?_) | refine c_condP rfl (fun hc => ?_) (fun hc => ?_) | refine lx_splitP rfl (fun hc => ?_) (fun hc => ?_))
          all_goals exact q_loop (n' := 2 ^ k - (m + 1)) (by omega) (ghost_keep2 [1, 2, 4, 5, 16, 17] [.loc 2] rfl rfl) ⟨m + 1, best, by omega, rfl, hb1, hb2, key best (.inl rfl) (by omega) hb1 (fun h => by cases h), by rw [wm]; rfl, rfl⟩
        | true =>
          rw [hV1] at hB key
          have hge := hl2 hV1
          by_cases hlb : ((setB m k).length : Int) < best
          · repeat' (first | (with_reducible refine codeT_seq ?_) | (with_reducible refine codeT_block ?_) | (with_reducible refine codeT_skip ?_) | (with_reducible refine codeT_exit ?_) | (with_reducible refine codeT_regionL ?_) | (with_reducible refine lx_nil ?_) | (with_reducible refine q_then ?_) | (with_reducible refine q_then_exit ?_) | (with_reducible refine q_block ?_) | ((with_reducible refine q_block_same ?_ ?_); · rfl) | (with_reducible refine q_loop_exit ?_) | refine c_condT rfl ?_ | (exfalso; omega) | ((with_reducible refine g_move ?_); first | refine lx_move (r := (.t _)) rfl rfl rfl rfl rfl ?_ | refine lx_move (r := (.row _)) rfl rfl rfl rfl rfl ?_) | ((with_reducible refine g_load ?_); first | refine lx_load_varA (r := (.t (.agg _))) rfl rfl rfl rfl rfl rfl rfl rfl rfl ?_) | ((with_reducible refine g_binOp ?_); first | refine lx_arith rfl rfl rfl rfl rfl rfl rfl ?_) | ((with_reducible refine g_assign ?_); first | refine lx_assign (r := (.t _)) rfl rfl rfl rfl rfl ?_) | ((with_reducible refine g_pick ?_); first | refine lx_pickT (r := (.t _)) rfl rfl rfl rfl rfl rfl ?_) | ((with_reducible refine g_len ?_); first | refine lx_len_rowmap rfl rfl rfl rfl rfl rfl ?_) | ((with_reducible refine g_call ?_); first | refine lx_callR (r' := .t (.bool true)) [(.par 1, .loc 902)] rfl rfl hB (ArgsLE.refl _) rfl ⟨rfl, trivial⟩ rfl rfl rfl rfl rfl rfl rfl rfl ?_) | refine c_condP rfl (fun hc => ?_) (fun hc => ?_) | refine lx_splitP rfl (fun hc => ?_) (fun hc => ?_))
            exact q_loop (n' := 2 ^ k - (m + 1)) (by omega) (ghost_keep2 [1, 2, 4, 5, 16, 17] [.loc 2] rfl rfl) ⟨m + 1, ((setB m k).length : Int), by omega, rfl, hge, by omega, key _ (.inr rfl) (by omega) hge (fun _ => Int.le_refl _), by rw [wm, ← hlen]; rfl, rfl⟩
          · repeat' (first | (with_reducible refine codeT_seq ?_) | (with_reducible refine codeT_block ?_) | (with_reducible refine codeT_skip ?_) | (with_reducible refine codeT_exit ?_) | (with_reducible refine codeT_regionL ?_) | (with_reducible refine lx_nil ?_) | (with_reducible refine q_then ?_) | (with_reducible refine q_then_exit ?_) | (with_reducible refine q_block ?_) | ((with_reducible refine q_block_same ?_ ?_); · rfl) | (with_reducible refine q_loop_exit ?_) | refine c_condF rfl ?_ | (exfalso; omega) | ((with_reducible refine g_guard ?_); first | refine lx_skip rfl rfl rfl ?_) | ((with_reducible refine g_move ?_); first | refine lx_move (r := (.t _)) rfl rfl rfl rfl rfl ?_ | refine lx_move (r := (.row _)) rfl rfl rfl rfl rfl ?_) | ((with_reducible refine g_binOp ?_); first | refine lx_arith rfl rfl rfl rfl rfl rfl rfl ?_) | ((with_reducible refine g_pick ?_); first | refine lx_pickF (r := (.t _)) rfl rfl rfl rfl rfl rfl ?_) | ((with_reducible refine g_len ?_); first | refine lx_len_rowmap rfl rfl rfl rfl rfl rfl ?_) | refine c_condP rfl (fun hc => ?_) (fun hc => ?_) | refine lx_splitP rfl (fun hc => ?_) (fun hc => ?_))
            exact q_loop (n' := 2 ^ k - (m + 1)) (by omega) (ghost_keep2 [1, 2, 4, 5, 16, 17] [.loc 2] rfl rfl) ⟨m + 1, best, by omega, rfl, hb1, hb2, key best (.inl rfl) (by omega) hb1 (fun _ => by omega), by rw [wm]; rfl, rfl⟩
    · obtain rfl : m = 2 ^ n := by omega
      obtain ⟨m', q1, q2, q3⟩ := l3
      have hf := hbest m' q1 q2
      obtain rfl : best = L := by omega
      repeat' (first | (with_reducible refine codeT_seq ?_) | (with_reducible refine codeT_block ?_) | (with_reducible refine codeT_skip ?_) | (with_reducible refine codeT_ret ?_) | (with_reducible refine codeT_exit ?_) | (with_reducible refine codeT_regionL ?_) | (with_reducible refine lx_nil ?_) | (with_reducible refine q_then ?_) | (with_reducible refine q_then_exit ?_) | ((with_reducible refine q_block_same ?_ ?_); · rfl) | (with_reducible refine q_loop_exit ?_) | (exfalso; omega) | ((with_reducible refine g_move ?_); first | refine lx_move (r := (.t _)) rfl rfl rfl rfl rfl ?_) | ((with_reducible refine g_binOp ?_); first | refine lx_arith rfl rfl rfl rfl rfl rfl rfl ?_) | ((with_reducible refine g_assign ?_); first | refine lx_assign (r := (.t _)) rfl rfl rfl rfl rfl ?_) | refine c_condP rfl (fun hc => ?_) (fun hc => ?_))
      exact q_ret (resT_oneE rfl rfl rfl) (by simp)
  · have e : leastA t k = -1 := by unfold leastA; rw [if_neg hv]
    rw [e]
    rw [show validP t k = false by simpa using hv] at hV
    obtain ⟨tn, w⟩ := t
    unfold Th.toT at *
    simp only at *
    refine spec_intro (env0 := [(0, _), (1, _)]) (st0 := []) Try.func20 rfl rfl rfl rfl ?_
    repeat' (first | (with_reducible refine codeT_seq ?_) | (with_reducible refine codeT_ret ?_) | (with_reducible refine codeT_regionL ?_) | (with_reducible refine lx_nil ?_) | (with_reducible refine q_then ?_) | (with_reducible refine q_then_ret ?_) | refine c_condT rfl ?_ | ((with_reducible refine g_move ?_); first | refine lx_move (r := (.t _)) rfl rfl rfl rfl rfl ?_) | ((with_reducible refine g_load ?_); first | refine lx_load_varA (r := (.t (.agg _))) rfl rfl rfl rfl rfl rfl rfl rfl rfl ?_) | ((with_reducible refine g_assign ?_); first | refine lx_assign (r := (.t _)) rfl rfl rfl rfl rfl ?_) | ((with_reducible refine g_box ?_); first | refine lx_box (r := (.t (.agg _))) (cs := (List.map .t _)) rfl rfl rfl rfl rfl rfl rfl rfl rfl ?_) | ((with_reducible refine g_unOp ?_); first | refine lx_not rfl rfl rfl rfl rfl ?_) | ((with_reducible refine g_call ?_); first | refine lx_callT rfl rfl hV rfl rfl (ArgsLE.refl _) rfl rfl rfl rfl rfl ?_))
    exact q_ret (resT_oneE rfl rfl rfl) (by simp)
end Go.AL
/- What odd makes of a threshold. -/
set_option linter.unusedVariables false
namespace Go.AL
open Go Go.Proofs Go.RowKit

def fiveL : List Int := [100, 101, 1, 0, -1]
set_option maxHeartbeats 8000000 in
theorem odd_nil (d0 : Dc) (n0 : Int)  (hd0 : d0.l.length ≤ 1000) : ∃ (y : Th) (d1 : Dc), y.w.length ≤ (([] : List (List Fr))).length + 1 ∧ (∀ x ∈ y.w, x.length ≤ 2 ∨ x ∈ (([] : List (List Fr)) : List (List Fr))) ∧ d1.l.length ≤ 1000 ∧ Spec Try.prog 17 [.ref (.par 0) 0 0 0, .t (Th.mk n0 (([] : List (List Fr)))).toQ] [(.par 0, d0.row)] (.t y.toT) [(.par 0, d1.row)] := by
  have hN := Next_spec d0 8 (by omega) hd0
  have hl := d0.next_lt 8 (by omega)
  have hd1 : (d0.next 8).2.l.length ≤ 1000 := by rw [Dc.next_l]; exact hd0
  generalize d0.next 8 = q at hN hl hd1
  obtain ⟨v, d1⟩ := q
  simp only at hN hl hd1
  have old : ∀ z : List Fr, z.length ≤ 2 → ∀ x ∈ (([] : List (List Fr)) : List (List Fr)) ++ [z], x.length ≤ 2 ∨ x ∈ (([] : List (List Fr)) : List (List Fr)) := fun z hz x hx => by
    rcases List.mem_append.1 hx with h | h
    · exact .inr h
    · rw [List.mem_singleton.1 h]; exact .inl hz
  have leq : ∀ z : List Fr, ((([] : List (List Fr)) : List (List Fr)) ++ [z]).length ≤ (([] : List (List Fr)) : List (List Fr)).length + 1 := fun z => by simp
  have hQ : (Th.mk n0 (([] : List (List Fr)))).toQ = .agg [.int .i64 n0, .nilsl] := rfl
  rw [hQ]
  by_cases v0 : v = 0
  · have hA := Next_spec d1 11 (by omega) hd1
    have hAl := d1.next_lt 11 (by omega)
    have hAd : (d1.next 11).2.l.length ≤ 1000 := by rw [Dc.next_l]; exact hd1
    generalize d1.next 11 = q at hA hAl hAd
    obtain ⟨u, d2⟩ := q
    simp only at hA hAl hAd
    refine ⟨⟨IntKind.i64.wrap (u - 1), ([] : List (List Fr))⟩, d2, by simp, fun x hx => .inr hx, hAd, ?_⟩
    unfold Dc.row at *
    unfold Th.toT
    refine spec_intro (env0 := [(0, _), (1, _)]) (st0 := [(_, some _)]) Try.func17 rfl rfl rfl rfl ?_
    repeat' (first | (with_reducible refine codeT_seq ?_) | (with_reducible refine codeT_block ?_) | (with_reducible refine codeT_ret ?_) | (with_reducible refine codeT_regionL ?_) | (with_reducible refine lx_nil ?_) | (with_reducible refine q_then ?_) | (with_reducible refine q_block ?_) | (exfalso; omega) | ((with_reducible refine g_move ?_); first | refine lx_move (r := (.ref _ _ _ _)) rfl rfl rfl rfl rfl ?_) | ((with_reducible refine g_load ?_); first | refine lx_load_varA (r := (.t (.agg _))) rfl rfl rfl rfl rfl rfl rfl rfl rfl ?_) | ((with_reducible refine g_fieldAddr ?_); first | refine lx_fieldAddr rfl rfl rfl rfl rfl rfl rfl ?_) | ((with_reducible refine g_binOp ?_); first | refine lx_arith rfl rfl rfl rfl rfl rfl rfl ?_) | ((with_reducible refine g_assign ?_); first | refine lx_assign (r := (.t _)) rfl rfl rfl rfl rfl ?_) | ((with_reducible refine g_box ?_); first | refine lx_box (r := (.t (.agg _))) (cs := (List.map .t _)) rfl rfl rfl rfl rfl rfl rfl rfl rfl ?_) | ((with_reducible refine g_alloc ?_); first | refine lx_alloc rfl rfl rfl rfl rfl rfl rfl ?_) | ((with_reducible refine g_store ?_); first | refine lx_store_var (r := (.t (.agg _))) rfl rfl rfl rfl rfl rfl rfl rfl rfl rfl ?_ | refine lx_store_var (r := (.t _)) rfl rfl rfl rfl rfl rfl rfl rfl rfl rfl ?_) | ((with_reducible refine g_call ?_); first | refine lx_call (r' := .t (.int .i64 v)) [] rfl rfl hN (ArgsLE.refl _) rfl ⟨rfl, trivial⟩ rfl rfl rfl rfl rfl rfl rfl rfl rfl rfl ?_ | refine lx_call (r' := .t (.int .i64 u)) [] rfl rfl hA (ArgsLE.refl _) rfl ⟨rfl, trivial⟩ rfl rfl rfl rfl rfl rfl rfl rfl rfl rfl ?_) | refine c_condP rfl (fun hc => ?_) (fun hc => ?_))
    all_goals try omega
    refine q_ret ?_ (stHas_spec ⟨rfl, trivial⟩); refine resT_cell rfl rfl rfl inferInstance rfl inferInstance rfl ?_; refine TLe.av ?_; first | exact TLe.refl _ | (refine TLe.agg (TLs.cons (TLe.refl _) (TLs.cons ?_ TLs.nil)); first | exact TLe.nil _ | exact TLe.slq _ _ | exact TLe.sl (TLs.cons (TLe.nil _) TLs.nil) | exact TLe.sl (TLs.append (TLs.refl _) (TLs.cons (TLe.nil _) TLs.nil)))
  by_cases v1 : v = 1
  · refine ⟨⟨n0, (([] : List (List Fr)) : List (List Fr)) ++ [[]]⟩, d1, leq _, old _ (by simp), hd1, ?_⟩
    have hT : (Th.mk n0 ([] ++ [[]])).toT = .agg [.int .i64 n0, .sl 1 [.sl 2 []]] := rfl
    rw [hT]
    unfold Dc.row at *
    refine spec_intro (env0 := [(0, _), (1, _)]) (st0 := [(_, some _)]) Try.func17 rfl rfl rfl rfl ?_
    repeat' (first | (with_reducible refine codeT_seq ?_) | (with_reducible refine codeT_block ?_) | (with_reducible refine codeT_ret ?_) | (with_reducible refine codeT_regionL ?_) | (with_reducible refine lx_nil ?_) | (with_reducible refine q_then ?_) | (with_reducible refine q_block ?_) | (exfalso; omega) | refine lx_buildSliceF rfl rfl rfl rfl rfl rfl ?_ | refine lx_append_nilF rfl rfl rfl rfl rfl rfl rfl ?_ ?_ ?_ | ((with_reducible refine g_move ?_); first | refine lx_move (r := (.ref _ _ _ _)) rfl rfl rfl rfl rfl ?_) | ((with_reducible refine g_load ?_); first | refine lx_load_var rfl rfl rfl rfl rfl rfl rfl rfl ?_ | refine lx_load_varA (r := (.t (.agg _))) rfl rfl rfl rfl rfl rfl rfl rfl rfl ?_) | ((with_reducible refine g_fieldAddr ?_); first | refine lx_fieldAddr rfl rfl rfl rfl rfl rfl rfl ?_) | ((with_reducible refine g_binOp ?_); first | refine lx_arith rfl rfl rfl rfl rfl rfl rfl ?_) | ((with_reducible refine g_assign ?_); first | refine lx_assign (r := (.t _)) rfl rfl rfl rfl rfl ?_) | ((with_reducible refine g_box ?_); first | refine lx_box (r := (.t (.agg _))) (cs := (List.map .t _)) rfl rfl rfl rfl rfl rfl rfl rfl rfl ?_) | ((with_reducible refine g_alloc ?_); first | refine lx_alloc rfl rfl rfl rfl rfl rfl rfl ?_) | ((with_reducible refine g_store ?_); first | refine lx_store_var (r := (.t (.agg _))) rfl rfl rfl rfl rfl rfl rfl rfl rfl rfl ?_ | refine lx_store_var (r := (.t _)) rfl rfl rfl rfl rfl rfl rfl rfl rfl rfl ?_) | ((with_reducible refine g_call ?_); first | refine lx_call (r' := .t (.int .i64 v)) [] rfl rfl hN (ArgsLE.refl _) rfl ⟨rfl, trivial⟩ rfl rfl rfl rfl rfl rfl rfl rfl rfl rfl ?_) | refine c_condP rfl (fun hc => ?_) (fun hc => ?_))
    all_goals try (simp only [List.length_map, List.length_cons, List.length_nil]; omega)
    all_goals try omega
    refine q_ret ?_ (stHas_spec ⟨rfl, trivial⟩); refine resT_cell rfl rfl rfl inferInstance rfl inferInstance rfl ?_; refine TLe.av ?_; first | exact TLe.refl _ | (refine TLe.agg (TLs.cons (TLe.refl _) (TLs.cons ?_ TLs.nil)); first | exact TLe.nil _ | exact TLe.slq _ _ | exact TLe.sl (TLs.cons (TLe.nil _) TLs.nil) | exact TLe.sl (TLs.append (TLs.refl _) (TLs.cons (TLe.nil _) TLs.nil)))
  by_cases v2 : v = 2
  · have hA := Next_spec d1 3 (by omega) hd1
    have hAl := d1.next_lt 3 (by omega)
    have hAd : (d1.next 3).2.l.length ≤ 1000 := by rw [Dc.next_l]; exact hd1
    generalize d1.next 3 = q at hA hAl hAd
    obtain ⟨u, d2⟩ := q
    simp only at hA hAl hAd
    have hB := Next_spec d2 3 (by omega) hAd
    have hBd : (d2.next 3).2.l.length ≤ 1000 := by rw [Dc.next_l]; exact hAd
    generalize d2.next 3 = q at hB hBd
    obtain ⟨u', d3⟩ := q
    simp only at hB hBd
    refine ⟨⟨n0, (([] : List (List Fr)) : List (List Fr)) ++ [[⟨u, u'⟩]]⟩, d3, leq _, old _ (by simp), hBd, ?_⟩
    have hT : (Th.mk n0 ([] ++ [[⟨u, u'⟩]])).toT = .agg [.int .i64 n0, .sl 1 [frs [⟨u, u'⟩]]] := rfl
    rw [hT]
    unfold Dc.row at *
    refine spec_intro (env0 := [(0, _), (1, _)]) (st0 := [(_, some _)]) Try.func17 rfl rfl rfl rfl ?_
    repeat' (first | (with_reducible refine codeT_seq ?_) | (with_reducible refine codeT_block ?_) | (with_reducible refine codeT_ret ?_) | (with_reducible refine codeT_regionL ?_) | ((with_reducible refine codeT_region_drawL ?_ ?_); · rfl) | (with_reducible refine lx_nil ?_) | (with_reducible refine q_then ?_) | (with_reducible refine q_block ?_) | ((with_reducible refine q_region_draw ?_ ?_); · rfl) | (exfalso; omega) | refine lx_buildSliceF rfl rfl rfl rfl rfl rfl ?_ | refine lx_append_nilF rfl rfl rfl rfl rfl rfl rfl ?_ ?_ ?_ | ((with_reducible refine g_move ?_); first | refine lx_move (r := (.ref _ _ _ _)) rfl rfl rfl rfl rfl ?_) | ((with_reducible refine g_load ?_); first | refine lx_load_var rfl rfl rfl rfl rfl rfl rfl rfl ?_ | refine lx_load_varA (r := (.t (.agg _))) rfl rfl rfl rfl rfl rfl rfl rfl rfl ?_) | ((with_reducible refine g_fieldAddr ?_); first | refine lx_fieldAddr rfl rfl rfl rfl rfl rfl rfl ?_) | ((with_reducible refine g_binOp ?_); first | refine lx_arith rfl rfl rfl rfl rfl rfl rfl ?_) | ((with_reducible refine g_assign ?_); first | refine lx_assign (r := (.t _)) rfl rfl rfl rfl rfl ?_) | ((with_reducible refine g_box ?_); first | refine lx_box (r := (.t (.agg _))) (cs := (List.map .t _)) rfl rfl rfl rfl rfl rfl rfl rfl rfl ?_) | ((with_reducible refine g_alloc ?_); first | refine lx_alloc rfl rfl rfl rfl rfl rfl rfl ?_) | ((with_reducible refine g_store ?_); first | refine lx_store_var (r := (.t (.agg _))) rfl rfl rfl rfl rfl rfl rfl rfl rfl rfl ?_ | refine lx_store_var (r := (.t _)) rfl rfl rfl rfl rfl rfl rfl rfl rfl rfl ?_) | ((with_reducible refine g_build ?_); first | refine lx_build (r := (.t (.agg _))) rfl rfl rfl rfl rfl rfl rfl ?_) | ((with_reducible refine g_call ?_); first | refine lx_call (r' := .t (.int .i64 v)) [] rfl rfl hN (ArgsLE.refl _) rfl ⟨rfl, trivial⟩ rfl rfl rfl rfl rfl rfl rfl rfl rfl rfl ?_ | refine lx_call (r' := .t (.int .i64 u)) [] rfl rfl hA (ArgsLE.refl _) rfl ⟨rfl, trivial⟩ rfl rfl rfl rfl rfl rfl rfl rfl rfl rfl ?_ | refine lx_call (r' := .t (.int .i64 u')) [] rfl rfl hB (ArgsLE.refl _) rfl ⟨rfl, trivial⟩ rfl rfl rfl rfl rfl rfl rfl rfl rfl rfl ?_) | refine c_condP rfl (fun hc => ?_) (fun hc => ?_))
    all_goals try (simp only [List.length_map, List.length_cons, List.length_nil]; omega)
    all_goals try omega
    refine q_ret ?_ (stHas_spec ⟨rfl, trivial⟩); refine resT_cell rfl rfl rfl inferInstance rfl inferInstance rfl ?_; refine TLe.av ?_; first | exact TLe.refl _ | (refine TLe.agg (TLs.cons (TLe.refl _) (TLs.cons ?_ TLs.nil)); first | exact TLe.nil _ | exact TLe.slq _ _ | exact TLe.sl (TLs.cons (TLe.nil _) TLs.nil) | exact TLe.sl (TLs.append (TLs.refl _) (TLs.cons (TLe.nil _) TLs.nil)))
  by_cases v3 : v = 3
  · have hA := Next_spec d1 5 (by omega) hd1
    have hAl := d1.next_lt 5 (by omega)
    have hAd : (d1.next 5).2.l.length ≤ 1000 := by rw [Dc.next_l]; exact hd1
    generalize d1.next 5 = q at hA hAl hAd
    obtain ⟨u, d2⟩ := q
    simp only at hA hAl hAd
    have h5 : fiveL.length = 5 := rfl
    refine ⟨⟨n0, (([] : List (List Fr)) : List (List Fr)) ++ [[⟨1, fiveL.getD u.toNat default⟩, ⟨1, 1⟩]]⟩, d2, leq _, old _ (by simp), hAd, ?_⟩
    have hT : (Th.mk n0 ([] ++ [[⟨1, fiveL.getD u.toNat default⟩, ⟨1, 1⟩]])).toT = .agg [.int .i64 n0, .sl 1 [frs [⟨1, fiveL.getD u.toNat default⟩, ⟨1, 1⟩]]] := rfl
    rw [hT]
    unfold Dc.row at *
    refine spec_intro (env0 := [(0, _), (1, _)]) (st0 := [(_, some _)]) Try.func17 rfl rfl rfl rfl ?_
    repeat' (first | (with_reducible refine codeT_seq ?_) | (with_reducible refine codeT_block ?_) | (with_reducible refine codeT_ret ?_) | (with_reducible refine codeT_regionL ?_) | ((with_reducible refine codeT_region_drawL ?_ ?_); · rfl) | (with_reducible refine lx_nil ?_) | (with_reducible refine q_then ?_) | (with_reducible refine q_block ?_) | ((with_reducible refine q_region_draw ?_ ?_); · rfl) | (exfalso; omega) | refine lx_buildSliceF (es := fiveL.map (T.int .i64)) rfl rfl rfl rfl rfl rfl ?_ | refine lx_buildSliceF rfl rfl rfl rfl rfl rfl ?_ | refine lx_append_nilF rfl rfl rfl rfl rfl rfl rfl ?_ ?_ ?_ | ((with_reducible refine g_move ?_); first | refine lx_move (r := (.ref _ _ _ _)) rfl rfl rfl rfl rfl ?_) | ((with_reducible refine g_load ?_); first | refine lx_load_var rfl rfl rfl rfl rfl rfl rfl rfl ?_ | refine lx_load_varA (r := (.t (.agg _))) rfl rfl rfl rfl rfl rfl rfl rfl rfl ?_ | refine lx_load_tp rfl rfl rfl rfl rfl rfl rfl ?_) | ((with_reducible refine g_fieldAddr ?_); first | refine lx_fieldAddr rfl rfl rfl rfl rfl rfl rfl ?_) | ((with_reducible refine g_binOp ?_); first | refine lx_arith rfl rfl rfl rfl rfl rfl rfl ?_) | ((with_reducible refine g_assign ?_); first | refine lx_assign (r := (.t _)) rfl rfl rfl rfl rfl ?_) | ((with_reducible refine g_box ?_); first | refine lx_box (r := (.t (.agg _))) (cs := (List.map .t _)) rfl rfl rfl rfl rfl rfl rfl rfl rfl ?_) | ((with_reducible refine g_alloc ?_); first | refine lx_alloc rfl rfl rfl rfl rfl rfl rfl ?_) | ((with_reducible refine g_store ?_); first | refine lx_store_var (r := (.t (.agg _))) rfl rfl rfl rfl rfl rfl rfl rfl rfl rfl ?_ | refine lx_store_var (r := (.t _)) rfl rfl rfl rfl rfl rfl rfl rfl rfl rfl ?_) | ((with_reducible refine g_indexAddr ?_); first | refine lx_indexAddr_map rfl rfl rfl rfl rfl rfl ?_ ?_ ?_) | ((with_reducible refine g_build ?_); first | refine lx_build (r := (.t (.agg _))) rfl rfl rfl rfl rfl rfl rfl ?_) | ((with_reducible refine g_call ?_); first | refine lx_call (r' := .t (.int .i64 v)) [] rfl rfl hN (ArgsLE.refl _) rfl ⟨rfl, trivial⟩ rfl rfl rfl rfl rfl rfl rfl rfl rfl rfl ?_ | refine lx_call (r' := .t (.int .i64 u)) [] rfl rfl hA (ArgsLE.refl _) rfl ⟨rfl, trivial⟩ rfl rfl rfl rfl rfl rfl rfl rfl rfl rfl ?_) | refine c_condP rfl (fun hc => ?_) (fun hc => ?_))
    all_goals try (simp only [List.length_map, List.length_cons, List.length_nil]; omega)
    all_goals try omega
    all_goals try (simp only [List.length_map]; omega)
    refine q_ret ?_ (stHas_spec ⟨rfl, trivial⟩); refine resT_cell rfl rfl rfl inferInstance rfl inferInstance rfl ?_; refine TLe.av ?_; first | exact TLe.refl _ | (refine TLe.agg (TLs.cons (TLe.refl _) (TLs.cons ?_ TLs.nil)); first | exact TLe.nil _ | exact TLe.slq _ _ | exact TLe.sl (TLs.cons (TLe.nil _) TLs.nil) | exact TLe.sl (TLs.append (TLs.refl _) (TLs.cons (TLe.nil _) TLs.nil)))
  by_cases v4 : v = 4
  · refine ⟨⟨n0, (([] : List (List Fr)) : List (List Fr)) ++ [[⟨2, 4⟩, ⟨1, 1⟩]]⟩, d1, leq _, old _ (by simp), hd1, ?_⟩
    have hT : (Th.mk n0 ([] ++ [[⟨2, 4⟩, ⟨1, 1⟩]])).toT = .agg [.int .i64 n0, .sl 1 [frs [⟨2, 4⟩, ⟨1, 1⟩]]] := rfl
    rw [hT]
    unfold Dc.row at *
    refine spec_intro (env0 := [(0, _), (1, _)]) (st0 := [(_, some _)]) Try.func17 rfl rfl rfl rfl ?_
    repeat' (first | (with_reducible refine codeT_seq ?_) | (with_reducible refine codeT_block ?_) | (with_reducible refine codeT_skip ?_) | (with_reducible refine codeT_ret ?_) | (with_reducible refine codeT_regionL ?_) | ((with_reducible refine codeT_region_drawL ?_ ?_); · rfl) | (with_reducible refine lx_nil ?_) | (with_reducible refine q_then ?_) | (with_reducible refine q_block ?_) | (exfalso; omega) | refine lx_buildSliceF rfl rfl rfl rfl rfl rfl ?_ | refine lx_append_nilF rfl rfl rfl rfl rfl rfl rfl ?_ ?_ ?_ | ((with_reducible refine g_move ?_); first | refine lx_move (r := (.ref _ _ _ _)) rfl rfl rfl rfl rfl ?_) | ((with_reducible refine g_load ?_); first | refine lx_load_var rfl rfl rfl rfl rfl rfl rfl rfl ?_ | refine lx_load_varA (r := (.t (.agg _))) rfl rfl rfl rfl rfl rfl rfl rfl rfl ?_) | ((with_reducible refine g_fieldAddr ?_); first | refine lx_fieldAddr rfl rfl rfl rfl rfl rfl rfl ?_) | ((with_reducible refine g_binOp ?_); first | refine lx_arith rfl rfl rfl rfl rfl rfl rfl ?_) | ((with_reducible refine g_assign ?_); first | refine lx_assign (r := (.t _)) rfl rfl rfl rfl rfl ?_) | ((with_reducible refine g_box ?_); first | refine lx_box (r := (.t (.agg _))) (cs := (List.map .t _)) rfl rfl rfl rfl rfl rfl rfl rfl rfl ?_) | ((with_reducible refine g_alloc ?_); first | refine lx_alloc rfl rfl rfl rfl rfl rfl rfl ?_) | ((with_reducible refine g_store ?_); first | refine lx_store_var (r := (.t (.agg _))) rfl rfl rfl rfl rfl rfl rfl rfl rfl rfl ?_ | refine lx_store_var (r := (.t _)) rfl rfl rfl rfl rfl rfl rfl rfl rfl rfl ?_) | ((with_reducible refine g_build ?_); first | refine lx_build (r := (.t (.agg _))) rfl rfl rfl rfl rfl rfl rfl ?_) | ((with_reducible refine g_call ?_); first | refine lx_call (r' := .t (.int .i64 v)) [] rfl rfl hN (ArgsLE.refl _) rfl ⟨rfl, trivial⟩ rfl rfl rfl rfl rfl rfl rfl rfl rfl rfl ?_) | refine c_condP rfl (fun hc => ?_) (fun hc => ?_))
    all_goals try (simp only [List.length_map, List.length_cons, List.length_nil]; omega)
    all_goals try omega
    refine q_ret ?_ (stHas_spec ⟨rfl, trivial⟩); refine resT_cell rfl rfl rfl inferInstance rfl inferInstance rfl ?_; refine TLe.av ?_; first | exact TLe.refl _ | (refine TLe.agg (TLs.cons (TLe.refl _) (TLs.cons ?_ TLs.nil)); first | exact TLe.nil _ | exact TLe.slq _ _ | exact TLe.sl (TLs.cons (TLe.nil _) TLs.nil) | exact TLe.sl (TLs.append (TLs.refl _) (TLs.cons (TLe.nil _) TLs.nil)))
  refine ⟨⟨n0, ([] : List (List Fr))⟩, d1, by simp, fun x hx => .inr hx, hd1, ?_⟩
  unfold Dc.row at *
  unfold Th.toT
  refine spec_intro (env0 := [(0, _), (1, _)]) (st0 := [(_, some _)]) Try.func17 rfl rfl rfl rfl ?_
  repeat' (first | (with_reducible refine codeT_seq ?_) | (with_reducible refine codeT_block ?_) | (with_reducible refine codeT_skip ?_) | (with_reducible refine codeT_ret ?_) | (with_reducible refine codeT_regionL ?_) | ((with_reducible refine codeT_region_drawL ?_ ?_); · rfl) | (with_reducible refine lx_nil ?_) | (with_reducible refine q_then ?_) | (with_reducible refine q_block ?_) | (exfalso; omega) | ((with_reducible refine g_move ?_); first | refine lx_move (r := (.ref _ _ _ _)) rfl rfl rfl rfl rfl ?_) | ((with_reducible refine g_load ?_); first | refine lx_load_varA (r := (.t (.agg _))) rfl rfl rfl rfl rfl rfl rfl rfl rfl ?_) | ((with_reducible refine g_binOp ?_); first | refine lx_arith rfl rfl rfl rfl rfl rfl rfl ?_) | ((with_reducible refine g_assign ?_); first | refine lx_assign (r := (.t _)) rfl rfl rfl rfl rfl ?_) | ((with_reducible refine g_box ?_); first | refine lx_box (r := (.t (.agg _))) (cs := (List.map .t _)) rfl rfl rfl rfl rfl rfl rfl rfl rfl ?_) | ((with_reducible refine g_alloc ?_); first | refine lx_alloc rfl rfl rfl rfl rfl rfl rfl ?_) | ((with_reducible refine g_store ?_); first | refine lx_store_var (r := (.t (.agg _))) rfl rfl rfl rfl rfl rfl rfl rfl rfl rfl ?_) | ((with_reducible refine g_call ?_); first | refine lx_call (r' := .t (.int .i64 v)) [] rfl rfl hN (ArgsLE.refl _) rfl ⟨rfl, trivial⟩ rfl rfl rfl rfl rfl rfl rfl rfl rfl rfl ?_) | refine c_condP rfl (fun hc => ?_) (fun hc => ?_))
  refine q_ret ?_ (stHas_spec ⟨rfl, trivial⟩); refine resT_cell rfl rfl rfl inferInstance rfl inferInstance rfl ?_; refine TLe.av ?_; first | exact TLe.refl _ | (refine TLe.agg (TLs.cons (TLe.refl _) (TLs.cons ?_ TLs.nil)); first | exact TLe.nil _ | exact TLe.slq _ _ | exact TLe.sl (TLs.cons (TLe.nil _) TLs.nil) | exact TLe.sl (TLs.append (TLs.refl _) (TLs.cons (TLe.nil _) TLs.nil)))
set_option maxHeartbeats 8000000 in
theorem odd_cons (d0 : Dc) (n0 : Int) (l : List Fr) (w : List (List Fr)) (hd0 : d0.l.length ≤ 1000) (hw : w.length ≤ 100) : ∃ (y : Th) (d1 : Dc), y.w.length ≤ (l :: w).length + 1 ∧ (∀ x ∈ y.w, x.length ≤ 2 ∨ x ∈ (l :: w : List (List Fr))) ∧ d1.l.length ≤ 1000 ∧ Spec Try.prog 17 [.ref (.par 0) 0 0 0, .t (Th.mk n0 (l :: w)).toQ] [(.par 0, d0.row)] (.t y.toT) [(.par 0, d1.row)] := by
  have hN := Next_spec d0 8 (by omega) hd0
  have hl := d0.next_lt 8 (by omega)
  have hd1 : (d0.next 8).2.l.length ≤ 1000 := by rw [Dc.next_l]; exact hd0
  generalize d0.next 8 = q at hN hl hd1
  obtain ⟨v, d1⟩ := q
  simp only at hN hl hd1
  have old : ∀ z : List Fr, z.length ≤ 2 → ∀ x ∈ (l :: w : List (List Fr)) ++ [z], x.length ≤ 2 ∨ x ∈ (l :: w : List (List Fr)) := fun z hz x hx => by
    rcases List.mem_append.1 hx with h | h
    · exact .inr h
    · rw [List.mem_singleton.1 h]; exact .inl hz
  have leq : ∀ z : List Fr, ((l :: w : List (List Fr)) ++ [z]).length ≤ (l :: w : List (List Fr)).length + 1 := fun z => by simp
  have hQ : (Th.mk n0 (l :: w)).toQ = .agg [.int .i64 n0, .slq 1 ((l :: w).map frs)] := rfl
  rw [hQ]
  by_cases v0 : v = 0
  · have hA := Next_spec d1 11 (by omega) hd1
    have hAl := d1.next_lt 11 (by omega)
    have hAd : (d1.next 11).2.l.length ≤ 1000 := by rw [Dc.next_l]; exact hd1
    generalize d1.next 11 = q at hA hAl hAd
    obtain ⟨u, d2⟩ := q
    simp only at hA hAl hAd
    refine ⟨⟨IntKind.i64.wrap (u - 1), l :: w⟩, d2, by simp, fun x hx => .inr hx, hAd, ?_⟩
    unfold Dc.row at *
    unfold Th.toT
    refine spec_intro (env0 := [(0, _), (1, _)]) (st0 := [(_, some _)]) Try.func17 rfl rfl rfl rfl ?_
    repeat' (first | (with_reducible refine codeT_seq ?_) | (with_reducible refine codeT_block ?_) | (with_reducible refine codeT_ret ?_) | (with_reducible refine codeT_regionL ?_) | (with_reducible refine lx_nil ?_) | (with_reducible refine q_then ?_) | (with_reducible refine q_block ?_) | (exfalso; omega) | ((with_reducible refine g_move ?_); first | refine lx_move (r := (.ref _ _ _ _)) rfl rfl rfl rfl rfl ?_) | ((with_reducible refine g_load ?_); first | refine lx_load_varA (r := (.t (.agg _))) rfl rfl rfl rfl rfl rfl rfl rfl rfl ?_) | ((with_reducible refine g_fieldAddr ?_); first | refine lx_fieldAddr rfl rfl rfl rfl rfl rfl rfl ?_) | ((with_reducible refine g_binOp ?_); first | refine lx_arith rfl rfl rfl rfl rfl rfl rfl ?_) | ((with_reducible refine g_assign ?_); first | refine lx_assign (r := (.t _)) rfl rfl rfl rfl rfl ?_) | ((with_reducible refine g_box ?_); first | refine lx_box (r := (.t (.agg _))) (cs := (List.map .t _)) rfl rfl rfl rfl rfl rfl rfl rfl rfl ?_) | ((with_reducible refine g_alloc ?_); first | refine lx_alloc rfl rfl rfl rfl rfl rfl rfl ?_) | ((with_reducible refine g_store ?_); first | refine lx_store_var (r := (.t (.agg _))) rfl rfl rfl rfl rfl rfl rfl rfl rfl rfl ?_ | refine lx_store_var (r := (.t _)) rfl rfl rfl rfl rfl rfl rfl rfl rfl rfl ?_) | ((with_reducible refine g_call ?_); first | refine lx_call (r' := .t (.int .i64 v)) [] rfl rfl hN (ArgsLE.refl _) rfl ⟨rfl, trivial⟩ rfl rfl rfl rfl rfl rfl rfl rfl rfl rfl ?_ | refine lx_call (r' := .t (.int .i64 u)) [] rfl rfl hA (ArgsLE.refl _) rfl ⟨rfl, trivial⟩ rfl rfl rfl rfl rfl rfl rfl rfl rfl rfl ?_) | refine c_condP rfl (fun hc => ?_) (fun hc => ?_))
    all_goals try omega
    refine q_ret ?_ (stHas_spec ⟨rfl, trivial⟩); refine resT_cell rfl rfl rfl inferInstance rfl inferInstance rfl ?_; refine TLe.av ?_; first | exact TLe.refl _ | (refine TLe.agg (TLs.cons (TLe.refl _) (TLs.cons ?_ TLs.nil)); first | exact TLe.nil _ | exact TLe.slq _ _ | exact TLe.sl (TLs.cons (TLe.nil _) TLs.nil) | exact TLe.sl (TLs.append (TLs.refl _) (TLs.cons (TLe.nil _) TLs.nil)))
  by_cases v1 : v = 1
  · refine ⟨⟨n0, (l :: w : List (List Fr)) ++ [[]]⟩, d1, leq _, old _ (by simp), hd1, ?_⟩
    have hT : (Th.mk n0 ((l :: w) ++ [[]])).toT = .agg [.int .i64 n0, .sl 1 ((l :: w).map frs ++ [.sl 2 []])] := by unfold Th.toT; rw [List.map_append]; rfl
    rw [hT]
    unfold Dc.row at *
    refine spec_intro (env0 := [(0, _), (1, _)]) (st0 := [(_, some _)]) Try.func17 rfl rfl rfl rfl ?_
    repeat' (first | (with_reducible refine codeT_seq ?_) | (with_reducible refine codeT_block ?_) | (with_reducible refine codeT_ret ?_) | (with_reducible refine codeT_regionL ?_) | (with_reducible refine lx_nil ?_) | (with_reducible refine q_then ?_) | (with_reducible refine q_block ?_) | (exfalso; omega) | refine lx_buildSliceF rfl rfl rfl rfl rfl rfl ?_ | refine lx_append_slqF rfl rfl rfl rfl rfl rfl rfl ?_ ?_ ?_ ?_ | ((with_reducible refine g_move ?_); first | refine lx_move (r := (.ref _ _ _ _)) rfl rfl rfl rfl rfl ?_) | ((with_reducible refine g_load ?_); first | refine lx_load_var rfl rfl rfl rfl rfl rfl rfl rfl ?_ | refine lx_load_varA (r := (.t (.agg _))) rfl rfl rfl rfl rfl rfl rfl rfl rfl ?_) | ((with_reducible refine g_fieldAddr ?_); first | refine lx_fieldAddr rfl rfl rfl rfl rfl rfl rfl ?_) | ((with_reducible refine g_binOp ?_); first | refine lx_arith rfl rfl rfl rfl rfl rfl rfl ?_) | ((with_reducible refine g_assign ?_); first | refine lx_assign (r := (.t _)) rfl rfl rfl rfl rfl ?_) | ((with_reducible refine g_box ?_); first | refine lx_box (r := (.t (.agg _))) (cs := (List.map .t _)) rfl rfl rfl rfl rfl rfl rfl rfl rfl ?_) | ((with_reducible refine g_alloc ?_); first | refine lx_alloc rfl rfl rfl rfl rfl rfl rfl ?_) | ((with_reducible refine g_store ?_); first | refine lx_store_var (r := (.t (.agg _))) rfl rfl rfl rfl rfl rfl rfl rfl rfl rfl ?_ | refine lx_store_var (r := (.t _)) rfl rfl rfl rfl rfl rfl rfl rfl rfl rfl ?_) | ((with_reducible refine g_call ?_); first | refine lx_call (r' := .t (.int .i64 v)) [] rfl rfl hN (ArgsLE.refl _) rfl ⟨rfl, trivial⟩ rfl rfl rfl rfl rfl rfl rfl rfl rfl rfl ?_) | refine c_condP rfl (fun hc => ?_) (fun hc => ?_))
    all_goals try (simp only [List.length_map, List.length_cons, List.length_nil]; omega)
    all_goals try omega
    refine q_ret ?_ (stHas_spec ⟨rfl, trivial⟩); refine resT_cell rfl rfl rfl inferInstance rfl inferInstance rfl ?_; refine TLe.av ?_; first | exact TLe.refl _ | (refine TLe.agg (TLs.cons (TLe.refl _) (TLs.cons ?_ TLs.nil)); first | exact TLe.nil _ | exact TLe.slq _ _ | exact TLe.sl (TLs.cons (TLe.nil _) TLs.nil) | exact TLe.sl (TLs.append (TLs.refl _) (TLs.cons (TLe.nil _) TLs.nil)))
  by_cases v2 : v = 2
  · have hA := Next_spec d1 3 (by omega) hd1
    have hAl := d1.next_lt 3 (by omega)
    have hAd : (d1.next 3).2.l.length ≤ 1000 := by rw [Dc.next_l]; exact hd1
    generalize d1.next 3 = q at hA hAl hAd
    obtain ⟨u, d2⟩ := q
    simp only at hA hAl hAd
    have hB := Next_spec d2 3 (by omega) hAd
    have hBd : (d2.next 3).2.l.length ≤ 1000 := by rw [Dc.next_l]; exact hAd
    generalize d2.next 3 = q at hB hBd
    obtain ⟨u', d3⟩ := q
    simp only at hB hBd
    refine ⟨⟨n0, (l :: w : List (List Fr)) ++ [[⟨u, u'⟩]]⟩, d3, leq _, old _ (by simp), hBd, ?_⟩
    have hT : (Th.mk n0 ((l :: w) ++ [[⟨u, u'⟩]])).toT = .agg [.int .i64 n0, .sl 1 ((l :: w).map frs ++ [frs [⟨u, u'⟩]])] := by unfold Th.toT; rw [List.map_append]; rfl
    rw [hT]
    unfold Dc.row at *
    refine spec_intro (env0 := [(0, _), (1, _)]) (st0 := [(_, some _)]) Try.func17 rfl rfl rfl rfl ?_
    repeat' (first | (with_reducible refine codeT_seq ?_) | (with_reducible refine codeT_block ?_) | (with_reducible refine codeT_ret ?_) | (with_reducible refine codeT_regionL ?_) | ((with_reducible refine codeT_region_drawL ?_ ?_); · rfl) | (with_reducible refine lx_nil ?_) | (with_reducible refine q_then ?_) | (with_reducible refine q_block ?_) | ((with_reducible refine q_region_draw ?_ ?_); · rfl) | (exfalso; omega) | refine lx_buildSliceF rfl rfl rfl rfl rfl rfl ?_ | refine lx_append_slqF rfl rfl rfl rfl rfl rfl rfl ?_ ?_ ?_ ?_ | ((with_reducible refine g_move ?_); first | refine lx_move (r := (.ref _ _ _ _)) rfl rfl rfl rfl rfl ?_) | ((with_reducible refine g_load ?_); first | refine lx_load_var rfl rfl rfl rfl rfl rfl rfl rfl ?_ | refine lx_load_varA (r := (.t (.agg _))) rfl rfl rfl rfl rfl rfl rfl rfl rfl ?_) | ((with_reducible refine g_fieldAddr ?_); first | refine lx_fieldAddr rfl rfl rfl rfl rfl rfl rfl ?_) | ((with_reducible refine g_binOp ?_); first | refine lx_arith rfl rfl rfl rfl rfl rfl rfl ?_) | ((with_reducible refine g_assign ?_); first | refine lx_assign (r := (.t _)) rfl rfl rfl rfl rfl ?_) | ((with_reducible refine g_box ?_); first | refine lx_box (r := (.t (.agg _))) (cs := (List.map .t _)) rfl rfl rfl rfl rfl rfl rfl rfl rfl ?_) | ((with_reducible refine g_alloc ?_); first | refine lx_alloc rfl rfl rfl rfl rfl rfl rfl ?_) | ((with_reducible refine g_store ?_); first | refine lx_store_var (r := (.t (.agg _))) rfl rfl rfl rfl rfl rfl rfl rfl rfl rfl ?_ | refine lx_store_var (r := (.t _)) rfl rfl rfl rfl rfl rfl rfl rfl rfl rfl ?_) | ((with_reducible refine g_build ?_); first | refine lx_build (r := (.t (.agg _))) rfl rfl rfl rfl rfl rfl rfl ?_) | ((with_reducible refine g_call ?_); first | refine lx_call (r' := .t (.int .i64 v)) [] rfl rfl hN (ArgsLE.refl _) rfl ⟨rfl, trivial⟩ rfl rfl rfl rfl rfl rfl rfl rfl rfl rfl ?_ | refine lx_call (r' := .t (.int .i64 u)) [] rfl rfl hA (ArgsLE.refl _) rfl ⟨rfl, trivial⟩ rfl rfl rfl rfl rfl rfl rfl rfl rfl rfl ?_ | refine lx_call (r' := .t (.int .i64 u')) [] rfl rfl hB (ArgsLE.refl _) rfl ⟨rfl, trivial⟩ rfl rfl rfl rfl rfl rfl rfl rfl rfl rfl ?_) | refine c_condP rfl (fun hc => ?_) (fun hc => ?_))
    all_goals try (simp only [List.length_map, List.length_cons, List.length_nil]; omega)
    all_goals try omega
    refine q_ret ?_ (stHas_spec ⟨rfl, trivial⟩); refine resT_cell rfl rfl rfl inferInstance rfl inferInstance rfl ?_; refine TLe.av ?_; first | exact TLe.refl _ | (refine TLe.agg (TLs.cons (TLe.refl _) (TLs.cons ?_ TLs.nil)); first | exact TLe.nil _ | exact TLe.slq _ _ | exact TLe.sl (TLs.cons (TLe.nil _) TLs.nil) | exact TLe.sl (TLs.append (TLs.refl _) (TLs.cons (TLe.nil _) TLs.nil)))
  by_cases v3 : v = 3
  · have hA := Next_spec d1 5 (by omega) hd1
    have hAl := d1.next_lt 5 (by omega)
    have hAd : (d1.next 5).2.l.length ≤ 1000 := by rw [Dc.next_l]; exact hd1
    generalize d1.next 5 = q at hA hAl hAd
    obtain ⟨u, d2⟩ := q
    simp only at hA hAl hAd
    have h5 : fiveL.length = 5 := rfl
    refine ⟨⟨n0, (l :: w : List (List Fr)) ++ [[⟨1, fiveL.getD u.toNat default⟩, ⟨1, 1⟩]]⟩, d2, leq _, old _ (by simp), hAd, ?_⟩
    have hT : (Th.mk n0 ((l :: w) ++ [[⟨1, fiveL.getD u.toNat default⟩, ⟨1, 1⟩]])).toT = .agg [.int .i64 n0, .sl 1 ((l :: w).map frs ++ [frs [⟨1, fiveL.getD u.toNat default⟩, ⟨1, 1⟩]])] := by unfold Th.toT; rw [List.map_append]; rfl
    rw [hT]
    unfold Dc.row at *
    refine spec_intro (env0 := [(0, _), (1, _)]) (st0 := [(_, some _)]) Try.func17 rfl rfl rfl rfl ?_
    repeat' (first | (with_reducible refine codeT_seq ?_) | (with_reducible refine codeT_block ?_) | (with_reducible refine codeT_ret ?_) | (with_reducible refine codeT_regionL ?_) | ((with_reducible refine codeT_region_drawL ?_ ?_); · rfl) | (with_reducible refine lx_nil ?_) | (with_reducible refine q_then ?_) | (with_reducible refine q_block ?_) | ((with_reducible refine q_region_draw ?_ ?_); · rfl) | (exfalso; omega) | refine lx_buildSliceF (es := fiveL.map (T.int .i64)) rfl rfl rfl rfl rfl rfl ?_ | refine lx_buildSliceF rfl rfl rfl rfl rfl rfl ?_ | refine lx_append_slqF rfl rfl rfl rfl rfl rfl rfl ?_ ?_ ?_ ?_ | ((with_reducible refine g_move ?_); first | refine lx_move (r := (.ref _ _ _ _)) rfl rfl rfl rfl rfl ?_) | ((with_reducible refine g_load ?_); first | refine lx_load_var rfl rfl rfl rfl rfl rfl rfl rfl ?_ | refine lx_load_varA (r := (.t (.agg _))) rfl rfl rfl rfl rfl rfl rfl rfl rfl ?_ | refine lx_load_tp rfl rfl rfl rfl rfl rfl rfl ?_) | ((with_reducible refine g_fieldAddr ?_); first | refine lx_fieldAddr rfl rfl rfl rfl rfl rfl rfl ?_) | ((with_reducible refine g_binOp ?_); first | refine lx_arith rfl rfl rfl rfl rfl rfl rfl ?_) | ((with_reducible refine g_assign ?_); first | refine lx_assign (r := (.t _)) rfl rfl rfl rfl rfl ?_) | ((with_reducible refine g_box ?_); first | refine lx_box (r := (.t (.agg _))) (cs := (List.map .t _)) rfl rfl rfl rfl rfl rfl rfl rfl rfl ?_) | ((with_reducible refine g_alloc ?_); first | refine lx_alloc rfl rfl rfl rfl rfl rfl rfl ?_) | ((with_reducible refine g_store ?_); first | refine lx_store_var (r := (.t (.agg _))) rfl rfl rfl rfl rfl rfl rfl rfl rfl rfl ?_ | refine lx_store_var (r := (.t _)) rfl rfl rfl rfl rfl rfl rfl rfl rfl rfl ?_) | ((with_reducible refine g_indexAddr ?_); first | refine lx_indexAddr_map rfl rfl rfl rfl rfl rfl ?_ ?_ ?_) | ((with_reducible refine g_build ?_); first | refine lx_build (r := (.t (.agg _))) rfl rfl rfl rfl rfl rfl rfl ?_) | ((with_reducible refine g_call ?_); first | refine lx_call (r' := .t (.int .i64 v)) [] rfl rfl hN (ArgsLE.refl _) rfl ⟨rfl, trivial⟩ rfl rfl rfl rfl rfl rfl rfl rfl rfl rfl ?_ | refine lx_call (r' := .t (.int .i64 u)) [] rfl rfl hA (ArgsLE.refl _) rfl ⟨rfl, trivial⟩ rfl rfl rfl rfl rfl rfl rfl rfl rfl rfl ?_) | refine c_condP rfl (fun hc => ?_) (fun hc => ?_))
    all_goals try (simp only [List.length_map, List.length_cons, List.length_nil]; omega)
    all_goals try omega
    all_goals try (simp only [List.length_map]; omega)
    refine q_ret ?_ (stHas_spec ⟨rfl, trivial⟩); refine resT_cell rfl rfl rfl inferInstance rfl inferInstance rfl ?_; refine TLe.av ?_; first | exact TLe.refl _ | (refine TLe.agg (TLs.cons (TLe.refl _) (TLs.cons ?_ TLs.nil)); first | exact TLe.nil _ | exact TLe.slq _ _ | exact TLe.sl (TLs.cons (TLe.nil _) TLs.nil) | exact TLe.sl (TLs.append (TLs.refl _) (TLs.cons (TLe.nil _) TLs.nil)))
  by_cases v4 : v = 4
  · refine ⟨⟨n0, (l :: w : List (List Fr)) ++ [[⟨2, 4⟩, ⟨1, 1⟩]]⟩, d1, leq _, old _ (by simp), hd1, ?_⟩
    have hT : (Th.mk n0 ((l :: w) ++ [[⟨2, 4⟩, ⟨1, 1⟩]])).toT = .agg [.int .i64 n0, .sl 1 ((l :: w).map frs ++ [frs [⟨2, 4⟩, ⟨1, 1⟩]])] := by unfold Th.toT; rw [List.map_append]; rfl
    rw [hT]
    unfold Dc.row at *
    refine spec_intro (env0 := [(0, _), (1, _)]) (st0 := [(_, some _)]) Try.func17 rfl rfl rfl rfl ?_
    repeat' (first | (with_reducible refine codeT_seq ?_) | (with_reducible refine codeT_block ?_) | (with_reducible refine codeT_skip ?_) | (with_reducible refine codeT_ret ?_) | (with_reducible refine codeT_regionL ?_) | ((with_reducible refine codeT_region_drawL ?_ ?_); · rfl) | (with_reducible refine lx_nil ?_) | (with_reducible refine q_then ?_) | (with_reducible refine q_block ?_) | (exfalso; omega) | refine lx_buildSliceF rfl rfl rfl rfl rfl rfl ?_ | refine lx_append_slqF rfl rfl rfl rfl rfl rfl rfl ?_ ?_ ?_ ?_ | ((with_reducible refine g_move ?_); first | refine lx_move (r := (.ref _ _ _ _)) rfl rfl rfl rfl rfl ?_) | ((with_reducible refine g_load ?_); first | refine lx_load_var rfl rfl rfl rfl rfl rfl rfl rfl ?_ | refine lx_load_varA (r := (.t (.agg _))) rfl rfl rfl rfl rfl rfl rfl rfl rfl ?_) | ((with_reducible refine g_fieldAddr ?_); first | refine lx_fieldAddr rfl rfl rfl rfl rfl rfl rfl ?_) | ((with_reducible refine g_binOp ?_); first | refine lx_arith rfl rfl rfl rfl rfl rfl rfl ?_) | ((with_reducible refine g_assign ?_); first | refine lx_assign (r := (.t _)) rfl rfl rfl rfl rfl ?_) | ((with_reducible refine g_box ?_); first | refine lx_box (r := (.t (.agg _))) (cs := (List.map .t _)) rfl rfl rfl rfl rfl rfl rfl rfl rfl ?_) | ((with_reducible refine g_alloc ?_); first | refine lx_alloc rfl rfl rfl rfl rfl rfl rfl ?_) | ((with_reducible refine g_store ?_); first | refine lx_store_var (r := (.t (.agg _))) rfl rfl rfl rfl rfl rfl rfl rfl rfl rfl ?_ | refine lx_store_var (r := (.t _)) rfl rfl rfl rfl rfl rfl rfl rfl rfl rfl ?_) | ((with_reducible refine g_build ?_); first | refine lx_build (r := (.t (.agg _))) rfl rfl rfl rfl rfl rfl rfl ?_) | ((with_reducible refine g_call ?_); first | refine lx_call (r' := .t (.int .i64 v)) [] rfl rfl hN (ArgsLE.refl _) rfl ⟨rfl, trivial⟩ rfl rfl rfl rfl rfl rfl rfl rfl rfl rfl ?_) | refine c_condP rfl (fun hc => ?_) (fun hc => ?_))
    all_goals try (simp only [List.length_map, List.length_cons, List.length_nil]; omega)
    all_goals try omega
    refine q_ret ?_ (stHas_spec ⟨rfl, trivial⟩); refine resT_cell rfl rfl rfl inferInstance rfl inferInstance rfl ?_; refine TLe.av ?_; first | exact TLe.refl _ | (refine TLe.agg (TLs.cons (TLe.refl _) (TLs.cons ?_ TLs.nil)); first | exact TLe.nil _ | exact TLe.slq _ _ | exact TLe.sl (TLs.cons (TLe.nil _) TLs.nil) | exact TLe.sl (TLs.append (TLs.refl _) (TLs.cons (TLe.nil _) TLs.nil)))
  refine ⟨⟨n0, l :: w⟩, d1, by simp, fun x hx => .inr hx, hd1, ?_⟩
  unfold Dc.row at *
  unfold Th.toT
  refine spec_intro (env0 := [(0, _), (1, _)]) (st0 := [(_, some _)]) Try.func17 rfl rfl rfl rfl ?_
  repeat' (first | (with_reducible refine codeT_seq ?_) | (with_reducible refine codeT_block ?_) | (with_reducible refine codeT_skip ?_) | (with_reducible refine codeT_ret ?_) | (with_reducible refine codeT_regionL ?_) | ((with_reducible refine codeT_region_drawL ?_ ?_); · rfl) | (with_reducible refine lx_nil ?_) | (with_reducible refine q_then ?_) | (with_reducible refine q_block ?_) | (exfalso; omega) | ((with_reducible refine g_move ?_); first | refine lx_move (r := (.ref _ _ _ _)) rfl rfl rfl rfl rfl ?_) | ((with_reducible refine g_load ?_); first | refine lx_load_varA (r := (.t (.agg _))) rfl rfl rfl rfl rfl rfl rfl rfl rfl ?_) | ((with_reducible refine g_binOp ?_); first | refine lx_arith rfl rfl rfl rfl rfl rfl rfl ?_) | ((with_reducible refine g_assign ?_); first | refine lx_assign (r := (.t _)) rfl rfl rfl rfl rfl ?_) | ((with_reducible refine g_box ?_); first | refine lx_box (r := (.t (.agg _))) (cs := (List.map .t _)) rfl rfl rfl rfl rfl rfl rfl rfl rfl ?_) | ((with_reducible refine g_alloc ?_); first | refine lx_alloc rfl rfl rfl rfl rfl rfl rfl ?_) | ((with_reducible refine g_store ?_); first | refine lx_store_var (r := (.t (.agg _))) rfl rfl rfl rfl rfl rfl rfl rfl rfl rfl ?_) | ((with_reducible refine g_call ?_); first | refine lx_call (r' := .t (.int .i64 v)) [] rfl rfl hN (ArgsLE.refl _) rfl ⟨rfl, trivial⟩ rfl rfl rfl rfl rfl rfl rfl rfl rfl rfl ?_) | refine c_condP rfl (fun hc => ?_) (fun hc => ?_))
  refine q_ret ?_ (stHas_spec ⟨rfl, trivial⟩); refine resT_cell rfl rfl rfl inferInstance rfl inferInstance rfl ?_; refine TLe.av ?_; first | exact TLe.refl _ | (refine TLe.agg (TLs.cons (TLe.refl _) (TLs.cons ?_ TLs.nil)); first | exact TLe.nil _ | exact TLe.slq _ _ | exact TLe.sl (TLs.cons (TLe.nil _) TLs.nil) | exact TLe.sl (TLs.append (TLs.refl _) (TLs.cons (TLe.nil _) TLs.nil)))
theorem odd_spec (d0 : Dc) (t : Th) (hd0 : d0.l.length ≤ 1000) (hw : t.w.length ≤ 100) : ∃ (y : Th) (d1 : Dc), y.w.length ≤ t.w.length + 1 ∧ (∀ x ∈ y.w, x.length ≤ 2 ∨ x ∈ t.w) ∧ d1.l.length ≤ 1000 ∧ Spec Try.prog 17 [.ref (.par 0) 0 0 0, .t t.toQ] [(.par 0, d0.row)] (.t y.toT) [(.par 0, d1.row)] := by
  obtain ⟨n0, w⟩ := t
  cases w with
  | nil => exact odd_nil d0 n0 hd0
  | cons l w => exact odd_cons d0 n0 l w hd0 (by simp only [List.length_cons] at hw; omega)
end Go.AL
