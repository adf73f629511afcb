/- ThresholdSums: the law's walk. -/
import Derived.Test.YtkfjchmmhabocaaThd
import Derived.Test.YtkfjchmmhabocaaThp
import Derived.Test.YtkfjchmmhabocaaAl4
set_option linter.unusedVariables false
namespace Go.AL
open Go Go.Proofs Go.RowKit

theorem eq38a : Try.prog.stoodInHeld 38 = false := by kernel_rfl
theorem eq38b : Try.prog.eqGuardType Try.prog.depth 38 = false := by kernel_rfl
theorem eq38 : eq1B Try.prog 38 = true := by unfold eq1B; rw [eq38a, eq38b]; rfl
theorem flat38 (a b a' b' : Int) : FlatE Try.prog [{ name := "Num", type := 3, offset := 0, embedded := false, tag := "", pkgPath := "", byteOffset := 0 }, { name := "Den", type := 3, offset := 1, embedded := false, tag := "", pkgPath := "", byteOffset := 8 }] 0 [.int .i64 a, .int .i64 b] [.int .i64 a', .int .i64 b'] :=
  ⟨by decide, rfl, Try.underlying3, Try.underlying3, by decide, rfl, Try.underlying3, Try.underlying3, trivial⟩
theorem fr_eq (a b : Int) : tEqs [.int .i64 a, .int .i64 b] [.int .i64 a, .int .i64 b] = true := tEqs_refl (flat38 a b a b)
theorem rowLE_of_eq {r r' : Row} (e : r = r') : RowLE r r' := by subst e; exact fun _ _ _ _ H => H
set_option maxRecDepth 4000 in
set_option maxHeartbeats 16000000 in
theorem ThresholdSums_spec (t : List Int) (turn : Int) : Spec Try.prog 7 [.t (.sl 1 (t.map (T.int .i64))), .t (.int .i64 turn)] [] (.t (.bool true)) [] := by
  have hA := awake_spec
  have hLt := Light_spec t
  by_cases hg1 : (t.length : Int) ≤ 500
  · rw [decide_eq_true hg1] at hLt
    have hR := Roll_spec t
    have hN := Next_spec (Dc.mk t 0) 9 (by omega) (by show t.length ≤ 1000; omega)
    have hNl := (Dc.mk t 0).next_lt 9 (by omega)
    have hNd : ((Dc.mk t 0).next 9).2.l.length ≤ 1000 := by rw [Dc.next_l]; show t.length ≤ 1000; omega
    generalize (Dc.mk t 0).next 9 = q at hN hNl hNd
    obtain ⟨c0, d1⟩ := q
    simp only at hN hNl hNd
    obtain ⟨c, rfl⟩ : ∃ c : Nat, c0 = c := ⟨c0.toNat, by omega⟩
    unfold Dc.row at hR hN
    simp only at hR hN
    refine spec_introG (env0 := [(0, _), (1, _)]) (st0 := []) Try.func7 rfl rfl rfl rfl ?_
    repeat' (first | (with_reducible refine codeT_seq ?_) | (with_reducible refine codeT_block ?_) | (with_reducible refine codeT_skip ?_) | (with_reducible refine codeT_regionL ?_) | (with_reducible refine lx_nil ?_) | (with_reducible refine q_then ?_) | refine c_condF rfl ?_ | ((with_reducible refine g_move ?_); first | refine lx_move (r := (.t _)) rfl rfl rfl rfl rfl ?_ | refine lx_move (r := (.ref _ _ _ _)) rfl rfl rfl rfl rfl ?_) | ((with_reducible refine g_assign ?_); first | refine lx_assign (r := (.t _)) rfl rfl rfl rfl rfl ?_ | refine lx_assign (r := (.ref _ _ _ _)) rfl rfl rfl rfl rfl ?_) | ((with_reducible refine g_unOp ?_); first | refine lx_not rfl rfl rfl rfl rfl ?_) | ((with_reducible refine g_call ?_); first | refine lx_callT rfl rfl hLt rfl rfl (ArgsLE.refl _) rfl rfl rfl rfl rfl ?_ | refine lx_call (r' := .ref (.loc 905) 0 0 0) [(.res 0, .loc 905)] rfl rfl hR (ArgsLE.refl _) rfl trivial rfl rfl rfl rfl rfl rfl rfl rfl rfl rfl ?_ | refine lx_call (r' := .t (.int .i64 (c : Int))) [(.par 0, .loc 905)] rfl rfl hN (ArgsLE.refl _) rfl ⟨rfl, trivial⟩ rfl rfl rfl rfl rfl rfl rfl rfl rfl rfl ?_))
    refine codeT_ghost (ghost_nilL 6 (.loc 900) 38 2 rfl rfl rfl) ?_
    refine codeT_ghost (ghost_keep2 [1, 4, 5, 6, 23, 24] [.loc 905, .loc 900] rfl rfl) ?_
    refine codeT_loop (fun p env st => ∃ (i : Nat) (d : Dc) (l : List Fr), i ≤ c ∧ p = c - i ∧ d.l.length ≤ 1000 ∧ l.length = i ∧ (∀ f ∈ l, f.wt = true) ∧
        env = EnvL.get [(1, .t (.int .i64 turn)), (4, .t (.bool false)), (5, .ref (.loc 905) 0 0 0), (6, .row (.loc 900)), (23, .t (.int .i64 (c : Int))), (24, .t (.int .i64 (i : Int)))] ∧
        st = StO.get [(.loc 905, some (.var 50 [.t (.sl 1 (d.l.map (T.int .i64))), .t (.int .i64 d.k)])), (.loc 900, some (.slt 38 2 (l.map Fr.toT)))])
      ?_ (n := c) ⟨0, d1, [], by omega, rfl, hNd, rfl, by simp, rfl, rfl⟩
    rintro p env st ⟨i, d, l, hi, rfl, hd, hl, hlw, rfl, rfl⟩
    have wi : IntKind.i64.wrap ((i : Int) + 1) = ((i + 1 : Nat) : Int) := by rw [wrap64 (by omega) (by omega)]; omega
    by_cases hlt : i < c
    · have hN1 := Next_spec d 100 (by omega) hd
      have hN1l := d.next_lt 100 (by omega)
      have hN1d : (d.next 100).2.l.length ≤ 1000 := by rw [Dc.next_l]; exact hd
      generalize d.next 100 = q at hN1 hN1l hN1d
      obtain ⟨v, d2⟩ := q
      simp only at hN1 hN1l hN1d
      have hN2 := Next_spec d2 4 (by omega) hN1d
      have hN2l := d2.next_lt 4 (by omega)
      have hN2d : (d2.next 4).2.l.length ≤ 1000 := by rw [Dc.next_l]; exact hN1d
      generalize d2.next 4 = q at hN2 hN2l hN2d
      obtain ⟨u, d3⟩ := q
      simp only at hN2 hN2l hN2d
      unfold Dc.row at hN1 hN2
      obtain ⟨F, hF⟩ : ∃ F : Fr, F = ⟨if u < 1 then u else 1, IntKind.i64.wrap (1 + v)⟩ := ⟨_, rfl⟩
      obtain ⟨y, hy⟩ : ∃ y, y = l ++ [F] := ⟨_, rfl⟩
      have hyl : y.length = i + 1 := by rw [hy]; simp; omega
      have hix : (IntKind.i64.wrap ((y.length : Int) - 1)) = (i : Int) := by rw [hyl, wrap64 (by omega) (by omega)]; omega
      have hget : y.getD (IntKind.i64.wrap ((y.length : Int) - 1)).toNat default = F := by
        rw [hix, hy, Int.toNat_natCast, List.getD_eq_getElem?_getD, List.getElem?_append_right (by omega), hl, Nat.sub_self]; rfl
      have hEq : Row.slt 38 2 (l.map Fr.toT ++ [T.agg [.int .i64 (if u < 1 then u else 1), .int .i64 (IntKind.i64.wrap (1 + v))]]) = Row.slt 38 2 (y.map Fr.toT) := by rw [hy, List.map_append, hF]; rfl
      have hES : (y.map Fr.toT)[(IntKind.i64.wrap ((y.length : Int) - 1)).toNat]? = some (.agg [.int .i64 F.n, .int .i64 F.d]) := by
        rw [List.getElem?_map, ← hget, List.getD_eq_getElem?_getD, List.getElem?_eq_getElem (by omega)]; rfl
      have hden : IntKind.i64.wrap (1 + v) = 1 + v := wrap64 (by omega) (by omega)
      by_cases hu : u < 1
      · have hz : F.n = 0 := by rw [hF]; show (if u < 1 then u else 1) = 0; rw [if_pos hu]; omega
        have hset : (y.map Fr.toT).set (IntKind.i64.wrap ((y.length : Int) - 1)).toNat (.agg ([T.int .i64 F.n, .int .i64 F.d].set 1 (.int .i64 1))) = (l ++ [Fr.mk 0 1]).map Fr.toT := by
          rw [hix, hy, hz, Int.toNat_natCast, List.map_append, List.map_append, List.set_append_right _ _ (by simp; omega)]
          simp only [List.length_map, hl, Nat.sub_self]; rfl
        repeat' (first | refine codeT_ghost (x := Code.seq (Code.region 9 _ _) _) (ghost_rowL (id := .loc 36) rfl (rowLE_of_eq hEq) rfl) ?_ | (with_reducible refine codeT_seq ?_) | (with_reducible refine codeT_block ?_) | (with_reducible refine codeT_skip ?_) | (with_reducible refine codeT_exit ?_) | (with_reducible refine codeT_regionL ?_) | (with_reducible refine lx_nil ?_) | (with_reducible refine q_then ?_) | (with_reducible refine q_then_exit ?_) | (with_reducible refine q_block ?_) | ((with_reducible refine q_block_same ?_ ?_); · rfl) | (with_reducible refine q_loop_exit ?_) | (exfalso; omega) | (exfalso; rw [hget] at hc; exact hc hz) | refine lx_store_elf rfl rfl rfl rfl hES rfl rfl rfl ?_ ?_ | ((with_reducible refine g_move ?_); first | refine lx_move (r := (.t _)) rfl rfl rfl rfl rfl ?_ | refine lx_move (r := (.ref _ _ _ _)) rfl rfl rfl rfl rfl ?_ | refine lx_move (r := (.row _)) rfl rfl rfl rfl rfl ?_) | ((with_reducible refine g_load ?_); first | refine lx_load_elsM rfl rfl rfl rfl rfl rfl rfl rfl ?_ ?_) | ((with_reducible refine g_fieldAddr ?_); first | refine lx_fieldAddr rfl rfl rfl rfl rfl rfl rfl ?_) | ((with_reducible refine g_binOp ?_); first | refine lx_arith rfl rfl rfl rfl rfl rfl rfl ?_) | ((with_reducible refine g_assign ?_); first | refine lx_assign (r := (.t _)) rfl rfl rfl rfl rfl ?_ | refine lx_assign (r := (.row _)) rfl rfl rfl rfl rfl ?_) | ((with_reducible refine g_indexAddr ?_); first | refine lx_indexAddr_row rfl rfl rfl rfl rfl rfl rfl ?_ ?_ ?_) | ((with_reducible refine g_buildSlice ?_); first | refine lx_buildSlice rfl rfl rfl rfl rfl rfl rfl ?_) | ((with_reducible refine g_build ?_); first | refine lx_build (r := (.t (.agg _))) rfl rfl rfl rfl rfl rfl rfl ?_) | ((with_reducible refine g_len ?_); first | refine lx_len_rowmap rfl rfl rfl rfl rfl rfl ?_) | ((with_reducible refine g_append ?_); first | refine lx_append_row rfl rfl rfl rfl rfl rfl rfl rfl rfl rfl ?_ ?_ ?_) | ((with_reducible refine g_min ?_); first | refine lx_min rfl rfl rfl rfl rfl rfl ?_) | ((with_reducible refine g_call ?_); first | refine lx_call (r' := .t (.int .i64 v)) [(.par 0, .loc 905)] rfl rfl hN1 (ArgsLE.refl _) rfl ⟨rfl, trivial⟩ rfl rfl rfl rfl rfl rfl rfl rfl rfl rfl ?_ | refine lx_call (r' := .t (.int .i64 u)) [(.par 0, .loc 905)] rfl rfl hN2 (ArgsLE.refl _) rfl ⟨rfl, trivial⟩ rfl rfl rfl rfl rfl rfl rfl rfl rfl rfl ?_) | refine c_condP rfl (fun hc => ?_) (fun hc => ?_))
        all_goals try first | (simp only [List.length_map, List.length_singleton]; omega) | omega | (show 0 + 1 < 2; omega)
        exact q_loop (n' := c - (i + 1)) (by omega) ((ghost_keep2 [1, 4, 5, 6, 23, 24] [.loc 905, .loc 36] rfl rfl).trans (ghost_renL2 (.loc 36) (.loc 900) rfl rfl rfl rfl)) ⟨i + 1, d3, l ++ [Fr.mk 0 1], by omega, rfl, hN2d, by simp; omega, sums_snoc hlw (by decide), by rw [wi]; rfl, by rw [← hset]; rfl⟩
      · have hz : F.n = 1 := by rw [hF]; show (if u < 1 then u else 1) = 1; rw [if_neg hu]
        repeat' (first | refine codeT_ghost (x := Code.seq (Code.region 9 _ _) _) (ghost_rowL (id := .loc 36) rfl (rowLE_of_eq hEq) rfl) ?_ | (with_reducible refine codeT_seq ?_) | (with_reducible refine codeT_block ?_) | (with_reducible refine codeT_skip ?_) | (with_reducible refine codeT_exit ?_) | (with_reducible refine codeT_regionL ?_) | (with_reducible refine lx_nil ?_) | (with_reducible refine q_then ?_) | (with_reducible refine q_then_exit ?_) | (with_reducible refine q_block ?_) | ((with_reducible refine q_block_same ?_ ?_); · rfl) | (with_reducible refine q_loop_exit ?_) | (exfalso; omega) | (exfalso; rw [hget] at hc; omega) | ((with_reducible refine g_move ?_); first | refine lx_move (r := (.t _)) rfl rfl rfl rfl rfl ?_ | refine lx_move (r := (.ref _ _ _ _)) rfl rfl rfl rfl rfl ?_ | refine lx_move (r := (.row _)) rfl rfl rfl rfl rfl ?_) | ((with_reducible refine g_load ?_); first | refine lx_load_elsM rfl rfl rfl rfl rfl rfl rfl rfl ?_ ?_) | ((with_reducible refine g_fieldAddr ?_); first | refine lx_fieldAddr rfl rfl rfl rfl rfl rfl rfl ?_) | ((with_reducible refine g_binOp ?_); first | refine lx_arith rfl rfl rfl rfl rfl rfl rfl ?_) | ((with_reducible refine g_assign ?_); first | refine lx_assign (r := (.t _)) rfl rfl rfl rfl rfl ?_ | refine lx_assign (r := (.row _)) rfl rfl rfl rfl rfl ?_) | ((with_reducible refine g_indexAddr ?_); first | refine lx_indexAddr_row rfl rfl rfl rfl rfl rfl rfl ?_ ?_ ?_) | ((with_reducible refine g_buildSlice ?_); first | refine lx_buildSlice rfl rfl rfl rfl rfl rfl rfl ?_) | ((with_reducible refine g_build ?_); first | refine lx_build (r := (.t (.agg _))) rfl rfl rfl rfl rfl rfl rfl ?_) | ((with_reducible refine g_len ?_); first | refine lx_len_rowmap rfl rfl rfl rfl rfl rfl ?_) | ((with_reducible refine g_append ?_); first | refine lx_append_row rfl rfl rfl rfl rfl rfl rfl rfl rfl rfl ?_ ?_ ?_) | ((with_reducible refine g_min ?_); first | refine lx_min rfl rfl rfl rfl rfl rfl ?_) | ((with_reducible refine g_call ?_); first | refine lx_call (r' := .t (.int .i64 v)) [(.par 0, .loc 905)] rfl rfl hN1 (ArgsLE.refl _) rfl ⟨rfl, trivial⟩ rfl rfl rfl rfl rfl rfl rfl rfl rfl rfl ?_ | refine lx_call (r' := .t (.int .i64 u)) [(.par 0, .loc 905)] rfl rfl hN2 (ArgsLE.refl _) rfl ⟨rfl, trivial⟩ rfl rfl rfl rfl rfl rfl rfl rfl rfl rfl ?_) | refine c_condP rfl (fun hc => ?_) (fun hc => ?_))
        all_goals try first | (simp only [List.length_map, List.length_singleton]; omega) | omega | (show 0 + 1 < 2; omega)
        exact q_loop (n' := c - (i + 1)) (by omega) ((ghost_keep2 [1, 4, 5, 6, 23, 24] [.loc 905, .loc 36] rfl rfl).trans (ghost_renL2 (.loc 36) (.loc 900) rfl rfl rfl rfl)) ⟨i + 1, d3, y, by omega, rfl, hN2d, hyl, (by
          rw [hy]
          refine sums_snoc hlw ?_
          rw [show F = ⟨1, 1 + v⟩ by rw [hF, if_neg hu, hden]]
          exact sums_one hN1l.1 hN1l.2), by rw [wi]; rfl, rfl⟩
    · obtain rfl : i = c := by omega
      have h8 : l.length ≤ 8 := by omega
      have hM := Mod_spec turn (IntKind.i64.wrap ((l.length : Int) + 1)) (by rw [wrap64 (by omega) (by omega)]; omega)
      have hMl : 0 ≤ modI turn (IntKind.i64.wrap ((l.length : Int) + 1)) ∧ modI turn (IntKind.i64.wrap ((l.length : Int) + 1)) ≤ l.length := by
        have hw := wrap64 (n := (l.length : Int) + 1) (by omega) (by omega)
        have := modI_lt turn (IntKind.i64.wrap ((l.length : Int) + 1)) (by omega)
        omega
      generalize modI turn (IntKind.i64.wrap ((l.length : Int) + 1)) = k at hM hMl
      have hok : ∀ y : List Fr, y.length ≤ 8 → (∀ f ∈ y, f.wt = true) → Spec Try.prog 21 [.t (.sl 2 (y.map Fr.toT))] [] (.tup [.t (.agg [.int .i64 (totF y).n, .int .i64 (totF y).d]), .t (.int .i64 0)]) [] := fun y h1 h2 => by
        have h := Sum_spec y (by omega)
        have hE : sumE y = 0 := sumE_ok.2 ⟨h1, h2⟩
        rw [show sumF y = totF y from if_pos hE, hE] at h
        exact h
      have hS1 := hok l h8 hlw
      have hS2 := hok (l.drop k.toNat ++ l.take k.toNat) (by rw [(sums_turn l k.toNat).length_eq]; exact h8) fun f hf => hlw f ((sums_turn l k.toNat).mem_iff.1 hf)
      rw [tot_perm (sums_turn l k.toNat) fun f hf => hlw f ((sums_turn l k.toNat).mem_iff.1 hf)] at hS2
      have hS3 := hok (l.take k.toNat) (by rw [List.length_take]; omega) fun f hf => hlw f (List.mem_of_mem_take hf)
      have hq := sums_quo l hlw k.toNat
      have hlow := sums_ok l hlw
      have hlow3 := sums_ok (l.take k.toNat) fun f hf => hlw f (List.mem_of_mem_take hf)
      have hmod := sums_mod l hlw
      have hbd := tot_bd l hlw l.length (Nat.le_refl _)
      rw [List.take_length] at hbd
      have hp8 := p8 l.length h8
      obtain ⟨hb1, hb2, hb3, hb4⟩ := hbd
      have e2 : AV.t (T.sl 2 ((((l.map Fr.toT).take ((l.map Fr.toT).length : Int).toNat).drop k.toNat) ++ (((l.map Fr.toT).take k.toNat).drop (Int.toNat 0)))) = AV.t (T.sl 2 ((l.drop k.toNat ++ l.take k.toNat).map Fr.toT)) := by
        rw [Int.toNat_natCast, List.take_length, List.map_append, List.map_drop, List.map_take]; rfl
      have e3 : AV.t (T.sl 2 (((l.map Fr.toT).take k.toNat).drop (Int.toNat 0))) = AV.t (T.sl 2 ((l.take k.toNat).map Fr.toT)) := by
        rw [List.map_take]; rfl
      clear hok
      generalize totF (l.take k.toNat) = C at *
      generalize totF l = A at *
      have hmax : (if C.d > 1 then C.d else 1) = C.d := by split <;> omega
      have hle8 : (l.length : Int) * A.d ≤ 8 * A.d := Int.mul_le_mul_of_nonneg_right (by omega) (by omega)
      have hquo : IntKind.i64.wrap (C.n.tdiv (if C.d > 1 then C.d else 1)) ≤ IntKind.i64.wrap (A.n.tdiv A.d) := by
        rw [hmax, wrap64 (n := C.n.tdiv C.d) (by omega) (by omega), wrap64 (n := A.n.tdiv A.d) (by omega) (by omega)]; exact hq.1
      have hAd : A.d ≠ 0 := by omega
      have hCd : (if C.d > 1 then C.d else 1) ≠ 0 := by omega
      clear hmax hle8 hq
      refine codeT_ghost (ghost_freezeL (id := .loc 900) rfl rfl rfl) ?_
      repeat' (first | (with_reducible refine codeT_seq ?_) | (with_reducible refine codeT_block ?_) | (with_reducible refine codeT_skip ?_) | (with_reducible refine codeT_exit ?_) | (with_reducible refine codeT_regionL ?_) | ((with_reducible refine codeT_region_drawL ?_ ?_); · rfl) | (with_reducible refine lx_nil ?_) | (with_reducible refine q_then ?_) | (with_reducible refine q_then_exit ?_) | ((with_reducible refine q_block_same ?_ ?_); · rfl) | (with_reducible refine q_loop_exit ?_) | ((with_reducible refine q_region_draw ?_ ?_); · rfl) | (exfalso; omega) | refine lx_append_slF rfl rfl rfl rfl rfl rfl rfl rfl rfl rfl ?_ ?_ ?_ | refine lx_neagg (flat38 _ _ _ _) eq38 (fr_eq _ _) rfl rfl rfl rfl rfl rfl ?_ | ((with_reducible refine g_move ?_); first | refine lx_move (r := (.t _)) rfl rfl rfl rfl rfl ?_ | refine lx_move (r := (.tup _)) rfl rfl rfl rfl rfl ?_) | ((with_reducible refine g_load ?_); first | refine lx_load_var rfl rfl rfl rfl rfl rfl rfl rfl ?_ | refine lx_load_varA (r := (.t (.agg _))) rfl rfl rfl rfl rfl rfl rfl rfl rfl ?_) | ((with_reducible refine g_fieldAddr ?_); first | refine lx_fieldAddr rfl rfl rfl rfl rfl rfl rfl ?_) | ((with_reducible refine g_binOp ?_); first | refine lx_arith rfl rfl rfl rfl rfl rfl rfl ?_) | ((with_reducible refine g_assign ?_); first | refine lx_assign (r := (.t _)) rfl rfl rfl rfl rfl ?_) | ((with_reducible refine g_pick ?_); first | refine lx_pickF (r := (.t _)) rfl rfl rfl rfl rfl rfl ?_) | ((with_reducible refine g_alloc ?_); first | refine lx_alloc rfl rfl rfl rfl rfl rfl rfl ?_) | ((with_reducible refine g_store ?_); first | refine lx_store_var (r := (.t (.agg _))) rfl rfl rfl rfl rfl rfl rfl rfl rfl rfl ?_) | ((with_reducible refine g_extract ?_); first | refine lx_extract rfl rfl rfl rfl rfl rfl ?_) | ((with_reducible refine g_slice ?_); first | refine lx_slice_sl rfl rfl rfl ⟨_, rfl⟩ rfl rfl rfl ?_ ?_ ?_ ?_ | refine lx_slice_sl rfl rfl ⟨_, rfl⟩ rfl rfl rfl rfl ?_ ?_ ?_ ?_) | ((with_reducible refine g_len ?_); first | refine lx_len_map rfl rfl rfl rfl rfl ?_) | ((with_reducible refine g_append ?_); first | refine lx_append_nil_sl rfl rfl rfl rfl rfl rfl rfl rfl ?_ ?_ ?_) | ((with_reducible refine g_call ?_); first | refine lx_callT rfl rfl hM rfl rfl (ArgsLE.refl _) rfl rfl rfl rfl rfl ?_ | refine lx_callT rfl rfl hS1 rfl rfl (ArgsLE.refl _) rfl rfl rfl rfl rfl ?_ | refine lx_callT rfl rfl hS2 rfl rfl (ArgsLE.cons (AVLE.of_eq e2) (ArgsLE.refl _)) rfl rfl rfl rfl rfl ?_) | refine c_condP rfl (fun hc => ?_) (fun hc => ?_))
      all_goals try first | (simp only [List.length_map]; omega) | omega | (simp only [List.length_drop, List.length_take, List.length_map]; omega)
      refine codeT_ghost (ghost_keep2 [4, 6, 8, 9, 13] [.loc 9] rfl rfl) ?_
      refine codeT_loop (fun p env st => ∃ (g : Nat), 2 ≤ g ∧ g ≤ 101 ∧ p = 101 - g ∧
          env = EnvL.get [(4, .t (.bool false)), (6, .t (.sl 2 (l.map Fr.toT))), (8, .t (.int .i64 k)), (9, .ref (.loc 9) 0 0 0), (13, .t (.int .i64 (g : Int)))] ∧
          st = StO.get [(.loc 9, some (.var 38 [.t (.int .i64 A.n), .t (.int .i64 A.d)]))])
        ?_ (n := 99) ⟨2, by omega, by omega, rfl, rfl, rfl⟩
      rintro p env st ⟨g, hg2, hg101, rfl, rfl, rfl⟩
      have wg : IntKind.i64.wrap ((g : Int) + 1) = ((g + 1 : Nat) : Int) := by rw [wrap64 (by omega) (by omega)]; omega
      by_cases hlt : g < 101
      · have hmg := hmod (g : Int) (by omega)
        repeat' (first | (with_reducible refine codeT_seq ?_) | (with_reducible refine codeT_block ?_) | (with_reducible refine codeT_skip ?_) | (with_reducible refine codeT_exit ?_) | (with_reducible refine codeT_regionL ?_) | (with_reducible refine lx_nil ?_) | (with_reducible refine q_then ?_) | (with_reducible refine q_then_exit ?_) | (with_reducible refine q_block ?_) | ((with_reducible refine q_block_same ?_ ?_); · rfl) | (with_reducible refine q_loop_exit ?_) | refine c_condF rfl ?_ | (exfalso; omega) | ((with_reducible refine g_guard ?_); first | refine lx_skip rfl rfl rfl ?_) | ((with_reducible refine g_move ?_); first | refine lx_move (r := (.t _)) rfl rfl rfl rfl rfl ?_) | ((with_reducible refine g_load ?_); first | refine lx_load_var rfl rfl rfl rfl rfl rfl rfl rfl ?_) | ((with_reducible refine g_fieldAddr ?_); first | refine lx_fieldAddr rfl rfl rfl rfl rfl rfl rfl ?_) | ((with_reducible refine g_binOp ?_); first | refine lx_arith rfl rfl rfl rfl rfl rfl rfl ?_ | refine lx_rem rfl rfl rfl rfl rfl rfl ?_ ?_) | ((with_reducible refine g_assign ?_); first | refine lx_assign (r := (.t _)) rfl rfl rfl rfl rfl ?_) | ((with_reducible refine g_pick ?_); first | refine lx_pickT (r := (.t _)) rfl rfl rfl rfl rfl rfl ?_ | refine lx_pickF (r := (.t _)) rfl rfl rfl rfl rfl rfl ?_) | refine c_condP rfl (fun hc => ?_) (fun hc => ?_) | refine lx_splitP rfl (fun hc => ?_) (fun hc => ?_))
        all_goals try omega
        all_goals exact q_loop (n' := 101 - (g + 1)) (by omega) (ghost_keep2 [4, 6, 8, 9, 13] [.loc 9] rfl rfl) ⟨g + 1, by omega, by omega, rfl, by rw [wg]; rfl, rfl⟩
      · obtain rfl : g = 101 := by omega
        repeat' (first | (with_reducible refine codeT_seq ?_) | (with_reducible refine codeT_ret ?_) | (with_reducible refine codeT_exit ?_) | (with_reducible refine codeT_regionL ?_) | ((with_reducible refine codeT_region_drawL ?_ ?_); · rfl) | (with_reducible refine lx_nil ?_) | (with_reducible refine q_then ?_) | (with_reducible refine q_then_exit ?_) | ((with_reducible refine q_block_same ?_ ?_); · rfl) | (with_reducible refine q_loop_exit ?_) | ((with_reducible refine q_region_draw ?_ ?_); · rfl) | refine c_condF rfl ?_ | (exfalso; omega) | ((with_reducible refine g_move ?_); first | refine lx_move (r := (.t _)) rfl rfl rfl rfl rfl ?_ | refine lx_move (r := (.tup _)) rfl rfl rfl rfl rfl ?_) | ((with_reducible refine g_load ?_); first | refine lx_load_var rfl rfl rfl rfl rfl rfl rfl rfl ?_) | ((with_reducible refine g_fieldAddr ?_); first | refine lx_fieldAddr rfl rfl rfl rfl rfl rfl rfl ?_) | ((with_reducible refine g_binOp ?_); first | refine lx_arith rfl rfl rfl rfl rfl rfl rfl ?_ | refine lx_quo rfl rfl rfl rfl rfl rfl ?_ ?_) | ((with_reducible refine g_assign ?_); first | refine lx_assign (r := (.t _)) rfl rfl rfl rfl rfl ?_) | ((with_reducible refine g_pick ?_); first | refine lx_pickT (r := (.t _)) rfl rfl rfl rfl rfl rfl ?_) | ((with_reducible refine g_alloc ?_); first | refine lx_alloc rfl rfl rfl rfl rfl rfl rfl ?_) | ((with_reducible refine g_store ?_); first | refine lx_store_var (r := (.t (.agg _))) rfl rfl rfl rfl rfl rfl rfl rfl rfl rfl ?_) | ((with_reducible refine g_extract ?_); first | refine lx_extract rfl rfl rfl rfl rfl rfl ?_) | ((with_reducible refine g_slice ?_); first | refine lx_slice_sl rfl rfl rfl ⟨_, rfl⟩ rfl rfl rfl ?_ ?_ ?_ ?_) | ((with_reducible refine g_max ?_); first | refine lx_max rfl rfl rfl rfl rfl rfl ?_) | ((with_reducible refine g_call ?_); first | refine lx_callT rfl rfl hS3 rfl rfl (ArgsLE.cons (AVLE.of_eq e3) (ArgsLE.refl _)) rfl rfl rfl rfl rfl ?_ | refine lx_callT rfl rfl hA rfl rfl (ArgsLE.refl _) rfl rfl rfl rfl rfl ?_) | refine lx_splitP rfl (fun hc => ?_) (fun hc => ?_))
        all_goals try first | (simp only [List.length_map]; omega) | omega
        all_goals try exact hAd
        all_goals try exact hCd
        exact q_done (q_ret (resT_oneE rfl rfl rfl) (stHas_spec trivial))
  · rw [decide_eq_false hg1] at hLt
    refine spec_intro (env0 := [(0, _), (1, _)]) (st0 := []) Try.func7 rfl rfl rfl rfl ?_
    repeat' (first | (with_reducible refine codeT_seq ?_) | (with_reducible refine codeT_ret ?_) | (with_reducible refine codeT_regionL ?_) | (with_reducible refine lx_nil ?_) | (with_reducible refine q_then ?_) | (with_reducible refine q_then_ret ?_) | refine c_condT rfl ?_ | ((with_reducible refine g_move ?_); first | refine lx_move (r := (.t _)) rfl rfl rfl rfl rfl ?_) | ((with_reducible refine g_assign ?_); first | refine lx_assign (r := (.t _)) rfl rfl rfl rfl rfl ?_) | ((with_reducible refine g_unOp ?_); first | refine lx_not rfl rfl rfl rfl rfl ?_) | ((with_reducible refine g_call ?_); first | refine lx_callT rfl rfl hLt rfl rfl (ArgsLE.refl _) rfl rfl rfl rfl rfl ?_ | refine lx_callT rfl rfl hA rfl rfl (ArgsLE.refl _) rfl rfl rfl rfl rfl ?_))
    exact q_ret (resT_oneE rfl rfl rfl) (by simp)
end Go.AL
