/- ThresholdValid: the law's walk. -/
import Derived.Test.YtkfjchmmhabocaaThe
import Derived.Test.YtkfjchmmhabocaaAl4
import Derived.Test.YtkfjchmmhabocaaTy
import Derived.Test.YtkfjchmmhabocaaThp
import Derived.Test.YtkfjchmmhabocaaAl3
set_option linter.unusedVariables false
namespace Go.AL
open Go Go.Proofs Go.RowKit

theorem eq38c : Try.prog.stoodInHeld 38 = false := by kernel_rfl
theorem eq38d : Try.prog.eqGuardType Try.prog.depth 38 = false := by kernel_rfl
theorem eq38e : eq1B Try.prog 38 = true := by unfold eq1B; rw [eq38c, eq38d]; rfl
theorem flat38b (a b a' b' : Int) : FlatE Try.prog [{ name := "Num", type := 3, offset := 0, embedded := false, tag := "", pkgPath := "", byteOffset := 0 }, { name := "Den", type := 3, offset := 1, embedded := false, tag := "", pkgPath := "", byteOffset := 8 }] 0 [.int .i64 a, .int .i64 b] [.int .i64 a', .int .i64 b'] :=
  ⟨by decide, rfl, Try.underlying3, Try.underlying3, by decide, rfl, Try.underlying3, Try.underlying3, trivial⟩
theorem fr_eqb (a b : Int) : tEqs [.int .i64 a, .int .i64 b] [.int .i64 a, .int .i64 b] = true := tEqs_refl (flat38b a b a b)
theorem kitTh_lists (d : Dc) (n : Nat) (h8 : n ≤ 8) : (kitTh d n).1.w.length ≤ 8 ∧ ∀ l ∈ (kitTh d n).1.w, l.length ≤ 8 := by
  have h := kitTh_fit d n h8
  exact ⟨h.lists, fun l hl => by have := len_le hl; have := h.few; omega⟩
def fourK (keys n : Int) : List Int := [keys, n, IntKind.i64.wrap (n + 1), modI keys 10]
set_option maxRecDepth 4000 in
set_option maxHeartbeats 32000000 in
theorem ThresholdValid_spec (t : List Int) (raw : Th) (l : List Fr) (keys : Int) : Spec Try.prog 6 [.t (.sl 1 (t.map (T.int .i64))), .t raw.toT, .t (frs l), .t (.int .i64 keys)] [] (.t (.bool true)) [] := by
  have hA := awake_spec
  have hLt := Light_spec t
  by_cases hg : (t.length : Int) ≤ 500 ∧ raw.w.length ≤ 10 ∧ l.length ≤ 20
  · obtain ⟨hg1, hg2, hg3⟩ := hg
    rw [decide_eq_true hg1] at hLt
    have hR := Roll_spec t
    have hN := Next_spec (Dc.mk t 0) 9 (by omega) (by show t.length ≤ 1000; omega)
    have hNl := (Dc.mk t 0).next_lt 9 (by omega)
    have hNd : ((Dc.mk t 0).next 9).2.l.length ≤ 1000 := by rw [Dc.next_l]; show t.length ≤ 1000; omega
    generalize (Dc.mk t 0).next 9 = q at hN hNl hNd
    obtain ⟨n0, d1⟩ := q
    simp only at hN hNl hNd
    obtain ⟨n, rfl⟩ : ∃ n : Nat, n0 = n := ⟨n0.toNat, by omega⟩
    have hK := kitThQ_spec d1 n (by omega) hNd
    have hKl := kitTh_lists d1 n (by omega)
    have hKd : (kitTh d1 n).2.l.length ≤ 1000 := by rw [kitTh_l]; exact hNd
    generalize kitTh d1 n = q at hK hKl hKd
    obtain ⟨x0, d2⟩ := q
    simp only at hK hKl hKd
    obtain ⟨x, d3, y1, y2, y3, hO⟩ := odd_spec d2 x0 hKd (by omega)
    have hxs : x.Sm := ⟨by omega, fun z hz => by rcases y2 z hz with h | h; omega; have := hKl.2 z h; omega⟩
    generalize x0.toQ = Q at hK hO
    have hM := Mod_spec keys 10 (by omega)
    obtain ⟨rn, rw0⟩ := raw
    obtain ⟨xn, xw⟩ := x
    unfold Dc.row at hR hN hK hO
    unfold Th.toT at hO ⊢
    unfold frs
    simp only at hR hN hK hO hg2 hxs ⊢
    clear hKl y1 y2
    refine spec_introG (env0 := [(0, _), (1, _), (2, _), (3, _)]) (st0 := []) Try.func6 rfl rfl rfl rfl ?_
    repeat' (first | (with_reducible refine codeT_seq ?_) | (with_reducible refine codeT_block ?_) | (with_reducible refine codeT_skip ?_) | (with_reducible refine codeT_regionL ?_) | (with_reducible refine lx_nil ?_) | (with_reducible refine q_then ?_) | (exfalso; omega) | ((with_reducible refine g_move ?_); first | refine lx_move (r := (.t _)) rfl rfl rfl rfl rfl ?_) | ((with_reducible refine g_load ?_); first | refine lx_load_var rfl rfl rfl rfl rfl rfl rfl rfl ?_) | ((with_reducible refine g_fieldAddr ?_); first | refine lx_fieldAddr rfl rfl rfl rfl rfl rfl rfl ?_) | ((with_reducible refine g_binOp ?_); first | refine lx_arith rfl rfl rfl rfl rfl rfl rfl ?_) | ((with_reducible refine g_assign ?_); first | refine lx_assign (r := (.t _)) rfl rfl rfl rfl rfl ?_) | ((with_reducible refine g_pick ?_); first | refine lx_pickF (r := (.t _)) rfl rfl rfl rfl rfl rfl ?_) | ((with_reducible refine g_box ?_); first | refine lx_box (r := (.t (.agg _))) (cs := (List.map .t _)) rfl rfl rfl rfl rfl rfl rfl rfl rfl ?_) | ((with_reducible refine g_unOp ?_); first | refine lx_not rfl rfl rfl rfl rfl ?_) | ((with_reducible refine g_len ?_); first | refine lx_len_map rfl rfl rfl rfl rfl ?_) | ((with_reducible refine g_call ?_); first | refine lx_callT rfl rfl hLt rfl rfl (ArgsLE.refl _) rfl rfl rfl rfl rfl ?_) | refine c_condP rfl (fun hc => ?_) (fun hc => ?_) | refine lx_splitP rfl (fun hc => ?_) (fun hc => ?_))
    refine codeT_ghost (ghost_keep2 [0, 2, 3, 5, 8, 40, 41, 42] [.loc 5] rfl rfl) ?_
    refine codeT_loop (fun p env st => ∃ (j : Nat), j ≤ rw0.length ∧ p = rw0.length - j ∧ (∀ i, i < j → (rw0.getD i default).length ≤ 10) ∧
        env = EnvL.get [(0, .t (.sl 1 (t.map (T.int .i64)))), (2, .t (.sl 2 (l.map Fr.toT))), (3, .t (.int .i64 keys)), (5, .ref (.loc 5) 0 0 0), (8, .t (.bool false)), (40, .t (.sl 1 (rw0.map frs))), (41, .t (.int .i64 (rw0.length : Int))), (42, .t (.int .i64 (j : Int)))] ∧
        st = StO.get [(.loc 5, some (.var 30 [.t (.int .i64 rn), .t (.sl 1 (rw0.map frs))]))])
      ?_ (n := rw0.length) ⟨0, by omega, rfl, fun i hi => by omega, rfl, rfl⟩
    rintro p env st ⟨j, hj, rfl, hall, rfl, rfl⟩
    have wj : IntKind.i64.wrap ((j : Int) + 1) = ((j + 1 : Nat) : Int) := by rw [wrap64 (by omega) (by omega)]; omega
    by_cases hlt : j < rw0.length
    · by_cases h10 : (rw0.getD (j : Int).toNat default).length ≤ 10
      · repeat' (first | (with_reducible refine codeT_seq ?_) | (with_reducible refine codeT_block ?_) | (with_reducible refine codeT_skip ?_) | (with_reducible refine codeT_exit ?_) | (with_reducible refine codeT_regionL ?_) | (with_reducible refine lx_nil ?_) | (with_reducible refine q_then ?_) | (with_reducible refine q_then_exit ?_) | (with_reducible refine q_block ?_) | ((with_reducible refine q_block_same ?_ ?_); · rfl) | (with_reducible refine q_loop_exit ?_) | (exfalso; omega) | ((with_reducible refine g_move ?_); first | refine lx_move (r := (.t _)) rfl rfl rfl rfl rfl ?_) | ((with_reducible refine g_load ?_); first | refine lx_load_tp rfl rfl rfl rfl rfl rfl rfl ?_) | ((with_reducible refine g_binOp ?_); first | refine lx_arith rfl rfl rfl rfl rfl rfl rfl ?_) | ((with_reducible refine g_assign ?_); first | refine lx_assign (r := (.t _)) rfl rfl rfl rfl rfl ?_) | ((with_reducible refine g_indexAddr ?_); first | refine lx_indexAddr_map rfl rfl rfl rfl rfl rfl ?_ ?_ ?_) | ((with_reducible refine g_len ?_); first | refine lx_len_map rfl rfl rfl rfl rfl ?_) | refine c_condP rfl (fun hc => ?_) (fun hc => ?_))
        all_goals try (simp only [List.length_map]; omega)
        all_goals try omega
        exact q_loop (n' := rw0.length - (j + 1)) (by omega) (ghost_keep2 [0, 2, 3, 5, 8, 40, 41, 42] [.loc 5] rfl rfl) ⟨j + 1, by omega, rfl, fun i hi => by
          rcases Nat.lt_or_ge i j with h | h
          · exact hall i h
          · obtain rfl : i = j := by omega
            exact h10, by rw [wj]; rfl, rfl⟩
      · repeat' (first | (with_reducible refine codeT_seq ?_) | (with_reducible refine codeT_block ?_) | (with_reducible refine codeT_skip ?_) | (with_reducible refine codeT_ret ?_) | (with_reducible refine codeT_exit ?_) | (with_reducible refine codeT_regionL ?_) | (with_reducible refine lx_nil ?_) | (with_reducible refine q_then ?_) | (with_reducible refine q_then_exit ?_) | (with_reducible refine q_then_ret ?_) | (with_reducible refine q_block ?_) | (with_reducible refine q_block_ret ?_) | ((with_reducible refine q_block_same ?_ ?_); · rfl) | (with_reducible refine q_loop_exit ?_) | (with_reducible refine q_loop_ret ?_) | (exfalso; omega) | ((with_reducible refine g_move ?_); first | refine lx_move (r := (.t _)) rfl rfl rfl rfl rfl ?_) | ((with_reducible refine g_load ?_); first | refine lx_load_tp rfl rfl rfl rfl rfl rfl rfl ?_) | ((with_reducible refine g_binOp ?_); first | refine lx_arith rfl rfl rfl rfl rfl rfl rfl ?_) | ((with_reducible refine g_assign ?_); first | refine lx_assign (r := (.t _)) rfl rfl rfl rfl rfl ?_) | ((with_reducible refine g_indexAddr ?_); first | refine lx_indexAddr_map rfl rfl rfl rfl rfl rfl ?_ ?_ ?_) | ((with_reducible refine g_len ?_); first | refine lx_len_map rfl rfl rfl rfl rfl ?_) | ((with_reducible refine g_call ?_); first | refine lx_callT rfl rfl hA rfl rfl (ArgsLE.refl _) rfl rfl rfl rfl rfl ?_) | refine c_condP rfl (fun hc => ?_) (fun hc => ?_))
        all_goals try (simp only [List.length_map]; omega)
        all_goals try omega
        all_goals exact q_done (q_ret (resT_oneE rfl rfl rfl) (stHas_spec trivial))
    · obtain rfl : j = rw0.length := by omega
      have hrs : (Th.mk rn rw0).Sm := ⟨by show rw0.length ≤ 1000; omega, fun z hz => by
        obtain ⟨i, hi, rfl⟩ := List.mem_iff_getElem.1 hz
        have := hall i hi
        rw [List.getD_eq_getElem?_getD, List.getElem?_eq_getElem hi] at this
        show (rw0[i]).length ≤ 1000
        have : (rw0[i]).length ≤ 10 := this
        omega⟩
      clear hall
      repeat' (first | (with_reducible refine codeT_seq ?_) | (with_reducible refine codeT_block ?_) | (with_reducible refine codeT_skip ?_) | (with_reducible refine codeT_exit ?_) | (with_reducible refine codeT_regionL ?_) | (with_reducible refine lx_nil ?_) | (with_reducible refine q_then ?_) | (with_reducible refine q_then_exit ?_) | ((with_reducible refine q_block_same ?_ ?_); · rfl) | (with_reducible refine q_loop_exit ?_) | (exfalso; omega) | refine lx_buildSliceF rfl rfl rfl rfl rfl rfl ?_ | ((with_reducible refine g_move ?_); first | refine lx_move (r := (.t _)) rfl rfl rfl rfl rfl ?_ | refine lx_move (r := (.ref _ _ _ _)) rfl rfl rfl rfl rfl ?_) | ((with_reducible refine g_load ?_); first | refine lx_load_varA (r := (.t (.agg _))) rfl rfl rfl rfl rfl rfl rfl rfl rfl ?_) | ((with_reducible refine g_binOp ?_); first | refine lx_arith rfl rfl rfl rfl rfl rfl rfl ?_) | ((with_reducible refine g_assign ?_); first | refine lx_assign (r := (.t _)) rfl rfl rfl rfl rfl ?_ | refine lx_assign (r := (.ref _ _ _ _)) rfl rfl rfl rfl rfl ?_) | ((with_reducible refine g_alloc ?_); first | refine lx_alloc rfl rfl rfl rfl rfl rfl rfl ?_) | ((with_reducible refine g_store ?_); first | refine lx_store_var (r := (.t (.agg _))) rfl rfl rfl rfl rfl rfl rfl rfl rfl rfl ?_) | ((with_reducible refine g_len ?_); first | refine lx_len_sl rfl rfl rfl rfl rfl ?_) | ((with_reducible refine g_call ?_); first | refine lx_call (r' := .ref (.loc 905) 0 0 0) [(.res 0, .loc 905)] rfl rfl hR (ArgsLE.refl _) rfl trivial rfl rfl rfl rfl rfl rfl rfl rfl rfl rfl ?_ | refine lx_call (r' := .t (.int .i64 (n : Int))) [(.par 0, .loc 905)] rfl rfl hN (ArgsLE.refl _) rfl ⟨rfl, trivial⟩ rfl rfl rfl rfl rfl rfl rfl rfl rfl rfl ?_ | refine lx_call (r' := .t Q) [(.par 0, .loc 905)] rfl rfl hK (ArgsLE.refl _) rfl ⟨rfl, trivial⟩ rfl rfl rfl rfl rfl rfl rfl rfl rfl rfl ?_ | refine lx_call (r' := .t (.agg _)) [(.par 0, .loc 905)] rfl rfl hO (ArgsLE.refl _) rfl ⟨rfl, trivial⟩ rfl rfl rfl rfl rfl rfl rfl rfl rfl rfl ?_) | refine c_condP rfl (fun hc => ?_) (fun hc => ?_))
      refine codeT_ghost (ghost_keep2 [2, 3, 8, 12, 62, 63, 64] [] rfl rfl) ?_
      refine codeT_loop (fun p env st => ∃ (i : Nat), i ≤ 2 ∧ p = 2 - i ∧
          env = EnvL.get [(2, .t (.sl 2 (l.map Fr.toT))), (3, .t (.int .i64 keys)), (8, .t (.bool false)), (12, .t (.int .i64 (n : Int))), (62, .t (.sl 2 ([Th.mk xn xw, Th.mk rn rw0].map Th.toT))), (63, .t (.int .i64 2)), (64, .t (.int .i64 (i : Int)))] ∧
          st = StO.get [])
        ?_ (n := 2) ⟨0, by omega, rfl, rfl, rfl⟩
      rintro p env st ⟨i, hi, rfl, rfl, rfl⟩
      have wi : IntKind.i64.wrap ((i : Int) + 1) = ((i + 1 : Nat) : Int) := by rw [wrap64 (by omega) (by omega)]; omega
      by_cases hlti : i < 2
      · have hY : ([Th.mk xn xw, Th.mk rn rw0].getD (i : Int).toNat default).Sm := by
          have : i = 0 ∨ i = 1 := by omega
          rcases this with rfl | rfl
          · exact hxs
          · exact hrs
        have hl2 : [Th.mk xn xw, Th.mk rn rw0].length = 2 := rfl
        generalize hYY : [Th.mk xn xw, Th.mk rn rw0] = YY at *
        repeat' (first | (with_reducible refine codeT_seq ?_) | (with_reducible refine codeT_block ?_) | (with_reducible refine codeT_skip ?_) | (with_reducible refine codeT_exit ?_) | (with_reducible refine codeT_regionL ?_) | (with_reducible refine lx_nil ?_) | (with_reducible refine q_then ?_) | (with_reducible refine q_then_exit ?_) | ((with_reducible refine q_block_same ?_ ?_); · rfl) | (with_reducible refine q_loop_exit ?_) | (exfalso; omega) | refine lx_buildSliceF rfl rfl rfl rfl rfl rfl ?_ | ((with_reducible refine g_move ?_); first | refine lx_move (r := (.t _)) rfl rfl rfl rfl rfl ?_) | ((with_reducible refine g_load ?_); first | refine lx_load_tpA rfl rfl rfl rfl rfl rfl rfl rfl ?_) | ((with_reducible refine g_binOp ?_); first | refine lx_arith rfl rfl rfl rfl rfl rfl rfl ?_) | ((with_reducible refine g_alloc ?_); first | refine lx_alloc rfl rfl rfl rfl rfl rfl rfl ?_) | ((with_reducible refine g_store ?_); first | refine lx_store_var (r := (.t (.agg _))) rfl rfl rfl rfl rfl rfl rfl rfl rfl rfl ?_) | ((with_reducible refine g_indexAddr ?_); first | refine lx_indexAddr_map rfl rfl rfl rfl rfl rfl ?_ ?_ ?_) | ((with_reducible refine g_len ?_); first | refine lx_len_sl rfl rfl rfl rfl rfl ?_) | ((with_reducible refine g_call ?_); first | refine lx_callT rfl rfl hM rfl rfl (ArgsLE.refl _) rfl rfl rfl rfl rfl ?_) | refine c_condP rfl (fun hc => ?_) (fun hc => ?_))
        all_goals try (simp only [List.length_map]; omega)
        all_goals try omega
        refine codeT_ghost (ghost_keep2 [2, 3, 8, 12, 15, 62, 63, 64, 74, 75, 76] [.loc 15] rfl rfl) ?_
        refine codeT_loop (fun p env st => ∃ (j : Nat), j ≤ 4 ∧ p = 4 - j ∧
            env = EnvL.get [(2, .t (.sl 2 (l.map Fr.toT))), (3, .t (.int .i64 keys)), (8, .t (.bool false)), (12, .t (.int .i64 (n : Int))), (15, .ref (.loc 15) 0 0 0), (62, .t (.sl 2 (YY.map Th.toT))), (63, .t (.int .i64 2)), (64, .t (.int .i64 (i : Int))), (74, .t (.sl 1 ((fourK keys n).map (T.int .i64)))), (75, .t (.int .i64 4)), (76, .t (.int .i64 (j : Int)))] ∧
            st = StO.get [(.loc 15, some (.var 30 [.t (.int .i64 (YY.getD (i : Int).toNat default).n), .t (.sl 1 ((YY.getD (i : Int).toNat default).w.map frs))]))])
          ?_ (n := 4) ⟨0, by omega, rfl, rfl, rfl⟩
        generalize YY.getD (i : Int).toNat default = Y at *
        rintro p env st ⟨j, hj, rfl, rfl, rfl⟩
        have wj : IntKind.i64.wrap ((j : Int) + 1) = ((j + 1 : Nat) : Int) := by rw [wrap64 (by omega) (by omega)]; omega
        by_cases hltj : j < 4
        · have h4 : (fourK keys n).length = 4 := rfl
          have hV := Valid_spec Y ((fourK keys n).getD (j : Int).toNat default) hY
          have hV2 := RVal_spec Y ((fourK keys n).getD (j : Int).toNat default) hY
          rw [← valid_eq] at hV2
          have hL := LeastA_spec Y ((fourK keys n).getD (j : Int).toNat default) hY
          have hL2 := RLeastA_spec Y ((fourK keys n).getD (j : Int).toNat default) hY
          generalize fourK keys n = KK at *
          generalize validP Y (KK.getD (j : Int).toNat default) = V at hV hV2
          generalize leastA Y (KK.getD (j : Int).toNat default) = LL at hL hL2
          obtain ⟨yn, yw⟩ := Y
          unfold Th.toT at hV hV2 hL hL2
          simp only at hV hV2 hL hL2
          repeat' (first | (with_reducible refine codeT_seq ?_) | (with_reducible refine codeT_block ?_) | (with_reducible refine codeT_skip ?_) | (with_reducible refine codeT_exit ?_) | (with_reducible refine codeT_regionL ?_) | ((with_reducible refine codeT_region_drawL ?_ ?_); · rfl) | (with_reducible refine lx_nil ?_) | (with_reducible refine q_then ?_) | (with_reducible refine q_then_exit ?_) | (with_reducible refine q_block ?_) | ((with_reducible refine q_block_same ?_ ?_); · rfl) | (with_reducible refine q_loop_exit ?_) | ((with_reducible refine q_region_draw ?_ ?_); · rfl) | (exfalso; omega) | (exfalso; simp at hc; done) | ((with_reducible refine g_move ?_); first | refine lx_move (r := (.t _)) rfl rfl rfl rfl rfl ?_) | ((with_reducible refine g_load ?_); first | refine lx_load_varA (r := (.t (.agg _))) rfl rfl rfl rfl rfl rfl rfl rfl rfl ?_ | refine lx_load_tp rfl rfl rfl rfl rfl rfl rfl ?_) | ((with_reducible refine g_binOp ?_); first | refine lx_arith rfl rfl rfl rfl rfl rfl rfl ?_ | refine lx_bool_ne rfl rfl rfl rfl rfl rfl ?_) | ((with_reducible refine g_assign ?_); first | refine lx_assign (r := (.t _)) rfl rfl rfl rfl rfl ?_) | ((with_reducible refine g_pick ?_); first | refine lx_pickF (r := (.t _)) rfl rfl rfl rfl rfl rfl ?_) | ((with_reducible refine g_indexAddr ?_); first | refine lx_indexAddr_map rfl rfl rfl rfl rfl rfl ?_ ?_ ?_) | ((with_reducible refine g_call ?_); first | refine lx_callT rfl rfl hV rfl rfl (ArgsLE.refl _) rfl rfl rfl rfl rfl ?_ | refine lx_callT rfl rfl hV2 rfl rfl (ArgsLE.refl _) rfl rfl rfl rfl rfl ?_ | refine lx_callT rfl rfl hL rfl rfl (ArgsLE.refl _) rfl rfl rfl rfl rfl ?_ | refine lx_callT rfl rfl hL2 rfl rfl (ArgsLE.refl _) rfl rfl rfl rfl rfl ?_) | refine c_condP rfl (fun hc => ?_) (fun hc => ?_) | refine c_condN rfl (fun hc => ?_) (fun hc => ?_) | refine lx_splitN rfl (fun hc => ?_) (fun hc => ?_))
          all_goals try (simp only [List.length_map]; omega)
          all_goals try omega
          all_goals exact q_loop (n' := 4 - (j + 1)) (by omega) (ghost_keep2 [2, 3, 8, 12, 15, 62, 63, 64, 74, 75, 76] [.loc 15] rfl rfl) ⟨j + 1, by omega, rfl, by rw [wj]; rfl, rfl⟩
        · obtain rfl : j = 4 := by omega
          have hsz := hY.1
          have hsl := hY.2
          obtain ⟨yn, yw⟩ := Y
          simp only at hsz hsl
          have hS : ((yw.map frs).take (yw.length : Int).toNat) ++ [T.sl 2 (l.map Fr.toT)] = (yw ++ [l]).map frs := by
            rw [Int.toNat_natCast, show yw.length = (yw.map frs).length from (List.length_map _).symm, List.take_length, List.map_append]; rfl
          have hSl : ((((yw.map frs).take (yw.length : Int).toNat) ++ [T.sl 2 (l.map Fr.toT)]).length : Int) = ((yw ++ [l]).length : Int) := by rw [hS, List.length_map]
          repeat' (first | (with_reducible refine codeT_seq ?_) | (with_reducible refine codeT_block ?_) | (with_reducible refine codeT_exit ?_) | (with_reducible refine codeT_regionL ?_) | (with_reducible refine lx_nil ?_) | (with_reducible refine q_then ?_) | (with_reducible refine q_then_exit ?_) | ((with_reducible refine q_block_same ?_ ?_); · rfl) | (with_reducible refine q_loop_exit ?_) | refine c_condF rfl ?_ | refine lx_slice_slq rfl rfl rfl rfl rfl rfl rfl ?_ ?_ ?_ ?_ | refine lx_buildSliceF rfl rfl rfl rfl rfl rfl ?_ | refine lx_append_slqF rfl rfl rfl rfl rfl rfl rfl ?_ ?_ ?_ ?_ | ((with_reducible refine g_move ?_); first | refine lx_move (r := (.t _)) rfl rfl rfl rfl rfl ?_) | ((with_reducible refine g_load ?_); first | refine lx_load_var rfl rfl rfl rfl rfl rfl rfl rfl ?_) | ((with_reducible refine g_fieldAddr ?_); first | refine lx_fieldAddr rfl rfl rfl rfl rfl rfl rfl ?_) | ((with_reducible refine g_binOp ?_); first | refine lx_arith rfl rfl rfl rfl rfl rfl rfl ?_) | ((with_reducible refine g_len ?_); first | refine lx_len_map rfl rfl rfl rfl rfl ?_ | refine lx_len_sl rfl rfl rfl rfl rfl ?_))
          all_goals try (simp only [List.length_map, List.length_take, List.length_singleton]; omega)
          all_goals try omega
          refine codeT_ghost (ghost_keep2 [2, 3, 8, 12, 62, 63, 64, 108, 109, 110] [] rfl rfl) ?_
          refine codeT_loop (fun p env st => ∃ (j : Nat), j ≤ (yw ++ [l]).length ∧ p = (yw ++ [l]).length - j ∧
              env = EnvL.get [(2, .t (.sl 2 (l.map Fr.toT))), (3, .t (.int .i64 keys)), (8, .t (.bool false)), (12, .t (.int .i64 (n : Int))), (62, .t (.sl 2 (YY.map Th.toT))), (63, .t (.int .i64 2)), (64, .t (.int .i64 (i : Int))), (108, .t (.sl 1 ((yw ++ [l]).map frs))), (109, .t (.int .i64 ((yw ++ [l]).length : Int))), (110, .t (.int .i64 (j : Int)))] ∧
              st = StO.get [])
            ?_ (n := (yw ++ [l]).length) ⟨0, by omega, rfl, by rw [← hS, ← hSl]; rfl, rfl⟩
          rintro p env st ⟨j, hj, rfl, rfl, rfl⟩
          have hZl : (yw ++ [l]).length ≤ 1001 := by rw [List.length_append, List.length_singleton]; omega
          have hZs : ∀ z ∈ yw ++ [l], z.length ≤ 1000 := fun z hz => by
            rcases List.mem_append.1 hz with h | h
            · exact hsl z h
            · rw [List.mem_singleton.1 h]; omega
          clear hS hSl
          generalize yw ++ [l] = Z at *
          have wj : IntKind.i64.wrap ((j : Int) + 1) = ((j + 1 : Nat) : Int) := by rw [wrap64 (by omega) (by omega)]; omega
          by_cases hltj : j < Z.length
          · have hz := hZs _ (getD_mem hltj)
            have hS1 := Sum_spec (Z.getD (j : Int).toNat default) (by omega)
            have hS2 := RSum_spec (Z.getD (j : Int).toNat default) (by omega)
            generalize sumF (Z.getD (j : Int).toNat default) = S at hS1 hS2
            generalize sumE (Z.getD (j : Int).toNat default) = E at hS1 hS2
            obtain ⟨sn, sd⟩ := S
            unfold Fr.toT at hS1 hS2
            simp only at hS1 hS2
            repeat' (first | (with_reducible refine codeT_seq ?_) | (with_reducible refine codeT_block ?_) | (with_reducible refine codeT_skip ?_) | (with_reducible refine codeT_exit ?_) | (with_reducible refine codeT_regionL ?_) | (with_reducible refine lx_nil ?_) | (with_reducible refine q_then ?_) | (with_reducible refine q_then_exit ?_) | (with_reducible refine q_block ?_) | ((with_reducible refine q_block_same ?_ ?_); · rfl) | (with_reducible refine q_loop_exit ?_) | (exfalso; omega) | refine lx_neagg (flat38b _ _ _ _) eq38e (fr_eqb _ _) rfl rfl rfl rfl rfl rfl ?_ | ((with_reducible refine g_move ?_); first | refine lx_move (r := (.t _)) rfl rfl rfl rfl rfl ?_ | refine lx_move (r := (.tup _)) rfl rfl rfl rfl rfl ?_) | ((with_reducible refine g_load ?_); first | refine lx_load_varA (r := (.t (.agg _))) rfl rfl rfl rfl rfl rfl rfl rfl rfl ?_ | refine lx_load_tp rfl rfl rfl rfl rfl rfl rfl ?_) | ((with_reducible refine g_binOp ?_); first | refine lx_arith rfl rfl rfl rfl rfl rfl rfl ?_) | ((with_reducible refine g_assign ?_); first | refine lx_assign (r := (.t _)) rfl rfl rfl rfl rfl ?_) | ((with_reducible refine g_pick ?_); first | refine lx_pickF (r := (.t _)) rfl rfl rfl rfl rfl rfl ?_) | ((with_reducible refine g_alloc ?_); first | refine lx_alloc rfl rfl rfl rfl rfl rfl rfl ?_) | ((with_reducible refine g_store ?_); first | refine lx_store_var (r := (.t (.agg _))) rfl rfl rfl rfl rfl rfl rfl rfl rfl rfl ?_) | ((with_reducible refine g_indexAddr ?_); first | refine lx_indexAddr_map rfl rfl rfl rfl rfl rfl ?_ ?_ ?_) | ((with_reducible refine g_extract ?_); first | refine lx_extract rfl rfl rfl rfl rfl rfl ?_) | ((with_reducible refine g_call ?_); first | refine lx_callT rfl rfl hS1 rfl rfl (ArgsLE.refl _) rfl rfl rfl rfl rfl ?_ | refine lx_callT rfl rfl hS2 rfl rfl (ArgsLE.refl _) rfl rfl rfl rfl rfl ?_) | refine c_condP rfl (fun hc => ?_) (fun hc => ?_) | refine c_condN rfl (fun hc => ?_) (fun hc => ?_))
            all_goals try (simp only [List.length_map]; omega)
            all_goals try omega
            all_goals exact q_loop (n' := Z.length - (j + 1)) (by omega) (ghost_keep2 [2, 3, 8, 12, 62, 63, 64, 108, 109, 110] [] rfl rfl) ⟨j + 1, by omega, rfl, by rw [wj]; rfl, rfl⟩
          · obtain rfl : j = Z.length := by omega
            repeat' (first | (with_reducible refine codeT_seq ?_) | (with_reducible refine codeT_block ?_) | (with_reducible refine codeT_skip ?_) | (with_reducible refine codeT_exit ?_) | (with_reducible refine codeT_regionL ?_) | (with_reducible refine lx_nil ?_) | (with_reducible refine q_then ?_) | (with_reducible refine q_then_exit ?_) | (with_reducible refine q_block ?_) | ((with_reducible refine q_block_same ?_ ?_); · rfl) | (with_reducible refine q_loop_exit ?_) | (exfalso; omega) | ((with_reducible refine g_move ?_); first | refine lx_move (r := (.t _)) rfl rfl rfl rfl rfl ?_) | ((with_reducible refine g_binOp ?_); first | refine lx_arith rfl rfl rfl rfl rfl rfl rfl ?_) | refine c_condP rfl (fun hc => ?_) (fun hc => ?_))
            exact q_loop (n' := 2 - (i + 1)) (by omega) (ghost_keep2 [2, 3, 8, 12, 62, 63, 64] [] rfl rfl) ⟨i + 1, by omega, rfl, by rw [wi]; rfl, rfl⟩
      · obtain rfl : i = 2 := by omega
        repeat' (first | (with_reducible refine codeT_seq ?_) | (with_reducible refine codeT_ret ?_) | (with_reducible refine codeT_exit ?_) | (with_reducible refine codeT_regionL ?_) | (with_reducible refine lx_nil ?_) | (with_reducible refine q_then ?_) | (with_reducible refine q_then_exit ?_) | ((with_reducible refine q_block_same ?_ ?_); · rfl) | (with_reducible refine q_loop_exit ?_) | refine c_condF rfl ?_ | ((with_reducible refine g_binOp ?_); first | refine lx_arith rfl rfl rfl rfl rfl rfl rfl ?_) | ((with_reducible refine g_assign ?_); first | refine lx_assign (r := (.t _)) rfl rfl rfl rfl rfl ?_) | ((with_reducible refine g_call ?_); first | refine lx_callT rfl rfl hA rfl rfl (ArgsLE.refl _) rfl rfl rfl rfl rfl ?_))
        exact q_done (q_ret (resT_oneE rfl rfl rfl) (stHas_spec trivial))
  · obtain ⟨rn, rw0⟩ := raw
    unfold Th.toT frs
    simp only at hg ⊢
    by_cases h1 : (t.length : Int) ≤ 500
    · rw [decide_eq_true h1] at hLt
      refine spec_intro (env0 := [(0, _), (1, _), (2, _), (3, _)]) (st0 := []) Try.func6 rfl rfl rfl rfl ?_
      repeat' (first | (with_reducible refine codeT_seq ?_) | (with_reducible refine codeT_skip ?_) | (with_reducible refine codeT_ret ?_) | (with_reducible refine codeT_regionL ?_) | (with_reducible refine lx_nil ?_) | (with_reducible refine q_then ?_) | (with_reducible refine q_then_ret ?_) | refine c_condT rfl ?_ | (exfalso; omega) | ((with_reducible refine g_guard ?_); first | refine lx_skip rfl rfl rfl ?_) | ((with_reducible refine g_move ?_); first | refine lx_move (r := (.t _)) rfl rfl rfl rfl rfl ?_) | ((with_reducible refine g_load ?_); first | refine lx_load_var rfl rfl rfl rfl rfl rfl rfl rfl ?_) | ((with_reducible refine g_fieldAddr ?_); first | refine lx_fieldAddr rfl rfl rfl rfl rfl rfl rfl ?_) | ((with_reducible refine g_binOp ?_); first | refine lx_arith rfl rfl rfl rfl rfl rfl rfl ?_) | ((with_reducible refine g_assign ?_); first | refine lx_assign (r := (.t _)) rfl rfl rfl rfl rfl ?_) | ((with_reducible refine g_pick ?_); first | refine lx_pickT (r := (.t _)) rfl rfl rfl rfl rfl rfl ?_ | refine lx_pickF (r := (.t _)) rfl rfl rfl rfl rfl rfl ?_) | ((with_reducible refine g_box ?_); first | refine lx_box (r := (.t (.agg _))) (cs := (List.map .t _)) rfl rfl rfl rfl rfl rfl rfl rfl rfl ?_) | ((with_reducible refine g_unOp ?_); first | refine lx_not rfl rfl rfl rfl rfl ?_) | ((with_reducible refine g_len ?_); first | refine lx_len_map rfl rfl rfl rfl rfl ?_) | ((with_reducible refine g_call ?_); first | refine lx_callT rfl rfl hLt rfl rfl (ArgsLE.refl _) rfl rfl rfl rfl rfl ?_ | refine lx_callT rfl rfl hA rfl rfl (ArgsLE.refl _) rfl rfl rfl rfl rfl ?_) | refine c_condP rfl (fun hc => ?_) (fun hc => ?_) | refine lx_splitP rfl (fun hc => ?_) (fun hc => ?_))
      all_goals exact q_ret (resT_oneE rfl rfl rfl) (by simp)
    · rw [decide_eq_false h1] at hLt
      refine spec_intro (env0 := [(0, _), (1, _), (2, _), (3, _)]) (st0 := []) Try.func6 rfl rfl rfl rfl ?_
      repeat' (first | (with_reducible refine codeT_seq ?_) | (with_reducible refine codeT_ret ?_) | (with_reducible refine codeT_regionL ?_) | (with_reducible refine lx_nil ?_) | (with_reducible refine q_then ?_) | (with_reducible refine q_then_ret ?_) | refine c_condT rfl ?_ | ((with_reducible refine g_guard ?_); first | refine lx_skip rfl rfl rfl ?_) | ((with_reducible refine g_move ?_); first | refine lx_move (r := (.t _)) rfl rfl rfl rfl rfl ?_) | ((with_reducible refine g_assign ?_); first | refine lx_assign (r := (.t _)) rfl rfl rfl rfl rfl ?_) | ((with_reducible refine g_pick ?_); first | refine lx_pickT (r := (.t _)) rfl rfl rfl rfl rfl rfl ?_) | ((with_reducible refine g_box ?_); first | refine lx_box (r := (.t (.agg _))) (cs := (List.map .t _)) rfl rfl rfl rfl rfl rfl rfl rfl rfl ?_) | ((with_reducible refine g_unOp ?_); first | refine lx_not rfl rfl rfl rfl rfl ?_) | ((with_reducible refine g_call ?_); first | refine lx_callT rfl rfl hLt rfl rfl (ArgsLE.refl _) rfl rfl rfl rfl rfl ?_ | refine lx_callT rfl rfl hA rfl rfl (ArgsLE.refl _) rfl rfl rfl rfl rfl ?_))
      exact q_ret (resT_oneE rfl rfl rfl) (by simp)
end Go.AL
/- What arguments that are fractions or thresholds read as. -/
set_option linter.unusedVariables false
namespace Go.AL
open Go Go.Proofs Go.RowKit Go.ChangeShapes Go.WideShapes

set_option maxRecDepth 100000 in
theorem fr_open {H : Type} {enc : TypeId × Value → H} {w : World} {base : Nat} {spare : Nat → Bool} {held : Bool} {mul : TypeId → Nat} {wt : TypeId → DataW H → List Nat} {B : Nat} (hwt : WtOK Try.prog mul wt) (fuel : Nat) (cs : List Value) (d : DataW H × List MemPlace) (h : DataW.trod enc Try.prog w base spare held fuel 38 cs = some d) (hB : ∀ n ∈ wt 38 d.1, n ≤ B) :
    ∃ x : Fr, cs.length = 2 ∧ ∀ (g : Nat → Option Value) (o : Nat), (∀ i u, cs[i]? = some u → g (o + i) = some u) → RepL (heapOf w) g o x.toT.cells := by
  obtain ⟨xs, m, hfu, rfl, hl, hlen, hf⟩ := DataW.trod_struct Try.underlying38 h
  have hc2 : Try.prog.cellsOf 38 = 2 := by kernel_rfl
  rw [hc2] at hl
  have hlen2 : xs.length = 2 := hlen
  obtain ⟨y0, y1, rfl⟩ : ∃ y0 y1, xs = [y0, y1] := by
    match xs, hlen2 with
    | [y0, y1], _ => exact ⟨_, _, rfl⟩
  obtain ⟨u0, u1, rfl⟩ : ∃ u0 u1, cs = [u0, u1] := by
    match cs, hl with
    | [u0, u1], _ => exact ⟨_, _, rfl⟩
  have part : ∀ {fs : Array Field} (hu : Try.prog.underlying 38 = some (.struct fs)) (i : Nat) (f : Field) (p : DataW H × List MemPlace), fs[i]? = some f → [y0, y1][i]? = some p → ∀ n ∈ wt f.type p.1, n ≤ B := fun {fs} hu i f p h1 h2 n hn => by
    obtain ⟨q, k1, k2⟩ := hwt.part 38 fs ([y0, y1].map (·.1)) i f p.1 hu h1 (by rw [List.getElem?_map, h2]; rfl) n hn
    exact Nat.le_trans k2 (hB q k1)
  have c3 : Try.prog.cellsOf 3 = 1 := by kernel_rfl
  have f0 : DataW.trod enc Try.prog w base spare held m 3 (([u0, u1].drop 0).take (Try.prog.cellsOf 3)) = some y0 := hf 0 _ rfl
  have f1 : DataW.trod enc Try.prog w base spare held m 3 (([u0, u1].drop 1).take (Try.prog.cellsOf 3)) = some y1 := hf 1 _ rfl
  rw [c3] at f0 f1
  obtain ⟨a, _, _, r0⟩ := (Rd.int (k := .i64) Try.underlying3).opens f0 hwt (part Try.underlying38 0 _ y0 rfl rfl)
  obtain ⟨b, _, _, r1⟩ := (Rd.int (k := .i64) Try.underlying3).opens f1 hwt (part Try.underlying38 1 _ y1 rfl rfl)
  refine ⟨⟨a, b⟩, rfl, fun g o hg => ?_⟩
  simp only [Fr.toT, T.cells, RepL, and_true]
  have s0 := r0 g o (fun i u hu => by match i, hu with | 0, hu => exact hg 0 u hu)
  have s1 := r1 g (o + 1) (fun i u hu => by match i, hu with | 0, hu => exact hg 1 u hu)
  simp only [Rd.int, T.cells, RepL, and_true] at s0 s1
  exact ⟨s0, s1⟩
set_option maxRecDepth 100000 in
def rdFr : Rd Try.prog 38 2 Fr where
  toT := Fr.toT
  ok mul B x := True
  len x := rfl
  opens h mul wt B hwt hB := by
    obtain ⟨x, h1, h2⟩ := fr_open hwt _ _ _ h hB
    exact ⟨x, trivial, h1, h2⟩
  one hd hv mul wt B hwt hB := by
    obtain ⟨fuel, hf⟩ := hd
    obtain ⟨vs, rfl, hs⟩ := okWide_struct Try.underlying38 hv
    obtain ⟨x, h2, h3⟩ := fr_open hwt _ _ _ hf hB
    refine ⟨x, trivial, ?_⟩
    have hc := h3 (fun j => vs[j]?) 0 (fun i u hu => by simpa [Value.cells] using hu)
    simp only [Fr.toT] at hc ⊢
    simp only [RepT]
    simp only [T.cells] at hc
    refine ⟨vs, rfl, ?_, hc⟩
    have hc2 : Try.prog.cellsOf 38 = 2 := by kernel_rfl
    rw [hs, hc2]; rfl
def rdFrs : Rd Try.prog 39 1 (List Fr) := Rd.list Try.underlying39 (by kernel_rfl) (by decide) rdFr
def rdFrss : Rd Try.prog 28 1 (List (List Fr)) := Rd.list Try.underlying28 (by kernel_rfl) (by decide) rdFrs
set_option maxRecDepth 100000 in
theorem th_open {H : Type} {enc : TypeId × Value → H} {w : World} {base : Nat} {spare : Nat → Bool} {held : Bool} {mul : TypeId → Nat} {wt : TypeId → DataW H → List Nat} {B : Nat} (hwt : WtOK Try.prog mul wt) (fuel : Nat) (cs : List Value) (d : DataW H × List MemPlace) (h : DataW.trod enc Try.prog w base spare held fuel 30 cs = some d) (hB : ∀ n ∈ wt 30 d.1, n ≤ B) :
    ∃ x : Th, cs.length = 2 ∧ ∀ (g : Nat → Option Value) (o : Nat), (∀ i u, cs[i]? = some u → g (o + i) = some u) → RepL (heapOf w) g o x.toT.cells := by
  obtain ⟨xs, m, hfu, rfl, hl, hlen, hf⟩ := DataW.trod_struct Try.underlying30 h
  have hc2 : Try.prog.cellsOf 30 = 2 := by kernel_rfl
  rw [hc2] at hl
  have hlen2 : xs.length = 2 := hlen
  obtain ⟨y0, y1, rfl⟩ : ∃ y0 y1, xs = [y0, y1] := by
    match xs, hlen2 with
    | [y0, y1], _ => exact ⟨_, _, rfl⟩
  obtain ⟨u0, u1, rfl⟩ : ∃ u0 u1, cs = [u0, u1] := by
    match cs, hl with
    | [u0, u1], _ => exact ⟨_, _, rfl⟩
  have part : ∀ {fs : Array Field} (hu : Try.prog.underlying 30 = some (.struct fs)) (i : Nat) (f : Field) (p : DataW H × List MemPlace), fs[i]? = some f → [y0, y1][i]? = some p → ∀ n ∈ wt f.type p.1, n ≤ B := fun {fs} hu i f p h1 h2 n hn => by
    obtain ⟨q, k1, k2⟩ := hwt.part 30 fs ([y0, y1].map (·.1)) i f p.1 hu h1 (by rw [List.getElem?_map, h2]; rfl) n hn
    exact Nat.le_trans k2 (hB q k1)
  have c3 : Try.prog.cellsOf 3 = 1 := by kernel_rfl
  have c28 : Try.prog.cellsOf 28 = 1 := by kernel_rfl
  have f0 : DataW.trod enc Try.prog w base spare held m 3 (([u0, u1].drop 0).take (Try.prog.cellsOf 3)) = some y0 := hf 0 _ rfl
  have f1 : DataW.trod enc Try.prog w base spare held m 28 (([u0, u1].drop 1).take (Try.prog.cellsOf 28)) = some y1 := hf 1 _ rfl
  rw [c3] at f0
  rw [c28] at f1
  obtain ⟨a, _, _, r0⟩ := (Rd.int (k := .i64) Try.underlying3).opens f0 hwt (part Try.underlying30 0 _ y0 rfl rfl)
  obtain ⟨b, _, _, r1⟩ := rdFrss.opens f1 hwt (part Try.underlying30 1 _ y1 rfl rfl)
  refine ⟨⟨a, b⟩, rfl, fun g o hg => ?_⟩
  have s0 := r0 g o (fun i u hu => by match i, hu with | 0, hu => exact hg 0 u hu)
  have s1 := r1 g (o + 1) (fun i u hu => by match i, hu with | 0, hu => exact hg 1 u hu)
  exact ⟨s0.1, s1⟩
set_option maxRecDepth 100000 in
def rdTh : Rd Try.prog 30 2 Th where
  toT := Th.toT
  ok mul B x := True
  len x := rfl
  opens h mul wt B hwt hB := by
    obtain ⟨x, h1, h2⟩ := th_open hwt _ _ _ h hB
    exact ⟨x, trivial, h1, h2⟩
  one hd hv mul wt B hwt hB := by
    obtain ⟨fuel, hf⟩ := hd
    obtain ⟨vs, rfl, hs⟩ := okWide_struct Try.underlying30 hv
    obtain ⟨x, h2, h3⟩ := th_open hwt _ _ _ hf hB
    refine ⟨x, trivial, ?_⟩
    have hc := h3 (fun j => vs[j]?) 0 (fun i u hu => by simpa [Value.cells] using hu)
    simp only [Th.toT] at hc ⊢
    simp only [RepT]
    simp only [T.cells] at hc
    refine ⟨vs, rfl, ?_, hc⟩
    have hc2 : Try.prog.cellsOf 30 = 2 := by kernel_rfl
    rw [hs, hc2]; rfl
end Go.AL
