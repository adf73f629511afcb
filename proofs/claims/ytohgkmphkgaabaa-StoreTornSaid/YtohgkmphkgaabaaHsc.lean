/- What the document's block of SHA-256 answers. -/
import Derived.Test.YtohgkmphkgaabaaHsa
import Derived.Test.YtohgkmphkgaabaaHsb
set_option linter.unusedVariables false
namespace Go.AL
open Go Go.Proofs Go.RowKit

theorem bL_drop (l : List UInt8) (n i : Nat) : bL (l.drop n) i = bL l (n + i) := by
  unfold bL
  rw [List.getD_eq_getElem?_getD, List.getD_eq_getElem?_getD, List.getElem?_drop]
theorem toList_extract (b : ByteArray) (i j : Nat) : (b.extract i j).data.toList = (b.data.toList.drop i).take (j - i) := by
  simp [ByteArray.data_extract]
theorem wordL_drop (b : ByteArray) (t : Nat) (hb : 64 ≤ b.size) : wordL (b.extract ((4 * t : Nat) : Int).toNat (b.size : Int).toNat).data.toList 0 = wordL b.data.toList t := by
  rw [toList_extract, List.take_of_length_le (by rw [List.length_drop]; have := toList_len b; omega)]
  unfold wordL
  simp only [bL_drop, Int.toNat_natCast, Nat.mul_zero, Nat.add_zero, Nat.zero_add]
set_option maxHeartbeats 8000000 in
theorem block_spec (v : H8) (b : ByteArray) (hb : 64 ≤ b.size) (hb2 : b.size ≤ 1000000000) : Spec Try.prog 69 [.t (.agg v.t), .t (.agg (kTab.map u32T)), .t (.str b)] [] (.t (.agg (addB v b.data.toList).t)) [] := by
  unfold addB
  obtain ⟨V, hV⟩ : ∃ V, V = rounds (sched (loadW b.data.toList)) v := ⟨_, rfl⟩
  obtain ⟨S, hS⟩ : ∃ S, S = sched (loadW b.data.toList) := ⟨_, rfl⟩
  obtain ⟨W, hW⟩ : ∃ W, W = loadW b.data.toList := ⟨_, rfl⟩
  have hWl : W.length = 64 := by rw [hW]; exact loadW_len _
  have hSl : S.length = 64 := by rw [hS, ← hW, sched_len]; exact hWl
  rw [← hW] at hS hV
  rw [← hW]
  rw [← hS] at hV ⊢
  rw [← hV]
  unfold rounds at hV
  unfold sched at hS
  unfold loadW at hW
  refine spec_introG (env0 := [(0, _), (1, _), (2, _)]) (st0 := []) Try.func69 rfl rfl rfl rfl ?_
  repeat' (first | (with_reducible refine codeT_seq ?_) | (with_reducible refine codeT_block ?_) | (with_reducible refine codeT_regionL ?_) | (with_reducible refine lx_nil ?_) | (with_reducible refine q_then ?_) | ((with_reducible refine g_move ?_); first | refine lx_move (r := (.t _)) rfl rfl rfl rfl rfl ?_) | ((with_reducible refine g_box ?_); first | refine lx_box (r := (.t (.agg _))) (cs := (List.map .t _)) rfl rfl rfl rfl rfl rfl rfl rfl rfl ?_) | ((with_reducible refine g_alloc ?_); first | refine lx_alloc rfl rfl rfl rfl rfl rfl rfl ?_))
  refine codeT_ghost (ghost_rowL (id := .loc 7) rfl (RowLE.arr (es := w0L.map u32T) rfl (u32_flat _)) rfl) ?_
  refine codeT_ghost (ghost_rowL (id := .loc 4) rfl (RowLE.arr (es := kTab.map u32T) rfl (u32_flat _)) rfl) ?_
  obtain ⟨K, hK⟩ : ∃ K, K = kTab := ⟨_, rfl⟩
  have hKl : K.length = 64 := by rw [hK]; rfl
  rw [← hK] at hV ⊢
  refine codeT_ghost (ghost_keep2 [2, 3, 4, 6, 7, 21] [.loc 3, .loc 4, .loc 6, .loc 7] rfl rfl) ?_
  refine codeT_loop (fun p env st => ∃ (t : Nat) (w : List Int), t ≤ 16 ∧ p = 16 - t ∧ w.length = 64 ∧ W = iter (fun t w => w.set t (wordL b.data.toList t)) (16 - t) t w ∧
      env = EnvL.get [(2, .t (.str b)), (3, .ref (.loc 3) 0 0 0), (4, .ref (.loc 4) 0 0 0), (6, .ref (.loc 6) 0 0 0), (7, .ref (.loc 7) 0 0 0), (21, .t (.int .i64 (t : Int)))] ∧
      st = StO.get [(.loc 3, some (.var 88 (v.t.map AV.t))), (.loc 4, some (.arr 96 1 (K.map u32T))), (.loc 6, some (.var 88 [.t (.int .u32 0), .t (.int .u32 0), .t (.int .u32 0), .t (.int .u32 0), .t (.int .u32 0), .t (.int .u32 0), .t (.int .u32 0), .t (.int .u32 0)])), (.loc 7, some (.arr 96 1 (w.map u32T)))])
    ?_ (n := 16) ⟨0, w0L, by omega, rfl, rfl, hW, rfl, rfl⟩
  rintro p env st ⟨t, w, ht, rfl, hw, hi, rfl, rfl⟩
  clear hW
  by_cases hlt : t < 16
  · obtain ⟨c, hc⟩ : ∃ c, 16 - t = c + 1 := ⟨16 - t - 1, by omega⟩
    rw [hc] at hi
    simp only [iter] at hi
    have w0 : IntKind.i64.wrap (4 * (t : Int)) = ((4 * t : Nat) : Int) := by rw [wrap64 (by omega) (by omega)]; omega
    have hW : Spec Try.prog 96 [.t (.str (b.extract (IntKind.i64.wrap (4 * (t : Int))).toNat (b.size : Int).toNat))] [] (.t (.int .u32 (wordL b.data.toList t))) [] := by
      rw [w0, ← wordL_drop b t hb]
      exact qWord_spec _ (by rw [ByteArray.size_extract]; omega)
    repeat' (first | (with_reducible refine codeT_seq ?_) | (with_reducible refine codeT_block ?_) | (with_reducible refine codeT_skip ?_) | (with_reducible refine codeT_exit ?_) | (with_reducible refine codeT_regionL ?_) | (with_reducible refine lx_nil ?_) | (with_reducible refine q_then ?_) | (with_reducible refine q_then_exit ?_) | (with_reducible refine q_block ?_) | ((with_reducible refine q_block_same ?_ ?_); · rfl) | (with_reducible refine q_loop_exit ?_) | ((with_reducible refine g_move ?_); first | refine lx_move (r := (.t _)) rfl rfl rfl rfl rfl ?_) | ((with_reducible refine g_binOp ?_); first | refine lx_arith rfl rfl rfl rfl rfl rfl rfl ?_) | ((with_reducible refine g_assign ?_); first | refine lx_assign (r := (.t _)) rfl rfl rfl rfl rfl ?_) | ((with_reducible refine g_indexAddr ?_); first | refine lx_indexAddr_arr rfl rfl rfl rfl rfl rfl ?_ ?_ ?_) | ((with_reducible refine g_slice ?_); first | refine lx_slice_str rfl rfl ⟨_, rfl⟩ rfl rfl rfl rfl ?_ ?_ ?_ ?_) | ((with_reducible refine g_call ?_); first | refine lx_callT rfl rfl hW rfl rfl (ArgsLE.refl _) rfl rfl rfl rfl rfl ?_) | ((with_reducible refine g_store ?_); first | refine lx_store_arrM rfl rfl rfl rfl rfl rfl rfl ?_ ?_) | refine c_condP rfl (fun hc => ?_) (fun hc => ?_))
    all_goals try simp only [w0]
    all_goals try omega
    exact q_loop (n' := 16 - (t + 1)) (by omega) (ghost_keep2 [2, 3, 4, 6, 7, 21] [.loc 3, .loc 4, .loc 6, .loc 7] rfl rfl) ⟨t + 1, w.set t (wordL b.data.toList t), by omega, rfl, by simpa using hw, by rw [hi, show 16 - (t + 1) = c by omega], by rw [wrap64 (by omega) (by omega)]; rfl, rfl⟩
  · obtain rfl : t = 16 := by omega
    simp only [Nat.sub_self, iter] at hi
    subst hi
    repeat' (first | (with_reducible refine codeT_seq ?_) | (with_reducible refine codeT_block ?_) | (with_reducible refine codeT_exit ?_) | (with_reducible refine codeT_regionL ?_) | (with_reducible refine lx_nil ?_) | (with_reducible refine q_then ?_) | (with_reducible refine q_then_exit ?_) | ((with_reducible refine q_block_same ?_ ?_); · rfl) | (with_reducible refine q_loop_exit ?_) | refine c_condF rfl ?_ | ((with_reducible refine g_binOp ?_); first | refine lx_arith rfl rfl rfl rfl rfl rfl rfl ?_) | ((with_reducible refine g_assign ?_); first | refine lx_assign (r := (.t _)) rfl rfl rfl rfl rfl ?_))
    all_goals try (exfalso; omega)
    refine codeT_ghost (ghost_keep2 [2, 3, 4, 6, 7, 9] [.loc 3, .loc 4, .loc 6, .loc 7] rfl rfl) ?_
    refine codeT_loop (fun p env st => ∃ (t : Nat) (w : List Int), 16 ≤ t ∧ t ≤ 64 ∧ p = 64 - t ∧ w.length = 64 ∧ S = iter schedStep (64 - t) t w ∧
        env = EnvL.get [(2, .t (.str b)), (3, .ref (.loc 3) 0 0 0), (4, .ref (.loc 4) 0 0 0), (6, .ref (.loc 6) 0 0 0), (7, .ref (.loc 7) 0 0 0), (9, .t (.int .i64 (t : Int)))] ∧
        st = StO.get [(.loc 3, some (.var 88 (v.t.map AV.t))), (.loc 4, some (.arr 96 1 (K.map u32T))), (.loc 6, some (.var 88 [.t (.int .u32 0), .t (.int .u32 0), .t (.int .u32 0), .t (.int .u32 0), .t (.int .u32 0), .t (.int .u32 0), .t (.int .u32 0), .t (.int .u32 0)])), (.loc 7, some (.arr 96 1 (w.map u32T)))])
      ?_ (n := 48) ⟨16, W, by omega, by omega, rfl, hw, hS, rfl, rfl⟩
    rintro p env st ⟨t, w, ht0, ht, rfl, hwl, hi, rfl, rfl⟩
    clear hS
    by_cases hlt : t < 64
    · obtain ⟨c, hc⟩ : ∃ c, 64 - t = c + 1 := ⟨64 - t - 1, by omega⟩
      rw [hc] at hi
      simp only [iter, schedStep] at hi
      have w0 : IntKind.i64.wrap ((t : Int) - 15) = ((t - 15 : Nat) : Int) := by rw [wrap64 (by omega) (by omega)]; omega
      have w1 : IntKind.i64.wrap ((t : Int) - 2) = ((t - 2 : Nat) : Int) := by rw [wrap64 (by omega) (by omega)]; omega
      have w2 : IntKind.i64.wrap ((t : Int) - 7) = ((t - 7 : Nat) : Int) := by rw [wrap64 (by omega) (by omega)]; omega
      have w3 : IntKind.i64.wrap ((t : Int) - 16) = ((t - 16 : Nat) : Int) := by rw [wrap64 (by omega) (by omega)]; omega
      have r7 := fun x => qRight_spec x 7 (by omega) (by omega)
      have r18 := fun x => qRight_spec x 18 (by omega) (by omega)
      have r17 := fun x => qRight_spec x 17 (by omega) (by omega)
      have r19 := fun x => qRight_spec x 19 (by omega) (by omega)
      repeat' (first | (with_reducible refine codeT_seq ?_) | (with_reducible refine codeT_block ?_) | (with_reducible refine codeT_skip ?_) | (with_reducible refine codeT_exit ?_) | (with_reducible refine codeT_regionL ?_) | ((with_reducible refine codeT_region_drawL ?_ ?_); · rfl) | (with_reducible refine lx_nil ?_) | (with_reducible refine q_then ?_) | (with_reducible refine q_then_exit ?_) | (with_reducible refine q_block ?_) | ((with_reducible refine q_block_same ?_ ?_); · rfl) | (with_reducible refine q_loop_exit ?_) | ((with_reducible refine q_region_draw ?_ ?_); · rfl) | ((with_reducible refine g_move ?_); first | refine lx_move (r := (.t _)) rfl rfl rfl rfl rfl ?_) | ((with_reducible refine g_load ?_); first | refine lx_load_varA (r := (.t (.agg _))) rfl rfl rfl rfl rfl rfl rfl rfl rfl ?_) | ((with_reducible refine g_binOp ?_); first | refine lx_arith rfl rfl rfl rfl rfl rfl rfl ?_ | refine lx_shr rfl rfl rfl rfl rfl rfl (by decide) ?_) | ((with_reducible refine g_assign ?_); first | refine lx_assign (r := (.t _)) rfl rfl rfl rfl rfl ?_) | ((with_reducible refine g_alloc ?_); first | refine lx_alloc rfl rfl rfl rfl rfl rfl rfl ?_) | ((with_reducible refine g_store ?_); first | refine lx_store_var (r := (.t (.agg _))) rfl rfl rfl rfl rfl rfl rfl rfl rfl rfl ?_) | ((with_reducible refine g_indexAddr ?_); first | refine lx_indexAddr_arr rfl rfl rfl rfl rfl rfl ?_ ?_ ?_) | ((with_reducible refine g_call ?_); first | refine lx_callT rfl rfl (r7 _) rfl rfl (ArgsLE.refl _) rfl rfl rfl rfl rfl ?_ | refine lx_callT rfl rfl (r18 _) rfl rfl (ArgsLE.refl _) rfl rfl rfl rfl rfl ?_ | refine lx_callT rfl rfl (r17 _) rfl rfl (ArgsLE.refl _) rfl rfl rfl rfl rfl ?_ | refine lx_callT rfl rfl (r19 _) rfl rfl (ArgsLE.refl _) rfl rfl rfl rfl rfl ?_) | ((with_reducible refine g_load ?_); first | refine lx_load_arrM rfl rfl rfl rfl rfl rfl rfl rfl ?_ ?_) | ((with_reducible refine g_store ?_); first | refine lx_store_arrM rfl rfl rfl rfl rfl rfl rfl ?_ ?_) | refine c_condP rfl (fun hc => ?_) (fun hc => ?_))
      all_goals try simp only [w0, w1, w2, w3]
      all_goals try omega
      all_goals try (rw [Int.toNat_natCast]; omega)
      exact q_loop (n' := 64 - (t + 1)) (by omega) (ghost_keep2 [2, 3, 4, 6, 7, 9] [.loc 3, .loc 4, .loc 6, .loc 7] rfl rfl) ⟨t + 1, _, by omega, by omega, rfl, by rw [List.length_set]; exact hwl, by rw [hi, show 64 - (t + 1) = c by omega]; rfl, by rw [wrap64 (by omega) (by omega)]; rfl, rfl⟩
    · obtain rfl : t = 64 := by omega
      simp only [Nat.sub_self, iter] at hi
      subst hi
      repeat' (first | (with_reducible refine codeT_seq ?_) | (with_reducible refine codeT_block ?_) | (with_reducible refine codeT_exit ?_) | (with_reducible refine codeT_regionL ?_) | (with_reducible refine lx_nil ?_) | (with_reducible refine q_then ?_) | (with_reducible refine q_then_exit ?_) | ((with_reducible refine q_block_same ?_ ?_); · rfl) | (with_reducible refine q_loop_exit ?_) | refine c_condF rfl ?_ | ((with_reducible refine g_move ?_); first | refine lx_move (r := (.t _)) rfl rfl rfl rfl rfl ?_) | ((with_reducible refine g_load ?_); first | refine lx_load_varA (r := (.t (.agg _))) rfl rfl rfl rfl rfl rfl rfl rfl rfl ?_) | ((with_reducible refine g_binOp ?_); first | refine lx_arith rfl rfl rfl rfl rfl rfl rfl ?_) | ((with_reducible refine g_alloc ?_); first | refine lx_alloc rfl rfl rfl rfl rfl rfl rfl ?_) | ((with_reducible refine g_store ?_); first | refine lx_store_var (r := (.t (.agg _))) rfl rfl rfl rfl rfl rfl rfl rfl rfl rfl ?_))
      all_goals try (exfalso; omega)
      refine codeT_ghost (ghost_keep2 [3, 4, 6, 7, 14, 76] [.loc 3, .loc 4, .loc 6, .loc 7, .loc 14] rfl rfl) ?_
      refine codeT_loop (fun p env st => ∃ (t : Nat) (r : H8), t ≤ 64 ∧ p = 64 - t ∧ V = iter (fun t v => rnd (K.getD t 0) (S.getD t 0) v) (64 - t) t r ∧
          env = EnvL.get [(3, .ref (.loc 3) 0 0 0), (4, .ref (.loc 4) 0 0 0), (6, .ref (.loc 6) 0 0 0), (7, .ref (.loc 7) 0 0 0), (14, .ref (.loc 14) 0 0 0), (76, .t (.int .i64 (t : Int)))] ∧
          st = StO.get [(.loc 3, some (.var 88 (v.t.map AV.t))), (.loc 4, some (.arr 96 1 (K.map u32T))), (.loc 6, some (.var 88 [.t (.int .u32 0), .t (.int .u32 0), .t (.int .u32 0), .t (.int .u32 0), .t (.int .u32 0), .t (.int .u32 0), .t (.int .u32 0), .t (.int .u32 0)])), (.loc 7, some (.arr 96 1 (S.map u32T))), (.loc 14, some (.var 88 (r.t.map AV.t)))])
        ?_ (n := 64) ⟨0, v, by omega, rfl, hV, rfl, rfl⟩
      rintro p env st ⟨t, r, ht, rfl, hi, rfl, rfl⟩
      clear hV
      by_cases hlt : t < 64
      · obtain ⟨c, hc⟩ : ∃ c, 64 - t = c + 1 := ⟨64 - t - 1, by omega⟩
        rw [hc] at hi
        simp only [iter] at hi
        obtain ⟨a1, a2, a3, a4, a5, a6, a7, a8⟩ := r
        have r6 := fun x => qRight_spec x 6 (by omega) (by omega)
        have r11 := fun x => qRight_spec x 11 (by omega) (by omega)
        have r25 := fun x => qRight_spec x 25 (by omega) (by omega)
        have r2 := fun x => qRight_spec x 2 (by omega) (by omega)
        have r13 := fun x => qRight_spec x 13 (by omega) (by omega)
        have r22 := fun x => qRight_spec x 22 (by omega) (by omega)
        simp only [H8.t, List.map_cons, List.map_nil]
        repeat' (first | (with_reducible refine codeT_seq ?_) | (with_reducible refine codeT_block ?_) | (with_reducible refine codeT_skip ?_) | (with_reducible refine codeT_exit ?_) | (with_reducible refine codeT_regionL ?_) | ((with_reducible refine codeT_region_drawL ?_ ?_); · rfl) | (with_reducible refine lx_nil ?_) | (with_reducible refine q_then ?_) | (with_reducible refine q_then_exit ?_) | (with_reducible refine q_block ?_) | ((with_reducible refine q_block_same ?_ ?_); · rfl) | (with_reducible refine q_loop_exit ?_) | ((with_reducible refine q_region_draw ?_ ?_); · rfl) | ((with_reducible refine g_move ?_); first | refine lx_move (r := (.t _)) rfl rfl rfl rfl rfl ?_) | ((with_reducible refine g_load ?_); first | refine lx_load_var rfl rfl rfl rfl rfl rfl rfl rfl ?_) | ((with_reducible refine g_binOp ?_); first | refine lx_arith rfl rfl rfl rfl rfl rfl rfl ?_) | ((with_reducible refine g_assign ?_); first | refine lx_assign (r := (.t _)) rfl rfl rfl rfl rfl ?_) | ((with_reducible refine g_store ?_); first | refine lx_store_var (r := (.t (.agg _))) rfl rfl rfl rfl rfl rfl rfl rfl rfl rfl ?_) | ((with_reducible refine g_indexAddr ?_); first | refine lx_indexAddr_arr rfl rfl rfl rfl rfl rfl ?_ ?_ ?_) | ((with_reducible refine g_unOp ?_); first | refine lx_cpl rfl rfl rfl rfl rfl ?_) | ((with_reducible refine g_call ?_); first | refine lx_callT rfl rfl (r6 _) rfl rfl (ArgsLE.refl _) rfl rfl rfl rfl rfl ?_ | refine lx_callT rfl rfl (r11 _) rfl rfl (ArgsLE.refl _) rfl rfl rfl rfl rfl ?_ | refine lx_callT rfl rfl (r25 _) rfl rfl (ArgsLE.refl _) rfl rfl rfl rfl rfl ?_ | refine lx_callT rfl rfl (r2 _) rfl rfl (ArgsLE.refl _) rfl rfl rfl rfl rfl ?_ | refine lx_callT rfl rfl (r13 _) rfl rfl (ArgsLE.refl _) rfl rfl rfl rfl rfl ?_ | refine lx_callT rfl rfl (r22 _) rfl rfl (ArgsLE.refl _) rfl rfl rfl rfl rfl ?_) | ((with_reducible refine g_load ?_); first | refine lx_load_arrM rfl rfl rfl rfl rfl rfl rfl rfl ?_ ?_) | ((with_reducible refine g_build ?_); first | refine lx_buildArr (r := (.t (.agg _))) rfl rfl rfl rfl rfl rfl rfl ?_) | refine c_condP rfl (fun hc => ?_) (fun hc => ?_))
        all_goals try omega
        all_goals try (rw [Int.toNat_natCast]; omega)
        exact q_loop (n' := 64 - (t + 1)) (by omega) (ghost_keep2 [3, 4, 6, 7, 14, 76] [.loc 3, .loc 4, .loc 6, .loc 7, .loc 14] rfl rfl) ⟨t + 1, rnd (K.getD t 0) (S.getD t 0) ⟨a1, a2, a3, a4, a5, a6, a7, a8⟩, by omega, rfl, by rw [hi, show 64 - (t + 1) = c by omega], by rw [wrap64 (by omega) (by omega)]; rfl, rfl⟩
      · obtain rfl : t = 64 := by omega
        simp only [Nat.sub_self, iter] at hi
        subst hi
        obtain ⟨R, hR⟩ : ∃ R, R = (plus8 v V).l := ⟨_, rfl⟩
        have hR2 : R = iter (addStep v.l) 8 0 V.l := by rw [hR, addStep_all, plus8_comm]
        have hvl : v.l.length = 8 := rfl
        have hrl : V.l.length = 8 := rfl
        repeat' (first | (with_reducible refine codeT_seq ?_) | (with_reducible refine codeT_block ?_) | (with_reducible refine codeT_exit ?_) | (with_reducible refine codeT_regionL ?_) | (with_reducible refine lx_nil ?_) | (with_reducible refine q_then ?_) | (with_reducible refine q_then_exit ?_) | ((with_reducible refine q_block_same ?_ ?_); · rfl) | (with_reducible refine q_loop_exit ?_) | refine c_condF rfl ?_ | ((with_reducible refine g_move ?_); first | refine lx_move (r := (.t _)) rfl rfl rfl rfl rfl ?_) | ((with_reducible refine g_binOp ?_); first | refine lx_arith rfl rfl rfl rfl rfl rfl rfl ?_))
        all_goals try (exfalso; omega)
        refine codeT_ghost (ghost_rowL (id := .loc 3) rfl (RowLE.arr (es := v.l.map u32T) rfl (u32_flat _)) rfl) ?_
        refine codeT_ghost (ghost_rowL (id := .loc 14) rfl (RowLE.arr (es := V.l.map u32T) rfl (u32_flat _)) rfl) ?_
        refine codeT_ghost (ghost_keep2 [3, 6, 14, 156] [.loc 3, .loc 6, .loc 14] rfl rfl) ?_
        obtain ⟨vl, hvl'⟩ : ∃ l, l = v.l := ⟨_, rfl⟩
        obtain ⟨rl, hrl'⟩ : ∃ l, l = V.l := ⟨_, rfl⟩
        rw [← hvl', ← hrl'] at hR2
        rw [← hvl'] at hvl
        rw [← hrl'] at hrl
        refine codeT_loop (fun p env st => ∃ (t : Nat) (l : List Int), t ≤ 8 ∧ p = 8 - t ∧ l.length = 8 ∧ R = iter (addStep vl) (8 - t) t l ∧
            env = EnvL.get [(3, .ref (.loc 3) 0 0 0), (6, .ref (.loc 6) 0 0 0), (14, .ref (.loc 14) 0 0 0), (156, .t (.int .i64 (t : Int)))] ∧
            st = StO.get [(.loc 3, some (.arr 88 1 (vl.map u32T))), (.loc 6, some (.var 88 [.t (.int .u32 0), .t (.int .u32 0), .t (.int .u32 0), .t (.int .u32 0), .t (.int .u32 0), .t (.int .u32 0), .t (.int .u32 0), .t (.int .u32 0)])), (.loc 14, some (.arr 88 1 (l.map u32T)))])
          ?_ (n := 8) ⟨0, rl, by omega, rfl, hrl, hR2, rfl, by rw [hvl', hrl']; rfl⟩
        clear hR2
        rintro p env st ⟨t, l, ht, rfl, hl, hi, rfl, rfl⟩
        by_cases hlt : t < 8
        · obtain ⟨c, hc⟩ : ∃ c, 8 - t = c + 1 := ⟨8 - t - 1, by omega⟩
          rw [hc] at hi
          simp only [iter, addStep] at hi
          repeat' (first | (with_reducible refine codeT_seq ?_) | (with_reducible refine codeT_block ?_) | (with_reducible refine codeT_skip ?_) | (with_reducible refine codeT_exit ?_) | (with_reducible refine codeT_regionL ?_) | ((with_reducible refine codeT_region_drawL ?_ ?_); · rfl) | (with_reducible refine lx_nil ?_) | (with_reducible refine q_then ?_) | (with_reducible refine q_then_exit ?_) | (with_reducible refine q_block ?_) | ((with_reducible refine q_block_same ?_ ?_); · rfl) | (with_reducible refine q_loop_exit ?_) | ((with_reducible refine q_region_draw ?_ ?_); · rfl) | ((with_reducible refine g_move ?_); first | refine lx_move (r := (.t _)) rfl rfl rfl rfl rfl ?_) | ((with_reducible refine g_binOp ?_); first | refine lx_arith rfl rfl rfl rfl rfl rfl rfl ?_) | ((with_reducible refine g_assign ?_); first | refine lx_assign (r := (.t _)) rfl rfl rfl rfl rfl ?_) | ((with_reducible refine g_indexAddr ?_); first | refine lx_indexAddr_arr rfl rfl rfl rfl rfl rfl ?_ ?_ ?_) | ((with_reducible refine g_load ?_); first | refine lx_load_arrM rfl rfl rfl rfl rfl rfl rfl rfl ?_ ?_) | ((with_reducible refine g_store ?_); first | refine lx_store_arrM rfl rfl rfl rfl rfl rfl rfl ?_ ?_) | refine c_condP rfl (fun hc => ?_) (fun hc => ?_))
          all_goals try omega
          all_goals try (rw [Int.toNat_natCast]; omega)
          exact q_loop (n' := 8 - (t + 1)) (by omega) (ghost_keep2 [3, 6, 14, 156] [.loc 3, .loc 6, .loc 14] rfl rfl) ⟨t + 1, _, by omega, rfl, by rw [List.length_set]; exact hl, by rw [hi, show 8 - (t + 1) = c by omega]; rfl, by rw [wrap64 (by omega) (by omega)]; rfl, rfl⟩
        · obtain rfl : t = 8 := by omega
          simp only [Nat.sub_self, iter] at hi
          rw [← hi, hR]
          refine codeT_ghost (ghost_rowL (id := .loc 14) rfl (RowLE.unarr (cs := (plus8 v V).t.map AV.t) rfl (u32_flat _)) rfl) ?_
          generalize plus8 v V = X
          obtain ⟨a1, a2, a3, a4, a5, a6, a7, a8⟩ := X
          simp only [H8.t, H8.l, List.map_cons, List.map_nil]
          repeat' (first | (with_reducible refine codeT_seq ?_) | (with_reducible refine codeT_ret ?_) | (with_reducible refine codeT_exit ?_) | (with_reducible refine codeT_regionL ?_) | (with_reducible refine lx_nil ?_) | (with_reducible refine q_then ?_) | (with_reducible refine q_then_exit ?_) | ((with_reducible refine q_block_same ?_ ?_); · rfl) | (with_reducible refine q_loop_exit ?_) | refine c_condF rfl ?_ | ((with_reducible refine g_load ?_); first | refine lx_load_varA (r := (.t (.agg _))) rfl rfl rfl rfl rfl rfl rfl rfl rfl ?_) | ((with_reducible refine g_binOp ?_); first | refine lx_arith rfl rfl rfl rfl rfl rfl rfl ?_) | ((with_reducible refine g_store ?_); first | refine lx_store_var (r := (.t (.agg _))) rfl rfl rfl rfl rfl rfl rfl rfl rfl rfl ?_))
          refine q_done (q_ret ?_ (stHas_spec trivial)); refine resT_cell rfl rfl rfl inferInstance rfl inferInstance rfl ?_; exact TLe.av (by repeat first | exact TLe.refl _ | exact TLe.nil _ | exact TLe.esl _ | refine TLe.agg ?_ | refine TLs.cons ?_ ?_ | exact TLs.nil)
end Go.AL
/- What SHA-256 answers, in the program. -/
set_option linter.unusedVariables false
namespace Go.AL
open Go Go.Proofs Go.RowKit

set_option maxHeartbeats 1000000 in
theorem begin_spec : Spec Try.prog 64 [] [] (.t (.agg hTab.t)) [] := by
  refine spec_intro (env0 := []) (st0 := []) Try.func64 rfl rfl rfl rfl ?_
  repeat' (first | (with_reducible refine codeT_seq ?_) | (with_reducible refine codeT_ret ?_) | (with_reducible refine codeT_regionL ?_) | (with_reducible refine lx_nil ?_) | (with_reducible refine q_then ?_) | ((with_reducible refine g_alloc ?_); first | refine lx_alloc rfl rfl rfl rfl rfl rfl rfl ?_) | ((with_reducible refine g_store ?_); first | refine lx_store_var (r := (.t (.agg _))) rfl rfl rfl rfl rfl rfl rfl rfl rfl rfl ?_) | ((with_reducible refine g_build ?_); first | refine lx_buildArr (r := (.t (.agg _))) rfl rfl rfl rfl rfl rfl rfl ?_))
  refine q_ret ?_ (stHas_spec trivial); refine resT_cell rfl rfl rfl inferInstance rfl inferInstance rfl ?_; exact TLe.av (by repeat first | exact TLe.refl _ | exact TLe.nil _ | exact TLe.esl _ | refine TLe.agg ?_ | refine TLs.cons ?_ ?_ | exact TLs.nil)
set_option maxHeartbeats 1000000 in
theorem first_spec : Spec Try.prog 67 [] [] (.t (.agg hTab.t)) [] := by
  refine spec_intro (env0 := []) (st0 := []) Try.func67 rfl rfl rfl rfl ?_
  repeat' (first | (with_reducible refine codeT_seq ?_) | (with_reducible refine codeT_ret ?_) | (with_reducible refine codeT_regionL ?_) | (with_reducible refine lx_nil ?_) | (with_reducible refine q_then ?_) | ((with_reducible refine g_alloc ?_); first | refine lx_alloc rfl rfl rfl rfl rfl rfl rfl ?_) | ((with_reducible refine g_store ?_); first | refine lx_store_var (r := (.t (.agg _))) rfl rfl rfl rfl rfl rfl rfl rfl rfl rfl ?_) | ((with_reducible refine g_build ?_); first | refine lx_buildArr (r := (.t (.agg _))) rfl rfl rfl rfl rfl rfl rfl ?_))
  refine q_ret ?_ (stHas_spec trivial); refine resT_cell rfl rfl rfl inferInstance rfl inferInstance rfl ?_; exact TLe.av (by repeat first | exact TLe.refl _ | exact TLe.nil _ | exact TLe.esl _ | refine TLe.agg ?_ | refine TLs.cons ?_ ?_ | exact TLs.nil)
set_option maxHeartbeats 4000000 in
set_option maxRecDepth 10000 in
theorem qconst_spec : Spec Try.prog 68 [] [] (.t (.agg (kTab.map u32T))) [] := by
  refine spec_intro (env0 := []) (st0 := []) Try.func68 rfl rfl rfl rfl ?_
  repeat' (first | (with_reducible refine codeT_seq ?_) | (with_reducible refine codeT_ret ?_) | (with_reducible refine codeT_regionL ?_) | (with_reducible refine lx_nil ?_) | (with_reducible refine q_then ?_) | ((with_reducible refine g_alloc ?_); first | refine lx_alloc rfl rfl rfl rfl rfl rfl rfl ?_) | ((with_reducible refine g_store ?_); first | refine lx_store_var (r := (.t (.agg _))) rfl rfl rfl rfl rfl rfl rfl rfl rfl rfl ?_) | ((with_reducible refine g_build ?_); first | refine lx_buildArr (r := (.t (.agg _))) rfl rfl rfl rfl rfl rfl rfl ?_))
  refine q_ret ?_ (stHas_spec trivial); refine resT_cell rfl rfl rfl inferInstance rfl inferInstance rfl ?_; exact TLe.av (by repeat first | exact TLe.refl _ | exact TLe.nil _ | exact TLe.esl _ | refine TLe.agg ?_ | refine TLs.cons ?_ ?_ | exact TLs.nil)
set_option maxHeartbeats 4000000 in
set_option maxRecDepth 10000 in
theorem const_spec : Spec Try.prog 65 [] [] (.ref (.res 0) 0 0 0) [(.res 0, .arr 96 1 (kTab.map u32T))] := by
  refine spec_introG (env0 := []) (st0 := []) Try.func65 rfl rfl rfl rfl ?_
  repeat' (first | (with_reducible refine codeT_seq ?_) | (with_reducible refine codeT_ret ?_) | (with_reducible refine codeT_regionL ?_) | (with_reducible refine lx_nil ?_) | (with_reducible refine q_then ?_) | ((with_reducible refine g_assign ?_); first | refine lx_assign (r := (.t _)) rfl rfl rfl rfl rfl ?_ | refine lx_assign (r := (.ref _ _ _ _)) rfl rfl rfl rfl rfl ?_) | ((with_reducible refine g_box ?_); first | refine lx_box (r := (.t (.agg _))) (cs := (List.map .t _)) rfl rfl rfl rfl rfl rfl rfl rfl rfl ?_) | ((with_reducible refine g_build ?_); first | refine lx_buildArr (r := (.t (.agg _))) rfl rfl rfl rfl rfl rfl rfl ?_))
  refine q_ghost (ghost_rowL (id := .loc 2) rfl (RowLE.arr (es := kTab.map u32T) rfl (u32_flat _)) rfl) ?_
  refine q_ghost ((ghost_keep2 [0] [.loc 2] rfl rfl).trans (ghost_renL2 (.loc 2) (.res 0) rfl rfl rfl rfl)) ?_
  exact q_done (q_ret (resT_one rfl (AVLE.refl _)) (stHas_spec ⟨rfl, trivial⟩))
def b0 (x : Int) : Int := IntKind.u8.wrap (x / 2 ^ 24)
def b1 (x : Int) : Int := IntKind.u8.wrap (x / 2 ^ 16)
def b2 (x : Int) : Int := IntKind.u8.wrap (x / 2 ^ 8)
def b3 (x : Int) : Int := IntKind.u8.wrap x
theorem w4_map {x : Int} (h0 : 0 ≤ x) (h1 : x < 4294967296) : [b0 x, b1 x, b2 x, b3 x].map (T.int .u8) = (w4 x).map u8T := by
  obtain ⟨n, rfl⟩ : ∃ n : Nat, x = n := ⟨x.toNat, by omega⟩
  have e0 := shrB n 3
  have e1 := shrB n 2
  have e2 := shrB n 1
  have e3 := shrB n 0
  simp only [Nat.mul_zero, Int.pow_zero, Int.ediv_one] at e3
  unfold w4 b0 b1 b2 b3
  rw [Int.toNat_natCast]
  simp only [bigL, List.map_cons, List.map_nil, u8T]
  rw [← e0, ← e1, ← e2, ← e3]
def outG (f0 f1 f2 f3 : Int → Int) (v : List Int) (i : Nat) (l : List Int) : List Int := (((l.set (4 * i) (f0 (v.getD i 0))).set (4 * i + 1) (f1 (v.getD i 0))).set (4 * i + 2) (f2 (v.getD i 0))).set (4 * i + 3) (f3 (v.getD i 0))
theorem outG_all (f0 f1 f2 f3 : Int → Int) (v : H8) : iter (outG f0 f1 f2 f3 v.l) 8 0 (List.replicate 32 0) = [f0 v.a, f1 v.a, f2 v.a, f3 v.a] ++ [f0 v.b, f1 v.b, f2 v.b, f3 v.b] ++ [f0 v.c, f1 v.c, f2 v.c, f3 v.c] ++ [f0 v.d, f1 v.d, f2 v.d, f3 v.d] ++ [f0 v.e, f1 v.e, f2 v.e, f3 v.e] ++ [f0 v.f, f1 v.f, f2 v.f, f3 v.f] ++ [f0 v.g, f1 v.g, f2 v.g, f3 v.g] ++ [f0 v.h, f1 v.h, f2 v.h, f3 v.h] := by kernel_rfl
theorem out_map (v : H8) (hv : v.In) : (iter (outG b0 b1 b2 b3 v.l) 8 0 (List.replicate 32 0)).map (T.int .u8) = v.out.map u8T := by
  rw [outG_all]
  obtain ⟨h1, h2, h3, h4, h5, h6, h7, h8⟩ := hv
  unfold H8.out
  simp only [List.map_append, w4_map h1.1 h1.2, w4_map h2.1 h2.2, w4_map h3.1 h3.2, w4_map h4.1 h4.2, w4_map h5.1 h5.2, w4_map h6.1 h6.2, w4_map h7.1 h7.2, w4_map h8.1 h8.2]
theorem toList_extr (b : ByteArray) (i j : Nat) : (b.extract i j).data.toList = (b.data.toList.drop i).take (j - i) := by
  simp [ByteArray.data_extract]
theorem u8_flat (l : List Int) : ∀ x ∈ l.map (T.int .u8), x.isAgg = false := fun x hx => by
  obtain ⟨n, _, rfl⟩ := List.mem_map.1 hx; rfl
theorem u8T_flat (l : List UInt8) : ∀ x ∈ l.map u8T, x.isAgg = false := fun x hx => by
  obtain ⟨n, _, rfl⟩ := List.mem_map.1 hx; rfl
set_option maxHeartbeats 8000000 in
theorem Sum_spec (s : ByteArray) (hs : s.size ≤ 40000000) : Spec Try.prog 23 [.t (.str s)] [] (.t (.str (sha s))) [] := by
  obtain ⟨w, hw⟩ : ∃ w : Nat, w = s.size / 64 * 64 := ⟨_, rfl⟩
  have hsp := shaL_split s.data.toList w hw
  rw [toList_len] at hsp
  have e1 : IntKind.i64.wrap (IntKind.i64.wrap ((s.size : Int).tdiv 64) * 64) = (w : Int) := by
    rw [Int.tdiv_eq_ediv_of_nonneg (by omega), wrap64 (n := (s.size : Int) / 64) (by omega) (by omega), wrap64 (by omega) (by omega), hw]; omega
  have hR := rest_spec (s.extract (w : Int).toNat (s.size : Int).toNat) s.size (by rw [ByteArray.size_extract]; omega) (by omega)
  rw [← e1] at hR
  refine spec_intro (env0 := [(0, _)]) (st0 := []) Try.func23 rfl rfl rfl rfl ?_
  repeat' (first | (with_reducible refine codeT_seq ?_) | (with_reducible refine codeT_block ?_) | (with_reducible refine codeT_regionL ?_) | ((with_reducible refine codeT_region_drawL ?_ ?_); · rfl) | (with_reducible refine lx_nil ?_) | (with_reducible refine q_then ?_) | ((with_reducible refine q_region_draw ?_ ?_); · rfl) | ((with_reducible refine g_move ?_); first | refine lx_move (r := (.t _)) rfl rfl rfl rfl rfl ?_) | ((with_reducible refine g_binOp ?_); first | refine lx_arith rfl rfl rfl rfl rfl rfl rfl ?_ | refine lx_quo rfl rfl rfl rfl rfl rfl (by decide) ?_) | ((with_reducible refine g_assign ?_); first | refine lx_assign (r := (.t _)) rfl rfl rfl rfl rfl ?_ | refine lx_assign (r := (.ref _ _ _ _)) rfl rfl rfl rfl rfl ?_) | ((with_reducible refine g_alloc ?_); first | refine lx_alloc rfl rfl rfl rfl rfl rfl rfl ?_) | ((with_reducible refine g_store ?_); first | refine lx_store_var (r := (.t (.agg _))) rfl rfl rfl rfl rfl rfl rfl rfl rfl rfl ?_) | ((with_reducible refine g_slice ?_); first | refine lx_slice_str rfl rfl rfl ⟨_, rfl⟩ rfl rfl rfl ?_ ?_ ?_ ?_ | refine lx_slice_str rfl rfl ⟨_, rfl⟩ rfl rfl rfl rfl ?_ ?_ ?_ ?_) | ((with_reducible refine g_buildSlice ?_); first | refine lx_buildSlice rfl rfl rfl rfl rfl rfl rfl ?_) | ((with_reducible refine g_len ?_); first | refine lx_len_str rfl rfl rfl rfl rfl ?_ | refine lx_len_row rfl rfl rfl rfl rfl rfl ?_) | ((with_reducible refine g_call ?_); first | refine lx_callT rfl rfl begin_spec rfl rfl (ArgsLE.refl _) rfl rfl rfl rfl rfl ?_ | refine lx_call (r' := .ref (.loc 907) 0 0 0) [(.res 0, .loc 907)] rfl rfl const_spec (ArgsLE.refl _) rfl trivial rfl rfl rfl rfl rfl rfl rfl rfl rfl rfl ?_ | refine lx_callT rfl rfl hR rfl rfl (ArgsLE.refl _) rfl rfl rfl rfl rfl ?_))
  all_goals try simp only [e1]
  all_goals try omega
  obtain ⟨A, hA⟩ : ∃ A, A = s.extract (Int.toNat 0) (w : Int).toNat := ⟨_, rfl⟩
  obtain ⟨B, hB⟩ : ∃ B, B = ofL (restL (s.extract (w : Int).toNat (s.size : Int).toNat).data.toList s.size) := ⟨_, rfl⟩
  have hAl : A.data.toList = s.data.toList.take w := by rw [hA, toList_extr]; simp
  have hBx : (s.extract (w : Int).toNat (s.size : Int).toNat).data.toList = s.data.toList.drop w := by
    rw [toList_extr, List.take_of_length_le (by rw [List.length_drop]; have := toList_len s; omega)]; simp
  have hBl : B.data.toList = restL (s.data.toList.drop w) s.size := by rw [hB, ofL_toList, hBx]
  rw [← hA, ← hB]
  have hAs : A.size = w := by rw [← toList_len, hAl, List.length_take]; have := toList_len s; omega
  have hBs : B.size = (restL (s.data.toList.drop w) s.size).length := by rw [← toList_len, hBl]
  have hBm : B.size % 64 = 0 ∧ B.size ≤ 200 := by
    rw [hBs, restL_len, List.length_drop, toList_len]; omega
  refine codeT_ghost (ghost_keep2 [3, 4, 26, 27, 28] [.loc 3, .loc 26, .loc 907] rfl rfl) ?_
  refine codeT_ghost (ghost_freezeL (id := .loc 26) rfl rfl rfl) ?_
  obtain ⟨Hs, hH0, hH1, hH2, hsha⟩ : ∃ Hs : Nat → H8, Hs 0 = hTab ∧ Hs 1 = shaGo (A.size / 64) (Hs 0) A.data.toList ∧ Hs 2 = shaGo (B.size / 64) (Hs 1) B.data.toList ∧ shaL s.data.toList = (Hs 2).out := by
    refine ⟨fun i => match i with | 0 => hTab | 1 => shaGo (A.size / 64) hTab A.data.toList | _ => shaGo (B.size / 64) (shaGo (A.size / 64) hTab A.data.toList) B.data.toList, rfl, rfl, rfl, ?_⟩
    rw [hsp, hBs, hAs, hAl, hBl]; rfl
  have hIn : (Hs 2).In := by rw [hH2, hH1, hH0]; exact shaGo_in _ _ _ (shaGo_in _ _ _ hTab_in)
  obtain ⟨L, hL⟩ : ∃ L, L = [A, B] := ⟨_, rfl⟩
  have hLs : ∀ j, j < 2 → (L.getD j default).size % 64 = 0 ∧ (L.getD j default).size ≤ 40000000 ∧ Hs (j + 1) = shaGo ((L.getD j default).size / 64) (Hs j) (L.getD j default).data.toList := by
    intro j hj
    have : j = 0 ∨ j = 1 := by omega
    rcases this with rfl | rfl
    · rw [hL]; exact ⟨by show A.size % 64 = 0; omega, by show A.size ≤ _; omega, hH1⟩
    · rw [hL]; exact ⟨hBm.1, by show B.size ≤ _; omega, hH2⟩
  refine codeT_ghost (ghost_le 26 (y := .sl 1 (L.map .str)) rfl (by rw [hL]; exact .refl _) rfl) ?_
  have hLl : L.length = 2 := by rw [hL]; rfl
  refine codeT_ghost (ghost_keep2 [3, 4, 26, 27, 28] [.loc 3, .loc 907] rfl rfl) ?_
  refine codeT_loop (fun p env st => ∃ (j : Nat), j ≤ 2 ∧ p = 2 - j ∧
      env = EnvL.get [(3, .ref (.loc 3) 0 0 0), (4, .ref (.loc 907) 0 0 0), (26, .t (.sl 1 (L.map .str))), (27, .t (.int .i64 2)), (28, .t (.int .i64 (j : Int)))] ∧
      st = StO.get [(.loc 3, some (.var 89 ((Hs j).t.map AV.t))), (.loc 907, some (.arr 96 1 (kTab.map u32T)))])
    ?_ (n := 2) ⟨0, by omega, rfl, rfl, by rw [hH0]; rfl⟩
  clear hH0 hH1 hH2 hR hsp hL
  rintro p env st ⟨j, hj, rfl, rfl, rfl⟩
  by_cases hlt : j < 2
  · obtain ⟨m1, m2, m3⟩ := hLs j hlt
    have hg : L.getD (j : Int).toNat default = L.getD j default := rfl
    repeat' (first | (with_reducible refine codeT_seq ?_) | (with_reducible refine codeT_block ?_) | (with_reducible refine codeT_skip ?_) | (with_reducible refine codeT_exit ?_) | (with_reducible refine codeT_regionL ?_) | (with_reducible refine lx_nil ?_) | (with_reducible refine q_then ?_) | (with_reducible refine q_then_exit ?_) | ((with_reducible refine q_block_same ?_ ?_); · rfl) | (with_reducible refine q_loop_exit ?_) | ((with_reducible refine g_move ?_); first | refine lx_move (r := (.t _)) rfl rfl rfl rfl rfl ?_) | ((with_reducible refine g_load ?_); first | refine lx_load_varA (r := (.t (.agg _))) rfl rfl rfl rfl rfl rfl rfl rfl rfl ?_ | refine lx_load_tp rfl rfl rfl rfl rfl rfl rfl ?_) | ((with_reducible refine g_binOp ?_); first | refine lx_arith rfl rfl rfl rfl rfl rfl rfl ?_) | ((with_reducible refine g_assign ?_); first | refine lx_assign (r := (.t _)) rfl rfl rfl rfl rfl ?_) | ((with_reducible refine g_alloc ?_); first | refine lx_alloc rfl rfl rfl rfl rfl rfl rfl ?_) | ((with_reducible refine g_indexAddr ?_); first | refine lx_indexAddr_map rfl rfl rfl rfl rfl rfl ?_ ?_ ?_) | refine c_condP rfl (fun hc => ?_) (fun hc => ?_))
    all_goals try (exfalso; omega)
    · omega
    · omega
    refine codeT_ghost (ghost_keep2 [3, 4, 7, 26, 27, 28] [.loc 3, .loc 907] rfl rfl) ?_
    rw [hg]
    generalize L.getD j default = X at m1 m2 m3 ⊢
    refine codeT_loop (fun p env st => ∃ (k : Nat) (x : ByteArray) (h : H8), p = k ∧ x.size = 64 * k ∧ x.size ≤ 40000000 ∧ Hs (j + 1) = shaGo k h x.data.toList ∧
        env = EnvL.get [(3, .ref (.loc 3) 0 0 0), (4, .ref (.loc 907) 0 0 0), (7, .t (.str x)), (26, .t (.sl 1 (L.map .str))), (27, .t (.int .i64 2)), (28, .t (.int .i64 (j : Int)))] ∧
        st = StO.get [(.loc 3, some (.var 89 (h.t.map AV.t))), (.loc 907, some (.arr 96 1 (kTab.map u32T)))])
      ?_ (n := X.size / 64) ⟨X.size / 64, X, Hs j, rfl, by omega, m2, m3, rfl, rfl⟩
    rintro k env st ⟨k', x, h, rfl, hx, hx2, hh, rfl, rfl⟩
    by_cases hk : k = 0
    · subst hk
      have hxe : x = ⟨#[]⟩ := by
        have : x.data.toList = [] := List.eq_nil_of_length_eq_zero (by rw [toList_len]; omega)
        have h2 := ofL_of x
        rw [this] at h2
        exact h2.symm
      repeat' (first | (with_reducible refine codeT_seq ?_) | (with_reducible refine codeT_block ?_) | (with_reducible refine codeT_skip ?_) | (with_reducible refine codeT_exit ?_) | (with_reducible refine codeT_regionL ?_) | (with_reducible refine lx_nil ?_) | (with_reducible refine q_then ?_) | (with_reducible refine q_then_exit ?_) | (with_reducible refine q_block ?_) | ((with_reducible refine q_block_same ?_ ?_); · rfl) | (with_reducible refine q_loop_exit ?_) | ((with_reducible refine g_move ?_); first | refine lx_move (r := (.t _)) rfl rfl rfl rfl rfl ?_ | refine lx_move (r := (.ref _ _ _ _)) rfl rfl rfl rfl rfl ?_) | ((with_reducible refine g_binOp ?_); first | refine lx_arith rfl rfl rfl rfl rfl rfl rfl ?_ | refine lx_str_ne rfl rfl rfl rfl rfl rfl ?_) | ((with_reducible refine g_call ?_); first | exact absurd hxe ‹_›) | refine c_condN rfl (fun hc => ?_) (fun hc => ?_))
      exact q_loop (n' := 2 - (j + 1)) (by omega) (ghost_keep2 [3, 4, 26, 27, 28] [.loc 3, .loc 907] rfl rfl) ⟨j + 1, by omega, rfl, by rw [wrap64 (by omega) (by omega)]; rfl, by rw [hh]; rfl⟩
    · obtain ⟨k, rfl⟩ : ∃ c, k = c + 1 := ⟨k - 1, by omega⟩
      have hxe : ¬ x = ⟨#[]⟩ := fun e => by rw [e] at hx; simp [ByteArray.size] at hx
      have hAdd := add_spec h x (by omega) (by omega)
      repeat' (first | (with_reducible refine codeT_seq ?_) | (with_reducible refine codeT_block ?_) | (with_reducible refine codeT_skip ?_) | (with_reducible refine codeT_exit ?_) | (with_reducible refine codeT_regionL ?_) | (with_reducible refine lx_nil ?_) | (with_reducible refine q_then ?_) | (with_reducible refine q_then_exit ?_) | (with_reducible refine q_block ?_) | ((with_reducible refine q_block_same ?_ ?_); · rfl) | (with_reducible refine q_loop_exit ?_) | ((with_reducible refine g_move ?_); first | refine lx_move (r := (.t _)) rfl rfl rfl rfl rfl ?_ | refine lx_move (r := (.ref _ _ _ _)) rfl rfl rfl rfl rfl ?_) | ((with_reducible refine g_binOp ?_); first | refine lx_arith rfl rfl rfl rfl rfl rfl rfl ?_ | refine lx_str_ne rfl rfl rfl rfl rfl rfl ?_) | ((with_reducible refine g_assign ?_); first | refine lx_assign (r := (.t _)) rfl rfl rfl rfl rfl ?_) | ((with_reducible refine g_slice ?_); first | refine lx_slice_str rfl rfl ⟨_, rfl⟩ rfl rfl rfl rfl ?_ ?_ ?_ ?_) | ((with_reducible refine g_call ?_); first | refine lx_call (r' := .tup []) [(.par 0, .loc 3), (.par 1, .loc 907)] rfl rfl hAdd (ArgsLE.refl _) rfl ⟨rfl, rfl, trivial⟩ rfl rfl rfl rfl rfl rfl rfl rfl rfl rfl ?_) | refine c_condN rfl (fun hc => ?_) (fun hc => ?_))
      · exact absurd hc hxe
      · omega
      · omega
      · omega
      · refine q_loop (n' := k) (by omega) (ghost_keep2 [3, 4, 7, 26, 27, 28] [.loc 3, .loc 907] rfl rfl) ⟨k, x.extract (Int.toNat 64) (x.size : Int).toNat, addB h x.data.toList, rfl, by rw [ByteArray.size_extract]; omega, by rw [ByteArray.size_extract]; omega, ?_, rfl, rfl⟩
        rw [hh, toList_extr, List.take_of_length_le (by rw [List.length_drop]; have := toList_len x; omega)]
        rfl
  · obtain rfl : j = 2 := by omega
    repeat' (first | (with_reducible refine codeT_seq ?_) | (with_reducible refine codeT_block ?_) | (with_reducible refine codeT_exit ?_) | (with_reducible refine codeT_regionL ?_) | (with_reducible refine lx_nil ?_) | (with_reducible refine q_then ?_) | (with_reducible refine q_then_exit ?_) | ((with_reducible refine q_block_same ?_ ?_); · rfl) | (with_reducible refine q_loop_exit ?_) | refine c_condF rfl ?_ | ((with_reducible refine g_move ?_); first | refine lx_move (r := (.t _)) rfl rfl rfl rfl rfl ?_) | ((with_reducible refine g_load ?_); first | refine lx_load_varA (r := (.t (.agg _))) rfl rfl rfl rfl rfl rfl rfl rfl rfl ?_) | ((with_reducible refine g_binOp ?_); first | refine lx_arith rfl rfl rfl rfl rfl rfl rfl ?_) | ((with_reducible refine g_alloc ?_); first | refine lx_alloc rfl rfl rfl rfl rfl rfl rfl ?_))
    all_goals try (exfalso; omega)
    rw [show sha s = ofL (Hs 2).out by unfold sha; rw [hsha]]
    generalize Hs 2 = V at hIn ⊢
    obtain ⟨R, hR⟩ : ∃ R, R = iter (outG b0 b1 b2 b3 V.l) 8 0 (List.replicate 32 0) := ⟨_, rfl⟩
    have hE : R.map (T.int .u8) = V.out.map u8T := by rw [hR]; exact out_map V hIn
    refine codeT_ghost (ghost_rowL (id := .loc 8) rfl (RowLE.arr (es := (List.replicate 32 (0 : Int)).map (T.int .u8)) rfl (u8_flat _)) rfl) ?_
    refine codeT_ghost (ghost_keep2 [8, 40, 41] [.loc 8] rfl rfl) ?_
    have hvl : V.l.length = 8 := rfl
    obtain ⟨vl, hvl'⟩ : ∃ l, l = V.l := ⟨_, rfl⟩
    rw [← hvl'] at hR hvl
    refine codeT_loop (fun p env st => ∃ (t : Nat) (l : List Int), t ≤ 8 ∧ p = 8 - t ∧ l.length = 32 ∧ R = iter (outG b0 b1 b2 b3 vl) (8 - t) t l ∧
        env = EnvL.get [(8, .ref (.loc 8) 0 0 0), (40, .t (.agg (vl.map u32T))), (41, .t (.int .i64 (t : Int)))] ∧
        st = StO.get [(.loc 8, some (.arr 94 1 (l.map (T.int .u8))))])
      ?_ (n := 8) ⟨0, _, by omega, rfl, by simp, hR, by rw [hvl']; rfl, rfl⟩
    clear hR
    rintro p env st ⟨t, l, ht, rfl, hl, hi, rfl, rfl⟩
    by_cases hlt : t < 8
    · obtain ⟨c, hc⟩ : ∃ c, 8 - t = c + 1 := ⟨8 - t - 1, by omega⟩
      rw [hc] at hi
      simp only [iter] at hi
      have w0 : IntKind.i64.wrap (4 * (t : Int)) = ((4 * t : Nat) : Int) := by rw [wrap64 (by omega) (by omega)]; omega
      have w1 : IntKind.i64.wrap (((4 * t : Nat) : Int) + 1) = ((4 * t + 1 : Nat) : Int) := by rw [wrap64 (by omega) (by omega)]; omega
      have w2 : IntKind.i64.wrap (((4 * t : Nat) : Int) + 2) = ((4 * t + 2 : Nat) : Int) := by rw [wrap64 (by omega) (by omega)]; omega
      have w3 : IntKind.i64.wrap (((4 * t : Nat) : Int) + 3) = ((4 * t + 3 : Nat) : Int) := by rw [wrap64 (by omega) (by omega)]; omega
      repeat' (first | (with_reducible refine codeT_seq ?_) | (with_reducible refine codeT_block ?_) | (with_reducible refine codeT_skip ?_) | (with_reducible refine codeT_exit ?_) | (with_reducible refine codeT_regionL ?_) | (with_reducible refine lx_nil ?_) | (with_reducible refine q_then ?_) | (with_reducible refine q_then_exit ?_) | (with_reducible refine q_block ?_) | ((with_reducible refine q_block_same ?_ ?_); · rfl) | (with_reducible refine q_loop_exit ?_) | ((with_reducible refine g_move ?_); first | refine lx_move (r := (.t _)) rfl rfl rfl rfl rfl ?_) | ((with_reducible refine g_binOp ?_); first | refine lx_arith rfl rfl rfl rfl rfl rfl rfl ?_ | refine lx_shr rfl rfl rfl rfl rfl rfl (by decide) ?_) | ((with_reducible refine g_assign ?_); first | refine lx_assign (r := (.t _)) rfl rfl rfl rfl rfl ?_) | ((with_reducible refine g_indexAddr ?_); first | refine lx_indexAddr_arr rfl rfl rfl rfl rfl rfl ?_ ?_ ?_) | ((with_reducible refine g_convert ?_); first | refine lx_conv_int rfl rfl rfl rfl rfl ?_) | ((with_reducible refine g_store ?_); first | refine lx_store_arrM rfl rfl rfl rfl rfl rfl rfl ?_ ?_) | ((with_reducible refine g_index ?_); first | refine lx_index_aggM rfl rfl rfl rfl rfl rfl rfl ?_ ?_ ?_ ?_) | refine c_condP rfl (fun hc => ?_) (fun hc => ?_))
      all_goals try simp only [w0, w1, w2, w3, List.length_set, Int.toNat_natCast]
      all_goals try omega
      exact q_loop (n' := 8 - (t + 1)) (by omega) (ghost_keep2 [8, 40, 41] [.loc 8] rfl rfl) ⟨t + 1, outG b0 b1 b2 b3 vl t l, by omega, rfl, by unfold outG; simp only [List.length_set]; exact hl, by rw [hi, show 8 - (t + 1) = c by omega], by rw [wrap64 (by omega) (by omega)]; rfl, rfl⟩
    · obtain rfl : t = 8 := by omega
      simp only [Nat.sub_self, iter] at hi
      rw [← hi, hE]
      have hol : (V.out.map u8T).length = 32 := by rw [List.length_map, out_len]
      refine codeT_ghost (ghost_rowL (id := .loc 8) rfl (RowLE.unarr (cs := (V.out.map u8T).map AV.t) rfl (u8T_flat _)) rfl) ?_
      refine codeT_ghost (ghost_tpL 8 (.loc 8) (V.out.map u8T) rfl rfl rfl rfl rfl) ?_
      repeat' (first | (with_reducible refine codeT_seq ?_) | (with_reducible refine codeT_ret ?_) | (with_reducible refine codeT_exit ?_) | (with_reducible refine codeT_regionL ?_) | (with_reducible refine lx_nil ?_) | (with_reducible refine q_then ?_) | (with_reducible refine q_then_exit ?_) | ((with_reducible refine q_block_same ?_ ?_); · rfl) | (with_reducible refine q_loop_exit ?_) | refine c_condF rfl ?_ | ((with_reducible refine g_binOp ?_); first | refine lx_arith rfl rfl rfl rfl rfl rfl rfl ?_) | ((with_reducible refine g_assign ?_); first | refine lx_assign (r := (.t _)) rfl rfl rfl rfl rfl ?_) | ((with_reducible refine g_convert ?_); first | refine lx_ofBytes_sl rfl rfl rfl rfl rfl ?_ ?_) | ((with_reducible refine g_slice ?_); first | refine lx_slice_arr rfl rfl rfl rfl rfl rfl ?_ ?_ ?_))
      all_goals try (exfalso; omega)
      · exact hol
      · exact u8T_flat _
      · exact isU8_map _
      · exact q_ret (resT_oneE rfl rfl (congrArg T.str (strT_map _))) (by simp)
end Go.AL
/- What SHA-256 answers, in the document. -/
set_option linter.unusedVariables false
namespace Go.AL
open Go Go.Proofs Go.RowKit

def catG (f0 f1 f2 f3 : Int → Int) (v : List Int) (i : Nat) (l : List Int) : List Int := l ++ [f0 (v.getD i 0), f1 (v.getD i 0), f2 (v.getD i 0), f3 (v.getD i 0)]
theorem catG_all (f0 f1 f2 f3 : Int → Int) (v : H8) : iter (catG f0 f1 f2 f3 v.l) 8 0 [] = [f0 v.a, f1 v.a, f2 v.a, f3 v.a] ++ [f0 v.b, f1 v.b, f2 v.b, f3 v.b] ++ [f0 v.c, f1 v.c, f2 v.c, f3 v.c] ++ [f0 v.d, f1 v.d, f2 v.d, f3 v.d] ++ [f0 v.e, f1 v.e, f2 v.e, f3 v.e] ++ [f0 v.f, f1 v.f, f2 v.f, f3 v.f] ++ [f0 v.g, f1 v.g, f2 v.g, f3 v.g] ++ [f0 v.h, f1 v.h, f2 v.h, f3 v.h] := by kernel_rfl
theorem cat_map (v : H8) (hv : v.In) : (iter (catG b0 b1 b2 b3 v.l) 8 0 []).map (T.int .u8) = v.out.map u8T := by
  rw [catG_all]
  obtain ⟨h1, h2, h3, h4, h5, h6, h7, h8⟩ := hv
  unfold H8.out
  simp only [List.map_append, w4_map h1.1 h1.2, w4_map h2.1 h2.2, w4_map h3.1 h3.2, w4_map h4.1 h4.2, w4_map h5.1 h5.2, w4_map h6.1 h6.2, w4_map h7.1 h7.2, w4_map h8.1 h8.2]
set_option maxHeartbeats 8000000 in
theorem qSum_spec (s : ByteArray) (hs : s.size ≤ 40000000) : Spec Try.prog 24 [.t (.str s)] [] (.t (.str (sha s))) [] := by
  have hP := qpad_spec s (by omega)
  have hpl := padL_len s.data.toList
  obtain ⟨p, hp⟩ : ∃ p, p = ofL (padL s.data.toList) := ⟨_, rfl⟩
  have hpp : p.data.toList = padL s.data.toList := by rw [hp, ofL_toList]
  have hps : p.size = (padL s.data.toList).length := by rw [← toList_len, hpp]
  rw [toList_len] at hpl
  have hsl : shaL s.data.toList = (shaGo (p.size / 64) hTab p.data.toList).out := by unfold shaL; rw [hps, hpp]
  rw [← hp] at hP
  refine spec_intro (env0 := [(0, _)]) (st0 := []) Try.func24 rfl rfl rfl rfl ?_
  repeat' (first | (with_reducible refine codeT_seq ?_) | (with_reducible refine codeT_block ?_) | (with_reducible refine codeT_regionL ?_) | (with_reducible refine lx_nil ?_) | (with_reducible refine q_then ?_) | ((with_reducible refine g_move ?_); first | refine lx_move (r := (.t _)) rfl rfl rfl rfl rfl ?_) | ((with_reducible refine g_assign ?_); first | refine lx_assign (r := (.t _)) rfl rfl rfl rfl rfl ?_) | ((with_reducible refine g_alloc ?_); first | refine lx_alloc rfl rfl rfl rfl rfl rfl rfl ?_) | ((with_reducible refine g_store ?_); first | refine lx_store_var (r := (.t (.agg _))) rfl rfl rfl rfl rfl rfl rfl rfl rfl rfl ?_) | ((with_reducible refine g_call ?_); first | refine lx_callT rfl rfl first_spec rfl rfl (ArgsLE.refl _) rfl rfl rfl rfl rfl ?_ | refine lx_callT rfl rfl qconst_spec rfl rfl (ArgsLE.refl _) rfl rfl rfl rfl rfl ?_ | refine lx_callT rfl rfl hP rfl rfl (ArgsLE.refl _) rfl rfl rfl rfl rfl ?_))
  refine codeT_ghost (ghost_rowL (id := .loc 4) rfl (RowLE.arr (es := kTab.map u32T) rfl (u32_flat _)) rfl) ?_
  refine codeT_ghost (ghost_keep2 [3, 4, 5, 6] [.loc 3, .loc 4] rfl rfl) ?_
  obtain ⟨N, hN⟩ : ∃ N, N = p.size / 64 := ⟨_, rfl⟩
  rw [← hN] at hsl
  have hp64 : p.size = 64 * N := by rw [hN, hps]; have := hpl.1; omega
  have hpm : p.size ≤ 50000000 := by rw [hps]; omega
  obtain ⟨F, hF⟩ : ∃ F, F = shaGo N hTab p.data.toList := ⟨_, rfl⟩
  have hFi : F.In := by rw [hF]; exact shaGo_in _ _ _ hTab_in
  rw [← hF] at hsl
  rw [show sha s = ofL F.out by unfold sha; rw [hsl]]
  clear hsl hP hp hpp hps hpl hN
  refine codeT_loop (fun m env st => ∃ (k : Nat) (h : H8), k ≤ N ∧ m = N - k ∧ F = shaGo (N - k) h (p.data.toList.drop (64 * k)) ∧
      env = EnvL.get [(3, .ref (.loc 3) 0 0 0), (4, .ref (.loc 4) 0 0 0), (5, .t (.str p)), (6, .t (.int .i64 ((64 * k : Nat) : Int)))] ∧
      st = StO.get [(.loc 3, some (.var 88 (h.t.map AV.t))), (.loc 4, some (.arr 96 1 (kTab.map u32T)))])
    ?_ (n := N) ⟨0, hTab, by omega, rfl, by rw [hF]; rfl, rfl, rfl⟩
  clear hF
  rintro m env st ⟨k, h, hk, rfl, hf, rfl, rfl⟩
  by_cases hlt : k < N
  · have hw1 : IntKind.i64.wrap (((64 * k : Nat) : Int) + 64) = ((64 * k + 64 : Nat) : Int) := by rw [wrap64 (by omega) (by omega)]; omega
    have hB := block_spec h (p.extract (((64 * k : Nat) : Int)).toNat (IntKind.i64.wrap (((64 * k : Nat) : Int) + 64)).toNat) (by rw [ByteArray.size_extract, hw1]; omega) (by rw [ByteArray.size_extract, hw1]; omega)
    have hX : (p.extract (((64 * k : Nat) : Int)).toNat (IntKind.i64.wrap (((64 * k : Nat) : Int) + 64)).toNat).data.toList = (p.data.toList.drop (64 * k)).take 64 := by
      rw [toList_extr, hw1, Int.toNat_natCast, Int.toNat_natCast, show 64 * k + 64 - 64 * k = 64 by omega]
    rw [hX, addB_take _ _ _ (by rw [List.length_drop, toList_len]; omega) (by omega)] at hB
    obtain ⟨c, hc⟩ : ∃ c, N - k = c + 1 := ⟨N - k - 1, by omega⟩
    rw [hc] at hf
    simp only [shaGo, List.drop_drop] at hf
    generalize addB h (p.data.toList.drop (64 * k)) = h' at hf hB
    obtain ⟨a1, a2, a3, a4, a5, a6, a7, a8⟩ := h
    obtain ⟨c1, c2, c3, c4, c5, c6, c7, c8⟩ := h'
    simp only [H8.t, List.map_cons, List.map_nil] at hB ⊢
    repeat' (first | (with_reducible refine codeT_seq ?_) | (with_reducible refine codeT_block ?_) | (with_reducible refine codeT_skip ?_) | (with_reducible refine codeT_exit ?_) | (with_reducible refine codeT_regionL ?_) | ((with_reducible refine codeT_region_drawL ?_ ?_); · rfl) | (with_reducible refine lx_nil ?_) | (with_reducible refine q_then ?_) | (with_reducible refine q_then_exit ?_) | (with_reducible refine q_block ?_) | ((with_reducible refine q_block_same ?_ ?_); · rfl) | (with_reducible refine q_loop_exit ?_) | ((with_reducible refine q_region_draw ?_ ?_); · rfl) | ((with_reducible refine g_move ?_); first | refine lx_move (r := (.t _)) rfl rfl rfl rfl rfl ?_) | ((with_reducible refine g_load ?_); first | refine lx_load_varA (r := (.t (.agg _))) rfl rfl rfl rfl rfl rfl rfl rfl rfl ?_) | ((with_reducible refine g_binOp ?_); first | refine lx_arith rfl rfl rfl rfl rfl rfl rfl ?_) | ((with_reducible refine g_assign ?_); first | refine lx_assign (r := (.t _)) rfl rfl rfl rfl rfl ?_) | ((with_reducible refine g_store ?_); first | refine lx_store_var (r := (.t (.agg _))) rfl rfl rfl rfl rfl rfl rfl rfl rfl rfl ?_) | ((with_reducible refine g_slice ?_); first | refine lx_slice_str rfl rfl ⟨_, rfl⟩ ⟨_, rfl⟩ rfl rfl rfl ?_ ?_ ?_ ?_) | ((with_reducible refine g_len ?_); first | refine lx_len_str rfl rfl rfl rfl rfl ?_) | ((with_reducible refine g_call ?_); first | refine lx_callT rfl rfl hB rfl rfl (ArgsLE.refl _) rfl rfl rfl rfl rfl ?_) | ((with_reducible refine g_load ?_); first | refine lx_load_arrA rfl rfl rfl rfl rfl rfl rfl rfl rfl ?_) | refine c_condP rfl (fun hc => ?_) (fun hc => ?_))
    all_goals try (rw [hw1]; omega)
    all_goals try (exfalso; omega)
    · omega
    exact q_loop (n' := N - (k + 1)) (by omega) (ghost_keep2 [3, 4, 5, 6] [.loc 3, .loc 4] rfl rfl) ⟨k + 1, ⟨c1, c2, c3, c4, c5, c6, c7, c8⟩, by omega, rfl, by rw [hf, show N - (k + 1) = c by omega, show 64 * (k + 1) = 64 * k + 64 by omega], by rw [hw1, show 64 * (k + 1) = 64 * k + 64 by omega]; rfl, rfl⟩
  · have hkN : k = N := by omega
    subst hkN
    simp only [Nat.sub_self, shaGo] at hf
    subst hf
    repeat' (first | (with_reducible refine codeT_seq ?_) | (with_reducible refine codeT_block ?_) | (with_reducible refine codeT_skip ?_) | (with_reducible refine codeT_exit ?_) | (with_reducible refine codeT_regionL ?_) | ((with_reducible refine codeT_region_drawL ?_ ?_); · rfl) | (with_reducible refine lx_nil ?_) | (with_reducible refine q_then ?_) | (with_reducible refine q_then_exit ?_) | ((with_reducible refine q_block_same ?_ ?_); · rfl) | (with_reducible refine q_loop_exit ?_) | ((with_reducible refine g_move ?_); first | refine lx_move (r := (.t _)) rfl rfl rfl rfl rfl ?_) | ((with_reducible refine g_load ?_); first | refine lx_load_varA (r := (.t (.agg _))) rfl rfl rfl rfl rfl rfl rfl rfl rfl ?_) | ((with_reducible refine g_binOp ?_); first | refine lx_arith rfl rfl rfl rfl rfl rfl rfl ?_) | ((with_reducible refine g_assign ?_); first | refine lx_assign (r := (.t _)) rfl rfl rfl rfl rfl ?_) | ((with_reducible refine g_slice ?_); first | refine lx_slice_str rfl rfl ⟨_, rfl⟩ ⟨_, rfl⟩ rfl rfl rfl ?_ ?_ ?_ ?_) | ((with_reducible refine g_len ?_); first | refine lx_len_str rfl rfl rfl rfl rfl ?_) | ((with_reducible refine g_load ?_); first | refine lx_load_arrA rfl rfl rfl rfl rfl rfl rfl rfl rfl ?_) | refine c_condP rfl (fun hc => ?_) (fun hc => ?_))
    all_goals try (exfalso; omega)
    obtain ⟨R, hR⟩ : ∃ R, R = iter (catG b0 b1 b2 b3 F.l) 8 0 [] := ⟨_, rfl⟩
    have hE : R.map (T.int .u8) = F.out.map u8T := by rw [hR]; exact cat_map F hFi
    refine codeT_ghost (ghost_nilL 7 (.loc 900) 5 1 rfl rfl rfl) ?_
    refine codeT_ghost (ghost_keep2 [7, 28, 29] [.loc 900] rfl rfl) ?_
    have hvl : F.l.length = 8 := rfl
    obtain ⟨vl, hvl'⟩ : ∃ l, l = F.l := ⟨_, rfl⟩
    rw [← hvl'] at hR hvl
    refine codeT_loop (fun p env st => ∃ (t : Nat) (l : List Int), t ≤ 8 ∧ p = 8 - t ∧ l.length = 4 * t ∧ R = iter (catG b0 b1 b2 b3 vl) (8 - t) t l ∧
        env = EnvL.get [(7, .row (.loc 900)), (28, .t (.agg (vl.map u32T))), (29, .t (.int .i64 (t : Int)))] ∧
        st = StO.get [(.loc 900, some (.slt 5 1 (l.map (T.int .u8))))])
      ?_ (n := 8) ⟨0, [], by omega, rfl, by simp, hR, by rw [hvl']; rfl, rfl⟩
    clear hR
    rintro p env st ⟨t, l, ht, rfl, hl, hi, rfl, rfl⟩
    by_cases hlt : t < 8
    · obtain ⟨c, hc⟩ : ∃ c, 8 - t = c + 1 := ⟨8 - t - 1, by omega⟩
      rw [hc] at hi
      simp only [iter] at hi
      repeat' (first | (with_reducible refine codeT_seq ?_) | (with_reducible refine codeT_block ?_) | (with_reducible refine codeT_skip ?_) | (with_reducible refine codeT_ret ?_) | (with_reducible refine codeT_exit ?_) | (with_reducible refine codeT_regionL ?_) | (with_reducible refine lx_nil ?_) | (with_reducible refine q_then ?_) | (with_reducible refine q_then_exit ?_) | (with_reducible refine q_block ?_) | ((with_reducible refine q_block_same ?_ ?_); · rfl) | (with_reducible refine q_loop_exit ?_) | ((with_reducible refine g_move ?_); first | refine lx_move (r := (.t _)) rfl rfl rfl rfl rfl ?_ | refine lx_move (r := (.row _)) rfl rfl rfl rfl rfl ?_) | ((with_reducible refine g_binOp ?_); first | refine lx_arith rfl rfl rfl rfl rfl rfl rfl ?_ | refine lx_shr rfl rfl rfl rfl rfl rfl (by decide) ?_) | ((with_reducible refine g_assign ?_); first | refine lx_assign (r := (.t _)) rfl rfl rfl rfl rfl ?_ | refine lx_assign (r := (.row _)) rfl rfl rfl rfl rfl ?_) | ((with_reducible refine g_convert ?_); first | refine lx_conv_int rfl rfl rfl rfl rfl ?_ | refine lx_ofBytes_row rfl rfl rfl rfl rfl rfl ?_ ?_) | ((with_reducible refine g_buildSlice ?_); first | refine lx_buildSlice rfl rfl rfl rfl rfl rfl rfl ?_) | ((with_reducible refine g_append ?_); first | refine lx_append_row rfl rfl rfl rfl rfl rfl rfl rfl rfl rfl ?_ ?_ ?_) | ((with_reducible refine g_index ?_); first | refine lx_index_aggM rfl rfl rfl rfl rfl rfl rfl ?_ ?_ ?_ ?_) | refine c_condP rfl (fun hc => ?_) (fun hc => ?_))
      all_goals try omega
      all_goals try (exfalso; omega)
      all_goals try (simp only [List.length_map, List.length_cons, List.length_nil]; omega)
      refine q_loop (n' := 8 - (t + 1)) (by omega) ((ghost_keep2 [7, 28, 29] [.loc 45] rfl rfl).trans (ghost_renL2 (.loc 45) (.loc 900) rfl rfl rfl rfl)) ⟨t + 1, catG b0 b1 b2 b3 vl t l, by omega, rfl, by unfold catG; rw [List.length_append]; simp; omega, by rw [hi, show 8 - (t + 1) = c by omega], by rw [wrap64 (by omega) (by omega)]; rfl, ?_⟩
      unfold catG
      rw [List.map_append]; rfl
    · obtain rfl : t = 8 := by omega
      simp only [Nat.sub_self, iter] at hi
      rw [← hi, hE]
      repeat' (first | (with_reducible refine codeT_seq ?_) | (with_reducible refine codeT_ret ?_) | (with_reducible refine codeT_exit ?_) | (with_reducible refine codeT_regionL ?_) | (with_reducible refine lx_nil ?_) | (with_reducible refine q_then ?_) | (with_reducible refine q_then_exit ?_) | ((with_reducible refine q_block_same ?_ ?_); · rfl) | (with_reducible refine q_loop_exit ?_) | refine c_condF rfl ?_ | ((with_reducible refine g_move ?_); first | refine lx_move (r := (.row _)) rfl rfl rfl rfl rfl ?_) | ((with_reducible refine g_binOp ?_); first | refine lx_arith rfl rfl rfl rfl rfl rfl rfl ?_) | ((with_reducible refine g_assign ?_); first | refine lx_assign (r := (.t _)) rfl rfl rfl rfl rfl ?_) | ((with_reducible refine g_convert ?_); first | refine lx_ofBytes_row rfl rfl rfl rfl rfl rfl ?_ ?_))
      all_goals try (exfalso; omega)
      · exact isU8_map _
      · exact q_ret (resT_oneE rfl rfl (congrArg T.str (strT_map _))) (by simp)
end Go.AL
