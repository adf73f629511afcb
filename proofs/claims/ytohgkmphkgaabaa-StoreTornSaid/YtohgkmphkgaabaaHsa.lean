/- What the words' functions of SHA-256 answer. -/
import Derived.Test.YtohgkmphkgaabaaTy
import Derived.Test.YtohgkmphkgaabaaAl3
import Derived.Test.YtohgkmphkgaabaaPur
set_option linter.unusedVariables false
namespace Go.AL
open Go Go.Proofs Go.RowKit

theorem rot_amount : ∀ n : Fin 32, 1 ≤ n.val → IntKind.u64.wrap ((BitVec.ofInt IntKind.u64.bits (IntKind.u64.wrap (IntKind.i64.wrap (0 - (n.val : Int)))) &&& BitVec.ofInt IntKind.u64.bits 31).toNat : Int) = ((32 - n.val : Nat) : Int) := by decide +kernel
theorem wrapU64h {n : Int} (h0 : 0 ≤ n) (h1 : n < 18446744073709551616) : IntKind.u64.wrap n = n := by
  simp only [IntKind.wrap, IntKind.bits, IntKind.signed, Bool.false_and, Bool.false_eq_true, if_false]; omega
theorem wrapU32h {n : Int} (h0 : 0 ≤ n) (h1 : n < 4294967296) : IntKind.u32.wrap n = n := by
  simp only [IntKind.wrap, IntKind.bits, IntKind.signed, Bool.false_and, Bool.false_eq_true, if_false]; omega
theorem wrap_bAt (s : ByteArray) (i : Int) : IntKind.u32.wrap (bAt s i) = bAt s i := by
  have := bAt_range s i
  exact wrapU32h (by omega) (by omega)
theorem min_bits {n : Nat} (h : n ≤ 32) : min ((n : Nat) : Int).toNat IntKind.u32.bits = n := by
  have : IntKind.u32.bits = 32 := rfl
  omega
theorem wo_comm (a b : Int) : wo a b = wo b a := by unfold wo; rw [BitVec.or_comm]
set_option maxHeartbeats 2000000 in
theorem rotl_spec (x : Int) (n : Nat) (h1 : 1 ≤ n) (h2 : n ≤ 31) : Spec Try.prog 113 [.t (.int .u32 x), .t (.int .i64 (IntKind.i64.wrap (0 - (n : Int))))] [] (.t (.int .u32 (rr x n))) [] := by
  have ha := rot_amount ⟨n, by omega⟩ h1
  simp only at ha
  refine spec_intro (env0 := [(0, _), (1, _)]) (st0 := []) Try.func113 rfl rfl rfl rfl ?_
  repeat' (first | (with_reducible refine codeT_seq ?_) | (with_reducible refine codeT_ret ?_) | (with_reducible refine codeT_regionL ?_) | (with_reducible refine lx_nil ?_) | (with_reducible refine q_then ?_) | ((with_reducible refine g_move ?_); first | refine lx_move (r := (.t _)) rfl rfl rfl rfl rfl ?_) | ((with_reducible refine g_binOp ?_); first | refine lx_arith rfl rfl rfl rfl rfl rfl rfl ?_ | refine lx_shl rfl rfl rfl rfl rfl rfl ?_ ?_ | refine lx_shr rfl rfl rfl rfl rfl rfl ?_ ?_) | ((with_reducible refine g_assign ?_); first | refine lx_assign (r := (.t _)) rfl rfl rfl rfl rfl ?_) | ((with_reducible refine g_convert ?_); first | refine lx_conv_int rfl rfl rfl rfl rfl ?_))
  all_goals rw [ha]
  · omega
  · rw [wrapU64h (by omega) (by omega)]; omega
  · refine q_ret (resT_oneE rfl rfl (congrArg (T.int .u32) ?_)) (by simp)
    rw [wrapU64h (by omega) (by omega), show (32 : Int) - ((32 - n : Nat) : Int) = (n : Int) by omega, min_bits (by omega), min_bits (by omega)]
    exact wo_comm _ _
theorem pRight_spec (x : Int) (n : Nat) (h1 : 1 ≤ n) (h2 : n ≤ 31) : Spec Try.prog 95 [.t (.int .u32 x), .t (.int .i64 (n : Int))] [] (.t (.int .u32 (rr x n))) [] := by
  have hR := rotl_spec x n h1 h2
  refine spec_intro (env0 := [(0, _), (1, _)]) (st0 := []) Try.func95 rfl rfl rfl rfl ?_
  repeat' (first | (with_reducible refine codeT_seq ?_) | (with_reducible refine codeT_ret ?_) | (with_reducible refine codeT_regionL ?_) | (with_reducible refine lx_nil ?_) | (with_reducible refine q_then ?_) | ((with_reducible refine g_move ?_); first | refine lx_move (r := (.t _)) rfl rfl rfl rfl rfl ?_) | ((with_reducible refine g_assign ?_); first | refine lx_assign (r := (.t _)) rfl rfl rfl rfl rfl ?_) | ((with_reducible refine g_unOp ?_); first | refine lx_neg rfl rfl rfl rfl rfl ?_) | ((with_reducible refine g_call ?_); first | refine lx_callT rfl rfl hR rfl rfl (ArgsLE.refl _) rfl rfl rfl rfl rfl ?_))
  all_goals exact q_ret (resT_oneE rfl rfl rfl) (by simp)
set_option maxHeartbeats 2000000 in
theorem qRight_spec (x : Int) (n : Nat) (h1 : 1 ≤ n) (h2 : n ≤ 31) : Spec Try.prog 97 [.t (.int .u32 x), .t (.int .i64 (n : Int))] [] (.t (.int .u32 (rr x n))) [] := by
  refine spec_intro (env0 := [(0, _), (1, _)]) (st0 := []) Try.func97 rfl rfl rfl rfl ?_
  repeat' (first | (with_reducible refine codeT_seq ?_) | (with_reducible refine codeT_ret ?_) | (with_reducible refine codeT_regionL ?_) | (with_reducible refine lx_nil ?_) | (with_reducible refine q_then ?_) | ((with_reducible refine g_move ?_); first | refine lx_move (r := (.t _)) rfl rfl rfl rfl rfl ?_) | ((with_reducible refine g_binOp ?_); first | refine lx_arith rfl rfl rfl rfl rfl rfl rfl ?_ | refine lx_shl rfl rfl rfl rfl rfl rfl ?_ ?_ | refine lx_shr rfl rfl rfl rfl rfl rfl ?_ ?_) | ((with_reducible refine g_assign ?_); first | refine lx_assign (r := (.t _)) rfl rfl rfl rfl rfl ?_) | ((with_reducible refine g_convert ?_); first | refine lx_conv_int rfl rfl rfl rfl rfl ?_))
  · rw [wrapU64h (by omega) (by omega)]; omega
  · rw [wrap64 (n := (32 : Int) - n) (by omega) (by omega), wrapU64h (by omega) (by omega)]; omega
  · refine q_ret (resT_oneE rfl rfl (congrArg (T.int .u32) ?_)) (by simp)
    rw [wrap64 (n := (32 : Int) - n) (by omega) (by omega), wrapU64h (n := (n : Int)) (by omega) (by omega), wrapU64h (n := (32 : Int) - n) (by omega) (by omega), show (32 : Int) - (n : Int) = ((32 - n : Nat) : Int) by omega, min_bits (by omega), min_bits (by omega)]
    rfl
set_option maxHeartbeats 2000000 in
theorem qWord_spec (s : ByteArray) (hs : 4 ≤ s.size) : Spec Try.prog 96 [.t (.str s)] [] (.t (.int .u32 (wordL s.data.toList 0))) [] := by
  refine spec_intro (env0 := [(0, _)]) (st0 := []) Try.func96 rfl rfl rfl rfl ?_
  repeat' (first | (with_reducible refine codeT_seq ?_) | (with_reducible refine codeT_ret ?_) | (with_reducible refine codeT_regionL ?_) | ((with_reducible refine codeT_region_drawL ?_ ?_); · rfl) | (with_reducible refine lx_nil ?_) | (with_reducible refine q_then ?_) | ((with_reducible refine q_region_draw ?_ ?_); · rfl) | ((with_reducible refine g_move ?_); first | refine lx_move (r := (.t _)) rfl rfl rfl rfl rfl ?_) | ((with_reducible refine g_binOp ?_); first | refine lx_arith rfl rfl rfl rfl rfl rfl rfl ?_ | refine lx_shl rfl rfl rfl rfl rfl rfl (by decide) ?_) | ((with_reducible refine g_assign ?_); first | refine lx_assign (r := (.t _)) rfl rfl rfl rfl rfl ?_) | ((with_reducible refine g_index ?_); first | refine lx_index_str rfl rfl rfl rfl rfl rfl ?_ ?_ ?_) | ((with_reducible refine g_convert ?_); first | refine lx_conv_int rfl rfl rfl rfl rfl ?_))
  all_goals try omega
  refine q_ret (resT_oneE rfl rfl (congrArg (T.int .u32) ?_)) (by simp)
  simp only [wrap_bAt]
  rfl
end Go.AL
/- What adding a block to a state answers. -/
set_option linter.unusedVariables false
namespace Go.AL
open Go Go.Proofs Go.RowKit

abbrev u32T : Int → T := T.int .u32
theorem u32_flat (l : List Int) : ∀ x ∈ l.map u32T, x.isAgg = false := fun x hx => by
  obtain ⟨n, _, rfl⟩ := List.mem_map.1 hx; rfl
theorem iter_len {f : Nat → List Int → List Int} (hf : ∀ i l, (f i l).length = l.length) (c t : Nat) (a : List Int) : (iter f c t a).length = a.length :=
  iter_inv (Q := fun l => l.length = a.length) (fun i x h => (hf i x).trans h) c t a rfl
theorem loadW_len (p : List UInt8) : (loadW p).length = 64 := (iter_len (fun i l => by simp) _ _ _).trans rfl
theorem sched_len (w : List Int) : (sched w).length = w.length := iter_len (fun i l => by simp [schedStep]) _ _ _
def addStep (v : List Int) (i : Nat) (l : List Int) : List Int := l.set i (wp (l.getD i 0) (v.getD i 0))
theorem addStep_all (u v : H8) : iter (addStep v.l) 8 0 u.l = (plus8 u v).l := rfl
theorem h8_t (v : H8) : v.t.map AV.t = (v.l.map u32T).map AV.t := rfl
set_option maxHeartbeats 8000000 in
theorem add_spec (v : H8) (b : ByteArray) (hb : 64 ≤ b.size) (hb2 : b.size ≤ 1000000000) : Spec Try.prog 66 [.ref (.par 0) 0 0 0, .t (.str b), .ref (.par 1) 0 0 0] [(.par 0, .var 89 (v.t.map AV.t)), (.par 1, .arr 96 1 (kTab.map u32T))] (.tup []) [(.par 0, .var 89 ((addB v b.data.toList).t.map AV.t)), (.par 1, .arr 96 1 (kTab.map u32T))] := by
  unfold addB
  obtain ⟨V, hV⟩ : ∃ V, V = rounds (sched (loadW b.data.toList)) v := ⟨_, rfl⟩
  obtain ⟨S, hS⟩ : ∃ S, S = sched (loadW b.data.toList) := ⟨_, rfl⟩
  obtain ⟨W, hW⟩ : ∃ W, W = loadW b.data.toList := ⟨_, rfl⟩
  have hWl : W.length = 64 := by rw [hW]; exact loadW_len _
  have hSl : S.length = 64 := by rw [hS, ← hW, sched_len]; exact hWl
  rw [← hW] at hS hV
  rw [← hW]
  rw [← hS] at hV ⊢
  rw [← hV]
  unfold rounds at hV
  unfold sched at hS
  unfold loadW at hW
  obtain ⟨K, hK⟩ : ∃ K, K = kTab := ⟨_, rfl⟩
  have hKl : K.length = 64 := by rw [hK]; rfl
  rw [← hK] at hV ⊢
  refine spec_introG (env0 := [(0, _), (1, _), (2, _)]) (st0 := [(_, some _), (_, some _)]) Try.func66 rfl rfl rfl rfl ?_
  repeat' (first | (with_reducible refine codeT_seq ?_) | (with_reducible refine codeT_block ?_) | (with_reducible refine codeT_regionL ?_) | (with_reducible refine lx_nil ?_) | (with_reducible refine q_then ?_) | ((with_reducible refine g_move ?_); first | refine lx_move (r := (.t _)) rfl rfl rfl rfl rfl ?_) | ((with_reducible refine g_alloc ?_); first | refine lx_alloc rfl rfl rfl rfl rfl rfl rfl ?_))
  refine codeT_ghost (ghost_rowL (id := .loc 6) rfl (RowLE.arr (es := w0L.map u32T) rfl (u32_flat _)) rfl) ?_
  refine codeT_ghost (ghost_keep2 [0, 1, 2, 6, 21] [.par 0, .par 1, .loc 6] rfl rfl) ?_
  refine codeT_loop (fun p env st => ∃ (t : Nat) (w : List Int), t ≤ 16 ∧ p = 16 - t ∧ w.length = 64 ∧ W = iter (fun t w => w.set t (wordL b.data.toList t)) (16 - t) t w ∧
      env = EnvL.get [(0, .ref (.par 0) 0 0 0), (1, .t (.str b)), (2, .ref (.par 1) 0 0 0), (6, .ref (.loc 6) 0 0 0), (21, .t (.int .i64 (t : Int)))] ∧
      st = StO.get [(.par 0, some (.var 89 (v.t.map AV.t))), (.par 1, some (.arr 96 1 (K.map u32T))), (.loc 6, some (.arr 96 1 (w.map u32T)))])
    ?_ (n := 16) ⟨0, w0L, by omega, rfl, rfl, hW, rfl, rfl⟩
  rintro p env st ⟨t, w, ht, rfl, hw, hi, rfl, rfl⟩
  clear hW
  by_cases hlt : t < 16
  · obtain ⟨c, hc⟩ : ∃ c, 16 - t = c + 1 := ⟨16 - t - 1, by omega⟩
    rw [hc] at hi
    simp only [iter] at hi
    have w0 : IntKind.i64.wrap (4 * (t : Int)) = ((4 * t : Nat) : Int) := by rw [wrap64 (by omega) (by omega)]; omega
    have w1 : IntKind.i64.wrap (((4 * t : Nat) : Int) + 1) = ((4 * t + 1 : Nat) : Int) := by rw [wrap64 (by omega) (by omega)]; omega
    have w2 : IntKind.i64.wrap (((4 * t : Nat) : Int) + 2) = ((4 * t + 2 : Nat) : Int) := by rw [wrap64 (by omega) (by omega)]; omega
    have w3 : IntKind.i64.wrap (((4 * t : Nat) : Int) + 3) = ((4 * t + 3 : Nat) : Int) := by rw [wrap64 (by omega) (by omega)]; omega
    repeat' (first | (with_reducible refine codeT_seq ?_) | (with_reducible refine codeT_block ?_) | (with_reducible refine codeT_skip ?_) | (with_reducible refine codeT_exit ?_) | (with_reducible refine codeT_regionL ?_) | ((with_reducible refine codeT_region_drawL ?_ ?_); · rfl) | (with_reducible refine lx_nil ?_) | (with_reducible refine q_then ?_) | (with_reducible refine q_then_exit ?_) | (with_reducible refine q_block ?_) | ((with_reducible refine q_block_same ?_ ?_); · rfl) | (with_reducible refine q_loop_exit ?_) | ((with_reducible refine q_region_draw ?_ ?_); · rfl) | ((with_reducible refine g_move ?_); first | refine lx_move (r := (.t _)) rfl rfl rfl rfl rfl ?_) | ((with_reducible refine g_binOp ?_); first | refine lx_arith rfl rfl rfl rfl rfl rfl rfl ?_ | refine lx_shl rfl rfl rfl rfl rfl rfl (by decide) ?_) | ((with_reducible refine g_assign ?_); first | refine lx_assign (r := (.t _)) rfl rfl rfl rfl rfl ?_) | ((with_reducible refine g_indexAddr ?_); first | refine lx_indexAddr_arr rfl rfl rfl rfl rfl rfl ?_ ?_ ?_) | ((with_reducible refine g_index ?_); first | refine lx_index_str rfl rfl rfl rfl rfl rfl ?_ ?_ ?_) | ((with_reducible refine g_convert ?_); first | refine lx_conv_int rfl rfl rfl rfl rfl ?_) | ((with_reducible refine g_store ?_); first | refine lx_store_arrM rfl rfl rfl rfl rfl rfl rfl ?_ ?_) | refine c_condP rfl (fun hc => ?_) (fun hc => ?_))
    all_goals try simp only [w0, w1, w2, w3, wrap_bAt]
    all_goals try omega
    exact q_loop (n' := 16 - (t + 1)) (by omega) (ghost_keep2 [0, 1, 2, 6, 21] [.par 0, .par 1, .loc 6] rfl rfl) ⟨t + 1, w.set t (wordL b.data.toList t), by omega, rfl, by simpa using hw, by rw [hi, show 16 - (t + 1) = c by omega], by rw [wrap64 (by omega) (by omega)]; rfl, rfl⟩
  · obtain rfl : t = 16 := by omega
    simp only [Nat.sub_self, iter] at hi
    subst hi
    repeat' (first | (with_reducible refine codeT_seq ?_) | (with_reducible refine codeT_block ?_) | (with_reducible refine codeT_exit ?_) | (with_reducible refine codeT_regionL ?_) | (with_reducible refine lx_nil ?_) | (with_reducible refine q_then ?_) | (with_reducible refine q_then_exit ?_) | ((with_reducible refine q_block_same ?_ ?_); · rfl) | (with_reducible refine q_loop_exit ?_) | refine c_condF rfl ?_ | ((with_reducible refine g_binOp ?_); first | refine lx_arith rfl rfl rfl rfl rfl rfl rfl ?_) | ((with_reducible refine g_assign ?_); first | refine lx_assign (r := (.t _)) rfl rfl rfl rfl rfl ?_))
    all_goals try (exfalso; omega)
    refine codeT_ghost (ghost_keep2 [0, 1, 2, 6, 8] [.par 0, .par 1, .loc 6] rfl rfl) ?_
    refine codeT_loop (fun p env st => ∃ (t : Nat) (w : List Int), 16 ≤ t ∧ t ≤ 64 ∧ p = 64 - t ∧ w.length = 64 ∧ S = iter schedStep (64 - t) t w ∧
        env = EnvL.get [(0, .ref (.par 0) 0 0 0), (1, .t (.str b)), (2, .ref (.par 1) 0 0 0), (6, .ref (.loc 6) 0 0 0), (8, .t (.int .i64 (t : Int)))] ∧
        st = StO.get [(.par 0, some (.var 89 (v.t.map AV.t))), (.par 1, some (.arr 96 1 (K.map u32T))), (.loc 6, some (.arr 96 1 (w.map u32T)))])
      ?_ (n := 48) ⟨16, W, by omega, by omega, rfl, hw, hS, rfl, rfl⟩
    rintro p env st ⟨t, w, ht0, ht, rfl, hwl, hi, rfl, rfl⟩
    clear hS
    by_cases hlt : t < 64
    · obtain ⟨c, hc⟩ : ∃ c, 64 - t = c + 1 := ⟨64 - t - 1, by omega⟩
      rw [hc] at hi
      simp only [iter, schedStep] at hi
      have w0 : IntKind.i64.wrap ((t : Int) - 15) = ((t - 15 : Nat) : Int) := by rw [wrap64 (by omega) (by omega)]; omega
      have w1 : IntKind.i64.wrap ((t : Int) - 2) = ((t - 2 : Nat) : Int) := by rw [wrap64 (by omega) (by omega)]; omega
      have w2 : IntKind.i64.wrap ((t : Int) - 7) = ((t - 7 : Nat) : Int) := by rw [wrap64 (by omega) (by omega)]; omega
      have w3 : IntKind.i64.wrap ((t : Int) - 16) = ((t - 16 : Nat) : Int) := by rw [wrap64 (by omega) (by omega)]; omega
      have r7 := fun x => pRight_spec x 7 (by omega) (by omega)
      have r18 := fun x => pRight_spec x 18 (by omega) (by omega)
      have r17 := fun x => pRight_spec x 17 (by omega) (by omega)
      have r19 := fun x => pRight_spec x 19 (by omega) (by omega)
      repeat' (first | (with_reducible refine codeT_seq ?_) | (with_reducible refine codeT_block ?_) | (with_reducible refine codeT_skip ?_) | (with_reducible refine codeT_exit ?_) | (with_reducible refine codeT_regionL ?_) | ((with_reducible refine codeT_region_drawL ?_ ?_); · rfl) | (with_reducible refine lx_nil ?_) | (with_reducible refine q_then ?_) | (with_reducible refine q_then_exit ?_) | (with_reducible refine q_block ?_) | ((with_reducible refine q_block_same ?_ ?_); · rfl) | (with_reducible refine q_loop_exit ?_) | ((with_reducible refine q_region_draw ?_ ?_); · rfl) | ((with_reducible refine g_move ?_); first | refine lx_move (r := (.t _)) rfl rfl rfl rfl rfl ?_ | refine lx_move (r := (.ref _ _ _ _)) rfl rfl rfl rfl rfl ?_) | ((with_reducible refine g_load ?_); first | refine lx_load_varA (r := (.t (.agg _))) rfl rfl rfl rfl rfl rfl rfl rfl rfl ?_) | ((with_reducible refine g_binOp ?_); first | refine lx_arith rfl rfl rfl rfl rfl rfl rfl ?_ | refine lx_shr rfl rfl rfl rfl rfl rfl (by decide) ?_) | ((with_reducible refine g_assign ?_); first | refine lx_assign (r := (.t _)) rfl rfl rfl rfl rfl ?_) | ((with_reducible refine g_alloc ?_); first | refine lx_alloc rfl rfl rfl rfl rfl rfl rfl ?_) | ((with_reducible refine g_store ?_); first | refine lx_store_var (r := (.t (.agg _))) rfl rfl rfl rfl rfl rfl rfl rfl rfl rfl ?_) | ((with_reducible refine g_nilCheck ?_); first | refine lx_nilCheck (r := (.ref _ _ _ _)) rfl rfl rfl rfl rfl rfl ?_) | ((with_reducible refine g_indexAddr ?_); first | refine lx_indexAddr_arr rfl rfl rfl rfl rfl rfl ?_ ?_ ?_) | ((with_reducible refine g_call ?_); first | refine lx_callT rfl rfl (r7 _) rfl rfl (ArgsLE.refl _) rfl rfl rfl rfl rfl ?_ | refine lx_callT rfl rfl (r18 _) rfl rfl (ArgsLE.refl _) rfl rfl rfl rfl rfl ?_ | refine lx_callT rfl rfl (r17 _) rfl rfl (ArgsLE.refl _) rfl rfl rfl rfl rfl ?_ | refine lx_callT rfl rfl (r19 _) rfl rfl (ArgsLE.refl _) rfl rfl rfl rfl rfl ?_) | ((with_reducible refine g_load ?_); first | refine lx_load_arrM rfl rfl rfl rfl rfl rfl rfl rfl ?_ ?_) | ((with_reducible refine g_store ?_); first | refine lx_store_arrM rfl rfl rfl rfl rfl rfl rfl ?_ ?_) | refine c_condP rfl (fun hc => ?_) (fun hc => ?_))
      all_goals try simp only [w0, w1, w2, w3]
      all_goals try omega
      all_goals try (rw [Int.toNat_natCast]; omega)
      exact q_loop (n' := 64 - (t + 1)) (by omega) (ghost_keep2 [0, 1, 2, 6, 8] [.par 0, .par 1, .loc 6] rfl rfl) ⟨t + 1, _, by omega, by omega, rfl, by rw [List.length_set]; exact hwl, by rw [hi, show 64 - (t + 1) = c by omega]; rfl, by rw [wrap64 (by omega) (by omega)]; rfl, rfl⟩
    · obtain rfl : t = 64 := by omega
      simp only [Nat.sub_self, iter] at hi
      subst hi
      repeat' (first | (with_reducible refine codeT_seq ?_) | (with_reducible refine codeT_block ?_) | (with_reducible refine codeT_exit ?_) | (with_reducible refine codeT_regionL ?_) | (with_reducible refine lx_nil ?_) | (with_reducible refine q_then ?_) | (with_reducible refine q_then_exit ?_) | ((with_reducible refine q_block_same ?_ ?_); · rfl) | (with_reducible refine q_loop_exit ?_) | refine c_condF rfl ?_ | ((with_reducible refine g_move ?_); first | refine lx_move (r := (.t _)) rfl rfl rfl rfl rfl ?_ | refine lx_move (r := (.ref _ _ _ _)) rfl rfl rfl rfl rfl ?_) | ((with_reducible refine g_load ?_); first | refine lx_load_varA (r := (.t (.agg _))) rfl rfl rfl rfl rfl rfl rfl rfl rfl ?_) | ((with_reducible refine g_binOp ?_); first | refine lx_arith rfl rfl rfl rfl rfl rfl rfl ?_) | ((with_reducible refine g_alloc ?_); first | refine lx_alloc rfl rfl rfl rfl rfl rfl rfl ?_) | ((with_reducible refine g_store ?_); first | refine lx_store_var (r := (.t (.agg _))) rfl rfl rfl rfl rfl rfl rfl rfl rfl rfl ?_) | ((with_reducible refine g_nilCheck ?_); first | refine lx_nilCheck (r := (.ref _ _ _ _)) rfl rfl rfl rfl rfl rfl ?_))
      all_goals try (exfalso; omega)
      refine codeT_ghost (ghost_keep2 [0, 2, 6, 13, 102] [.par 0, .par 1, .loc 6, .loc 13] rfl rfl) ?_
      refine codeT_loop (fun p env st => ∃ (t : Nat) (r : H8), t ≤ 64 ∧ p = 64 - t ∧ V = iter (fun t v => rnd (K.getD t 0) (S.getD t 0) v) (64 - t) t r ∧
          env = EnvL.get [(0, .ref (.par 0) 0 0 0), (2, .ref (.par 1) 0 0 0), (6, .ref (.loc 6) 0 0 0), (13, .ref (.loc 13) 0 0 0), (102, .t (.int .i64 (t : Int)))] ∧
          st = StO.get [(.par 0, some (.var 89 (v.t.map AV.t))), (.par 1, some (.arr 96 1 (K.map u32T))), (.loc 6, some (.arr 96 1 (S.map u32T))), (.loc 13, some (.var 89 (r.t.map AV.t)))])
        ?_ (n := 64) ⟨0, v, by omega, rfl, hV, rfl, rfl⟩
      rintro p env st ⟨t, r, ht, rfl, hi, rfl, rfl⟩
      clear hV
      by_cases hlt : t < 64
      · obtain ⟨c, hc⟩ : ∃ c, 64 - t = c + 1 := ⟨64 - t - 1, by omega⟩
        rw [hc] at hi
        simp only [iter] at hi
        obtain ⟨a1, a2, a3, a4, a5, a6, a7, a8⟩ := r
        have r6 := fun x => pRight_spec x 6 (by omega) (by omega)
        have r11 := fun x => pRight_spec x 11 (by omega) (by omega)
        have r25 := fun x => pRight_spec x 25 (by omega) (by omega)
        have r2 := fun x => pRight_spec x 2 (by omega) (by omega)
        have r13 := fun x => pRight_spec x 13 (by omega) (by omega)
        have r22 := fun x => pRight_spec x 22 (by omega) (by omega)
        simp only [H8.t, List.map_cons, List.map_nil]
        repeat' (first | (with_reducible refine codeT_seq ?_) | (with_reducible refine codeT_block ?_) | (with_reducible refine codeT_skip ?_) | (with_reducible refine codeT_exit ?_) | (with_reducible refine codeT_regionL ?_) | ((with_reducible refine codeT_region_drawL ?_ ?_); · rfl) | (with_reducible refine lx_nil ?_) | (with_reducible refine q_then ?_) | (with_reducible refine q_then_exit ?_) | (with_reducible refine q_block ?_) | ((with_reducible refine q_block_same ?_ ?_); · rfl) | (with_reducible refine q_loop_exit ?_) | ((with_reducible refine q_region_draw ?_ ?_); · rfl) | ((with_reducible refine g_move ?_); first | refine lx_move (r := (.t _)) rfl rfl rfl rfl rfl ?_ | refine lx_move (r := (.ref _ _ _ _)) rfl rfl rfl rfl rfl ?_) | ((with_reducible refine g_load ?_); first | refine lx_load_var rfl rfl rfl rfl rfl rfl rfl rfl ?_ | refine lx_load_varA (r := (.t (.agg _))) rfl rfl rfl rfl rfl rfl rfl rfl rfl ?_) | ((with_reducible refine g_binOp ?_); first | refine lx_arith rfl rfl rfl rfl rfl rfl rfl ?_) | ((with_reducible refine g_assign ?_); first | refine lx_assign (r := (.t _)) rfl rfl rfl rfl rfl ?_) | ((with_reducible refine g_store ?_); first | refine lx_store_var (r := (.t (.agg _))) rfl rfl rfl rfl rfl rfl rfl rfl rfl rfl ?_) | ((with_reducible refine g_nilCheck ?_); first | refine lx_nilCheck (r := (.ref _ _ _ _)) rfl rfl rfl rfl rfl rfl ?_) | ((with_reducible refine g_indexAddr ?_); first | refine lx_indexAddr_arr rfl rfl rfl rfl rfl rfl ?_ ?_ ?_) | ((with_reducible refine g_unOp ?_); first | refine lx_cpl rfl rfl rfl rfl rfl ?_) | ((with_reducible refine g_call ?_); first | refine lx_callT rfl rfl (r6 _) rfl rfl (ArgsLE.refl _) rfl rfl rfl rfl rfl ?_ | refine lx_callT rfl rfl (r11 _) rfl rfl (ArgsLE.refl _) rfl rfl rfl rfl rfl ?_ | refine lx_callT rfl rfl (r25 _) rfl rfl (ArgsLE.refl _) rfl rfl rfl rfl rfl ?_ | refine lx_callT rfl rfl (r2 _) rfl rfl (ArgsLE.refl _) rfl rfl rfl rfl rfl ?_ | refine lx_callT rfl rfl (r13 _) rfl rfl (ArgsLE.refl _) rfl rfl rfl rfl rfl ?_ | refine lx_callT rfl rfl (r22 _) rfl rfl (ArgsLE.refl _) rfl rfl rfl rfl rfl ?_) | ((with_reducible refine g_load ?_); first | refine lx_load_arrM rfl rfl rfl rfl rfl rfl rfl rfl ?_ ?_) | ((with_reducible refine g_build ?_); first | refine lx_buildArr (r := (.t (.agg _))) rfl rfl rfl rfl rfl rfl rfl ?_) | refine c_condP rfl (fun hc => ?_) (fun hc => ?_))
        all_goals try omega
        all_goals try (rw [Int.toNat_natCast]; omega)
        exact q_loop (n' := 64 - (t + 1)) (by omega) (ghost_keep2 [0, 2, 6, 13, 102] [.par 0, .par 1, .loc 6, .loc 13] rfl rfl) ⟨t + 1, rnd (K.getD t 0) (S.getD t 0) ⟨a1, a2, a3, a4, a5, a6, a7, a8⟩, by omega, rfl, by rw [hi, show 64 - (t + 1) = c by omega], by rw [wrap64 (by omega) (by omega)]; rfl, rfl⟩
      · obtain rfl : t = 64 := by omega
        simp only [Nat.sub_self, iter] at hi
        subst hi
        obtain ⟨R, hR⟩ : ∃ R, R = (plus8 v V).l := ⟨_, rfl⟩
        have hR2 : R = iter (addStep V.l) 8 0 v.l := by rw [hR, addStep_all]
        have hrt : (V.l.map u32T) = V.t := rfl
        have hvl : v.l.length = 8 := rfl
        have hrl : V.l.length = 8 := rfl
        rw [h8_t (plus8 v V), ← hR]
        repeat' (first | (with_reducible refine codeT_seq ?_) | (with_reducible refine codeT_block ?_) | (with_reducible refine codeT_exit ?_) | (with_reducible refine codeT_regionL ?_) | (with_reducible refine lx_nil ?_) | (with_reducible refine q_then ?_) | (with_reducible refine q_then_exit ?_) | ((with_reducible refine q_block_same ?_ ?_); · rfl) | (with_reducible refine q_loop_exit ?_) | refine c_condF rfl ?_ | ((with_reducible refine g_move ?_); first | refine lx_move (r := (.t _)) rfl rfl rfl rfl rfl ?_) | ((with_reducible refine g_load ?_); first | refine lx_load_varA (r := (.t (.agg _))) rfl rfl rfl rfl rfl rfl rfl rfl rfl ?_) | ((with_reducible refine g_binOp ?_); first | refine lx_arith rfl rfl rfl rfl rfl rfl rfl ?_))
        all_goals try (exfalso; omega)
        refine codeT_ghost (ghost_rowL (id := .par 0) rfl (RowLE.arr (es := v.l.map u32T) rfl (u32_flat _)) rfl) ?_
        refine codeT_ghost (ghost_keep2 [0, 186, 187] [.par 0, .par 1] rfl rfl) ?_
        obtain ⟨vl, hvl'⟩ : ∃ l, l = v.l := ⟨_, rfl⟩
        obtain ⟨rl, hrl'⟩ : ∃ l, l = V.l := ⟨_, rfl⟩
        rw [← hvl'] at hR2 hvl
        rw [← hrl'] at hR2 hrl
        clear hR
        refine codeT_loop (fun p env st => ∃ (t : Nat) (l : List Int), t ≤ 8 ∧ p = 8 - t ∧ l.length = 8 ∧ R = iter (addStep rl) (8 - t) t l ∧
            env = EnvL.get [(0, .ref (.par 0) 0 0 0), (186, .t (.agg (rl.map u32T))), (187, .t (.int .i64 (t : Int)))] ∧
            st = StO.get [(.par 0, some (.arr 89 1 (l.map u32T))), (.par 1, some (.arr 96 1 (K.map u32T)))])
          ?_ (n := 8) ⟨0, vl, by omega, rfl, hvl, hR2, by rw [hrl']; rfl, by rw [hvl']; rfl⟩
        clear hR2
        rintro p env st ⟨t, l, ht, rfl, hl, hi, rfl, rfl⟩
        by_cases hlt : t < 8
        · obtain ⟨c, hc⟩ : ∃ c, 8 - t = c + 1 := ⟨8 - t - 1, by omega⟩
          rw [hc] at hi
          simp only [iter, addStep] at hi
          repeat' (first | (with_reducible refine codeT_seq ?_) | (with_reducible refine codeT_block ?_) | (with_reducible refine codeT_skip ?_) | (with_reducible refine codeT_exit ?_) | (with_reducible refine codeT_regionL ?_) | ((with_reducible refine codeT_region_drawL ?_ ?_); · rfl) | (with_reducible refine lx_nil ?_) | (with_reducible refine q_then ?_) | (with_reducible refine q_then_exit ?_) | (with_reducible refine q_block ?_) | ((with_reducible refine q_block_same ?_ ?_); · rfl) | (with_reducible refine q_loop_exit ?_) | ((with_reducible refine q_region_draw ?_ ?_); · rfl) | ((with_reducible refine g_move ?_); first | refine lx_move (r := (.t _)) rfl rfl rfl rfl rfl ?_ | refine lx_move (r := (.ref _ _ _ _)) rfl rfl rfl rfl rfl ?_) | ((with_reducible refine g_binOp ?_); first | refine lx_arith rfl rfl rfl rfl rfl rfl rfl ?_) | ((with_reducible refine g_assign ?_); first | refine lx_assign (r := (.t _)) rfl rfl rfl rfl rfl ?_) | ((with_reducible refine g_nilCheck ?_); first | refine lx_nilCheck (r := (.ref _ _ _ _)) rfl rfl rfl rfl rfl rfl ?_) | ((with_reducible refine g_indexAddr ?_); first | refine lx_indexAddr_arr rfl rfl rfl rfl rfl rfl ?_ ?_ ?_) | ((with_reducible refine g_load ?_); first | refine lx_load_arrM rfl rfl rfl rfl rfl rfl rfl rfl ?_ ?_) | ((with_reducible refine g_store ?_); first | refine lx_store_arrM rfl rfl rfl rfl rfl rfl rfl ?_ ?_) | ((with_reducible refine g_index ?_); first | refine lx_index_aggM rfl rfl rfl rfl rfl rfl rfl ?_ ?_ ?_ ?_) | refine c_condP rfl (fun hc => ?_) (fun hc => ?_))
          all_goals try omega
          all_goals try (rw [Int.toNat_natCast]; omega)
          exact q_loop (n' := 8 - (t + 1)) (by omega) (ghost_keep2 [0, 186, 187] [.par 0, .par 1] rfl rfl) ⟨t + 1, _, by omega, rfl, by rw [List.length_set]; exact hl, by rw [hi, show 8 - (t + 1) = c by omega]; rfl, by rw [wrap64 (by omega) (by omega)]; rfl, rfl⟩
        · obtain rfl : t = 8 := by omega
          simp only [Nat.sub_self, iter] at hi
          subst hi
          repeat' (first | (with_reducible refine codeT_seq ?_) | (with_reducible refine codeT_exit ?_) | (with_reducible refine codeT_regionL ?_) | (with_reducible refine lx_nil ?_) | (with_reducible refine q_then ?_) | (with_reducible refine q_then_exit ?_) | ((with_reducible refine q_block_same ?_ ?_); · rfl) | (with_reducible refine q_loop_exit ?_) | refine c_condF rfl ?_ | ((with_reducible refine g_binOp ?_); first | refine lx_arith rfl rfl rfl rfl rfl rfl rfl ?_))
          all_goals try (exfalso; omega)
          refine q_ghost (ghost_rowL (id := .par 0) rfl (RowLE.unarr (cs := (R.map u32T).map AV.t) rfl (u32_flat _)) rfl) ?_
          exact q_done (q_end (resT_none rfl) (stHas_spec ⟨rfl, rfl, trivial⟩))
end Go.AL
