/- What the methods of parse.Reader answer. -/
import Derived.Test.YtjhhjkkacbcmjaaDoorCbo1
import Derived.Test.YtjhhjkkacbcmjaaDoorAl3
import Derived.Test.YtjhhjkkacbcmjaaDoorRed
set_option linter.unusedVariables false
namespace Go.AL
open Go Go.Proofs Go.RowKit

def Rs.row (ty : TypeId) (r : Rs) : Row := .var ty [.t (.str r.s), .t (.bool r.bad)]
set_option maxHeartbeats 2000000 in
theorem Take_spec (ty : TypeId) (r : Rs) (n : Int) (hs : r.s.size ≤ 1000000000) : Spec Tryd.prog 80 [.ref (.par 0) 0 0 0, .t (.int .i64 n)] [(.par 0, r.row ty)] (.t (.str (r.take n).1)) [(.par 0, (r.take n).2.row ty)] := by
  obtain ⟨s, bad⟩ := r
  unfold Rs.row
  simp only at hs ⊢
  by_cases hb : n < 0 ∨ (s.size : Int) < n
  · have e : Rs.take ⟨s, bad⟩ n = (eS, ⟨s, true⟩) := by
      unfold Rs.take; rw [if_pos (.inr hb)]
    rw [e]
    refine spec_intro (env0 := [(0, _), (1, _)]) (st0 := [(_, some _)]) Tryd.func80 rfl rfl rfl rfl ?_
    repeat' (first | (with_reducible refine codeT_seq ?_) | (with_reducible refine codeT_skip ?_) | (with_reducible refine codeT_ret ?_) | (with_reducible refine codeT_regionL ?_) | (with_reducible refine lx_nil ?_) | (with_reducible refine q_then ?_) | (with_reducible refine q_then_ret ?_) | refine c_condT rfl ?_ | ((with_reducible refine g_guard ?_); first | refine lx_skip rfl rfl rfl ?_) | ((with_reducible refine g_move ?_); first | refine lx_move (r := (.t _)) rfl rfl rfl rfl rfl ?_ | refine lx_move (r := (.ref _ _ _ _)) rfl rfl rfl rfl rfl ?_) | ((with_reducible refine g_load ?_); first | refine lx_load_var rfl rfl rfl rfl rfl rfl rfl rfl ?_) | ((with_reducible refine g_fieldAddr ?_); first | refine lx_fieldAddr rfl rfl rfl rfl rfl rfl rfl ?_) | ((with_reducible refine g_binOp ?_); first | refine lx_arith rfl rfl rfl rfl rfl rfl rfl ?_) | ((with_reducible refine g_assign ?_); first | refine lx_assign (r := (.t _)) rfl rfl rfl rfl rfl ?_) | ((with_reducible refine g_pick ?_); first | refine lx_pickT (r := (.t _)) rfl rfl rfl rfl rfl rfl ?_ | refine lx_pickF (r := (.t _)) rfl rfl rfl rfl rfl rfl ?_) | ((with_reducible refine g_store ?_); first | refine lx_store_var (r := (.t _)) rfl rfl rfl rfl rfl rfl rfl rfl rfl rfl ?_) | ((with_reducible refine g_nilCheck ?_); first | refine lx_nilCheck (r := (.ref _ _ _ _)) rfl rfl rfl rfl rfl rfl ?_) | ((with_reducible refine g_slice ?_); first | refine lx_slice_str rfl rfl rfl ⟨_, rfl⟩ rfl rfl rfl ?_ ?_ ?_ ?_ | refine lx_slice_str rfl rfl ⟨_, rfl⟩ rfl rfl rfl rfl ?_ ?_ ?_ ?_) | ((with_reducible refine g_len ?_); first | refine lx_len_str rfl rfl rfl rfl rfl ?_) | refine c_condP rfl (fun hc => ?_) (fun hc => ?_) | refine c_condB rfl (fun hc => ?_) (fun hc => ?_) | refine lx_splitP rfl (fun hc => ?_) (fun hc => ?_))
    all_goals try (exfalso; omega)
    all_goals exact q_ret (resT_oneE rfl rfl rfl) (stHas_spec ⟨rfl, trivial⟩)
  · cases bad with
    | true =>
      have e : Rs.take ⟨s, true⟩ n = (eS, ⟨s, true⟩) := by
        unfold Rs.take; rw [if_pos (.inl rfl)]
      rw [e]
      refine spec_intro (env0 := [(0, _), (1, _)]) (st0 := [(_, some _)]) Tryd.func80 rfl rfl rfl rfl ?_
      repeat' (first | (with_reducible refine codeT_seq ?_) | (with_reducible refine codeT_skip ?_) | (with_reducible refine codeT_ret ?_) | (with_reducible refine codeT_regionL ?_) | (with_reducible refine lx_nil ?_) | (with_reducible refine q_then ?_) | (with_reducible refine q_then_ret ?_) | refine c_condT rfl ?_ | ((with_reducible refine g_guard ?_); first | refine lx_skip rfl rfl rfl ?_) | ((with_reducible refine g_move ?_); first | refine lx_move (r := (.t _)) rfl rfl rfl rfl rfl ?_ | refine lx_move (r := (.ref _ _ _ _)) rfl rfl rfl rfl rfl ?_) | ((with_reducible refine g_load ?_); first | refine lx_load_var rfl rfl rfl rfl rfl rfl rfl rfl ?_) | ((with_reducible refine g_fieldAddr ?_); first | refine lx_fieldAddr rfl rfl rfl rfl rfl rfl rfl ?_) | ((with_reducible refine g_binOp ?_); first | refine lx_arith rfl rfl rfl rfl rfl rfl rfl ?_) | ((with_reducible refine g_assign ?_); first | refine lx_assign (r := (.t _)) rfl rfl rfl rfl rfl ?_) | ((with_reducible refine g_pick ?_); first | refine lx_pickT (r := (.t _)) rfl rfl rfl rfl rfl rfl ?_ | refine lx_pickF (r := (.t _)) rfl rfl rfl rfl rfl rfl ?_) | ((with_reducible refine g_store ?_); first | refine lx_store_var (r := (.t _)) rfl rfl rfl rfl rfl rfl rfl rfl rfl rfl ?_) | ((with_reducible refine g_nilCheck ?_); first | refine lx_nilCheck (r := (.ref _ _ _ _)) rfl rfl rfl rfl rfl rfl ?_) | ((with_reducible refine g_len ?_); first | refine lx_len_str rfl rfl rfl rfl rfl ?_) | refine c_condP rfl (fun hc => ?_) (fun hc => ?_) | refine lx_splitP rfl (fun hc => ?_) (fun hc => ?_))
      all_goals try (exfalso; omega)
      all_goals exact q_ret (resT_oneE rfl rfl rfl) (stHas_spec ⟨rfl, trivial⟩)
    | false =>
      have e : Rs.take ⟨s, false⟩ n = (s.extract 0 n.toNat, ⟨s.extract n.toNat s.size, false⟩) := by
        unfold Rs.take; rw [if_neg (by simp only [Bool.false_eq_true, false_or]; exact hb)]
      rw [e]
      refine spec_intro (env0 := [(0, _), (1, _)]) (st0 := [(_, some _)]) Tryd.func80 rfl rfl rfl rfl ?_
      repeat' (first | (with_reducible refine codeT_seq ?_) | (with_reducible refine codeT_skip ?_) | (with_reducible refine codeT_ret ?_) | (with_reducible refine codeT_regionL ?_) | (with_reducible refine lx_nil ?_) | (with_reducible refine q_then ?_) | (with_reducible refine q_then_ret ?_) | refine c_condT rfl ?_ | refine c_condF rfl ?_ | ((with_reducible refine g_guard ?_); first | refine lx_skip rfl rfl rfl ?_) | ((with_reducible refine g_move ?_); first | refine lx_move (r := (.t _)) rfl rfl rfl rfl rfl ?_ | refine lx_move (r := (.ref _ _ _ _)) rfl rfl rfl rfl rfl ?_) | ((with_reducible refine g_load ?_); first | refine lx_load_var rfl rfl rfl rfl rfl rfl rfl rfl ?_) | ((with_reducible refine g_fieldAddr ?_); first | refine lx_fieldAddr rfl rfl rfl rfl rfl rfl rfl ?_) | ((with_reducible refine g_binOp ?_); first | refine lx_arith rfl rfl rfl rfl rfl rfl rfl ?_) | ((with_reducible refine g_assign ?_); first | refine lx_assign (r := (.t _)) rfl rfl rfl rfl rfl ?_) | ((with_reducible refine g_pick ?_); first | refine lx_pickT (r := (.t _)) rfl rfl rfl rfl rfl rfl ?_ | refine lx_pickF (r := (.t _)) rfl rfl rfl rfl rfl rfl ?_) | ((with_reducible refine g_store ?_); first | refine lx_store_var (r := (.t _)) rfl rfl rfl rfl rfl rfl rfl rfl rfl rfl ?_) | ((with_reducible refine g_nilCheck ?_); first | refine lx_nilCheck (r := (.ref _ _ _ _)) rfl rfl rfl rfl rfl rfl ?_) | ((with_reducible refine g_slice ?_); first | refine lx_slice_str rfl rfl rfl ⟨_, rfl⟩ rfl rfl rfl ?_ ?_ ?_ ?_ | refine lx_slice_str rfl rfl ⟨_, rfl⟩ rfl rfl rfl rfl ?_ ?_ ?_ ?_) | ((with_reducible refine g_len ?_); first | refine lx_len_str rfl rfl rfl rfl rfl ?_) | refine c_condP rfl (fun hc => ?_) (fun hc => ?_) | refine lx_splitP rfl (fun hc => ?_) (fun hc => ?_))
      all_goals try (exfalso; omega)
      all_goals try omega
      exact q_ret (resT_oneE rfl rfl rfl) (stHas_spec ⟨rfl, trivial⟩)

theorem take_size (r : Rs) (n : Int) : (r.take n).2.s.size ≤ r.s.size ∧ (r.take n).1.size ≤ r.s.size := by
  unfold Rs.take
  split
  · exact ⟨Nat.le_refl _, Nat.zero_le _⟩
  · simp only [ByteArray.size_extract]; omega
theorem take_size2 {r : Rs} {n : Int} (h : (r.take n).1 ≠ eS) : ((r.take n).1.size : Int) = n := by
  unfold Rs.take at h ⊢
  split at h
  · exact absurd rfl h
  · rename_i hn
    rw [if_neg hn]
    simp only [not_or, Bool.not_eq_true, Int.not_lt] at hn
    simp only [ByteArray.size_extract]; omega
set_option maxHeartbeats 2000000 in
theorem Byte_spec (ty : TypeId) (r : Rs) (hs : r.s.size ≤ 1000000000) : Spec Tryd.prog 95 [.ref (.par 0) 0 0 0] [(.par 0, r.row ty)] (.t (.int .u8 r.byte.1)) [(.par 0, r.byte.2.row ty)] := by
  have hT := Take_spec ty r 1 hs
  have h1 := take_size2 (r := r) (n := 1)
  unfold Rs.byte
  generalize r.take 1 = p at hT h1 ⊢
  obtain ⟨a, q⟩ := p
  simp only at hT h1 ⊢
  obtain ⟨qs, qb⟩ := q
  obtain ⟨s, bad⟩ := r
  unfold Rs.row at hT ⊢
  simp only at hT hs ⊢
  refine spec_intro (env0 := [(0, _)]) (st0 := [(_, some _)]) Tryd.func95 rfl rfl rfl rfl ?_
  repeat' (first | (with_reducible refine codeT_seq ?_) | (with_reducible refine codeT_skip ?_) | (with_reducible refine codeT_ret ?_) | (with_reducible refine codeT_regionL ?_) | (with_reducible refine lx_nil ?_) | (with_reducible refine q_then ?_) | (with_reducible refine q_then_ret ?_) | ((with_reducible refine g_move ?_); first | refine lx_move (r := (.t _)) rfl rfl rfl rfl rfl ?_ | refine lx_move (r := (.ref _ _ _ _)) rfl rfl rfl rfl rfl ?_) | ((with_reducible refine g_binOp ?_); first | refine lx_str_ne rfl rfl rfl rfl rfl rfl ?_) | ((with_reducible refine g_assign ?_); first | refine lx_assign (r := (.t _)) rfl rfl rfl rfl rfl ?_) | ((with_reducible refine g_index ?_); first | refine lx_index_str rfl rfl rfl rfl rfl rfl ?_ ?_ ?_) | ((with_reducible refine g_call ?_); first | refine lx_call (r' := .t (.str a)) [] rfl rfl hT (ArgsLE.refl _) rfl ⟨rfl, trivial⟩ rfl rfl rfl rfl rfl rfl rfl rfl rfl rfl ?_) | refine c_condN rfl (fun hc => ?_) (fun hc => ?_))
  · exact q_ret (resT_oneE rfl rfl (congrArg (T.int .u8) (by rw [if_pos (show a = eS from hc)]))) (stHas_spec ⟨rfl, trivial⟩)
  · omega
  · have := h1 (show a ≠ eS from hc); omega
  · exact q_ret (resT_oneE rfl rfl (congrArg (T.int .u8) (by rw [if_neg (show ¬ a = eS from hc)]))) (stHas_spec ⟨rfl, trivial⟩)
set_option maxHeartbeats 2000000 in
theorem Fits_spec (ty : TypeId) (r : Rs) (n : Int) (h0 : 0 ≤ n) (h1 : n < 18446744073709551616) (hs : r.s.size ≤ 1000000000) : Spec Tryd.prog 81 [.ref (.par 0) 0 0 0, .t (.int .u64 n)] [(.par 0, r.row ty)] (.t (.int .i64 (r.fits n).1)) [(.par 0, (r.fits n).2.row ty)] := by
  obtain ⟨s, bad⟩ := r
  unfold Rs.fits Rs.row
  simp only at hs ⊢
  have hw : IntKind.u64.wrap (s.size : Int) = s.size := wrapU64 (by omega) (by omega)
  by_cases hc0 : (s.size : Int) < n
  · rw [if_pos hc0]
    refine spec_intro (env0 := [(0, _), (1, _)]) (st0 := [(_, some _)]) Tryd.func81 rfl rfl rfl rfl ?_
    repeat' (first | (with_reducible refine codeT_seq ?_) | (with_reducible refine codeT_skip ?_) | (with_reducible refine codeT_ret ?_) | (with_reducible refine codeT_regionL ?_) | (with_reducible refine lx_nil ?_) | (with_reducible refine q_then ?_) | (with_reducible refine q_then_ret ?_) | ((with_reducible refine g_move ?_); first | refine lx_move (r := (.t _)) rfl rfl rfl rfl rfl ?_ | refine lx_move (r := (.ref _ _ _ _)) rfl rfl rfl rfl rfl ?_) | ((with_reducible refine g_load ?_); first | refine lx_load_var rfl rfl rfl rfl rfl rfl rfl rfl ?_) | ((with_reducible refine g_fieldAddr ?_); first | refine lx_fieldAddr rfl rfl rfl rfl rfl rfl rfl ?_) | ((with_reducible refine g_binOp ?_); first | refine lx_arith rfl rfl rfl rfl rfl rfl rfl ?_) | ((with_reducible refine g_assign ?_); first | refine lx_assign (r := (.t _)) rfl rfl rfl rfl rfl ?_) | ((with_reducible refine g_store ?_); first | refine lx_store_var (r := (.t _)) rfl rfl rfl rfl rfl rfl rfl rfl rfl rfl ?_) | ((with_reducible refine g_nilCheck ?_); first | refine lx_nilCheck (r := (.ref _ _ _ _)) rfl rfl rfl rfl rfl rfl ?_) | ((with_reducible refine g_convert ?_); first | refine lx_conv_int rfl rfl rfl rfl rfl ?_) | ((with_reducible refine g_len ?_); first | refine lx_len_str rfl rfl rfl rfl rfl ?_) | refine c_condP rfl (fun hc => ?_) (fun hc => ?_))
    all_goals try (exfalso; omega)
    exact q_ret (resT_oneE rfl rfl rfl) (stHas_spec ⟨rfl, trivial⟩)
  · rw [if_neg hc0]
    refine spec_intro (env0 := [(0, _), (1, _)]) (st0 := [(_, some _)]) Tryd.func81 rfl rfl rfl rfl ?_
    repeat' (first | (with_reducible refine codeT_seq ?_) | (with_reducible refine codeT_skip ?_) | (with_reducible refine codeT_ret ?_) | (with_reducible refine codeT_regionL ?_) | (with_reducible refine lx_nil ?_) | (with_reducible refine q_then ?_) | (with_reducible refine q_then_ret ?_) | ((with_reducible refine g_move ?_); first | refine lx_move (r := (.t _)) rfl rfl rfl rfl rfl ?_ | refine lx_move (r := (.ref _ _ _ _)) rfl rfl rfl rfl rfl ?_) | ((with_reducible refine g_load ?_); first | refine lx_load_var rfl rfl rfl rfl rfl rfl rfl rfl ?_) | ((with_reducible refine g_fieldAddr ?_); first | refine lx_fieldAddr rfl rfl rfl rfl rfl rfl rfl ?_) | ((with_reducible refine g_binOp ?_); first | refine lx_arith rfl rfl rfl rfl rfl rfl rfl ?_) | ((with_reducible refine g_assign ?_); first | refine lx_assign (r := (.t _)) rfl rfl rfl rfl rfl ?_) | ((with_reducible refine g_store ?_); first | refine lx_store_var (r := (.t _)) rfl rfl rfl rfl rfl rfl rfl rfl rfl rfl ?_) | ((with_reducible refine g_nilCheck ?_); first | refine lx_nilCheck (r := (.ref _ _ _ _)) rfl rfl rfl rfl rfl rfl ?_) | ((with_reducible refine g_convert ?_); first | refine lx_conv_int rfl rfl rfl rfl rfl ?_) | ((with_reducible refine g_len ?_); first | refine lx_len_str rfl rfl rfl rfl rfl ?_) | refine c_condP rfl (fun hc => ?_) (fun hc => ?_))
    all_goals try (exfalso; omega)
    exact q_ret (resT_oneE rfl rfl (congrArg (T.int .i64) (wrap64 (by omega) (by omega)))) (stHas_spec ⟨rfl, trivial⟩)
theorem or64g {v b : Int} (h0 : 0 ≤ v) (h1 : v < 18446744073709551616) (hb0 : 0 ≤ b) (hb : b < 256) : IntKind.u64.wrap ((BitVec.ofInt IntKind.u64.bits (IntKind.u64.wrap (v * 2 ^ min (Int.toNat 8) IntKind.u64.bits)) ||| BitVec.ofInt IntKind.u64.bits (IntKind.u64.wrap b)).toNat : Int) = v * 256 % 18446744073709551616 + b := by
  have e8 : min (Int.toNat 8) IntKind.u64.bits = 8 := by decide
  rw [e8, wrapU64 (n := b) hb0 (by omega)]
  obtain ⟨x, hx⟩ : ∃ x : Nat, x = (v % 72057594037927936).toNat := ⟨_, rfl⟩
  obtain ⟨c, hc⟩ : ∃ c : Nat, c = b.toNat := ⟨_, rfl⟩
  have e1 : IntKind.u64.wrap (v * 2 ^ 8) = ((x * 256 : Nat) : Int) := by
    simp only [IntKind.wrap, IntKind.bits, IntKind.signed, Bool.false_and, Bool.false_eq_true, if_false]
    omega
  rw [e1, show b = (c : Int) by omega]
  have e2 : (BitVec.ofInt IntKind.u64.bits ((x * 256 : Nat) : Int) ||| BitVec.ofInt IntKind.u64.bits (c : Int)).toNat = x * 256 + c := by
    rw [BitVec.toNat_or, BitVec.ofInt_natCast, BitVec.ofInt_natCast, BitVec.toNat_ofNat, BitVec.toNat_ofNat]
    have : IntKind.u64.bits = 64 := rfl
    rw [this, Nat.mod_eq_of_lt (by omega), Nat.mod_eq_of_lt (by omega)]
    have := Nat.shiftLeft_add_eq_or_of_lt (i := 8) (b := c) (by omega) x
    rw [Nat.shiftLeft_eq] at this
    rw [← this]
  rw [e2, wrapU64 (by omega) (by omega)]
  omega
set_option maxHeartbeats 4000000 in
theorem Uint_spec (ty : TypeId) (r : Rs) (k : Int) (hk : k ≤ 8) (hs : r.s.size ≤ 1000000000) : Spec Tryd.prog 106 [.ref (.par 0) 0 0 0, .t (.int .i64 k)] [(.par 0, r.row ty)] (.t (.int .u64 (r.uint k).1)) [(.par 0, (r.uint k).2.row ty)] := by
  have hT := Take_spec ty r k hs
  have hz := (take_size r k).2
  unfold Rs.uint
  generalize r.take k = p at hT hz ⊢
  obtain ⟨a, q⟩ := p
  simp only at hT hz ⊢
  obtain ⟨qs, qb⟩ := q
  obtain ⟨s, bad⟩ := r
  unfold Rs.row at hT ⊢
  simp only at hT hs hz ⊢
  refine spec_intro (env0 := [(0, _), (1, _)]) (st0 := [(_, some _)]) Tryd.func106 rfl rfl rfl rfl ?_
  repeat' (first | (with_reducible refine codeT_seq ?_) | (with_reducible refine codeT_block ?_) | (with_reducible refine codeT_regionL ?_) | (with_reducible refine lx_nil ?_) | (with_reducible refine q_then ?_) | ((with_reducible refine g_move ?_); first | refine lx_move (r := (.t _)) rfl rfl rfl rfl rfl ?_ | refine lx_move (r := (.ref _ _ _ _)) rfl rfl rfl rfl rfl ?_) | ((with_reducible refine g_assign ?_); first | refine lx_assign (r := (.t _)) rfl rfl rfl rfl rfl ?_) | ((with_reducible refine g_convert ?_); first | refine lx_toBytes rfl rfl rfl rfl rfl rfl ?_ ?_) | ((with_reducible refine g_len ?_); first | refine lx_len_rowmap rfl rfl rfl rfl rfl rfl ?_) | ((with_reducible refine g_call ?_); first | refine lx_call (r' := .t (.str a)) [] rfl rfl hT (ArgsLE.refl _) rfl ⟨rfl, trivial⟩ rfl rfl rfl rfl rfl rfl rfl rfl rfl rfl ?_))
  · omega
  refine codeT_ghost (ghost_freezeL (id := .loc 11) rfl rfl rfl) ?_
  refine codeT_ghost (ghost_keep2 [5, 11, 12, 13] [.par 0] rfl rfl) ?_
  have ela : a.data.toList.length = a.size := toList_len a
  unfold bytesT
  generalize a.data.toList = L at ela ⊢
  refine codeT_loop (fun p env st => ∃ (j : Nat) (v : Int), j ≤ L.length ∧ p = L.length - j ∧ v = (L.take j).foldl u64Step 0 ∧ 0 ≤ v ∧ v < 18446744073709551616 ∧
      env = EnvL.get [(5, .t (.int .u64 v)), (11, .t (.sl 1 (L.map u8T))), (12, .t (.int .i64 L.length)), (13, .t (.int .i64 (j : Int)))] ∧ st = StO.get [(.par 0, some (.var ty [.t (.str qs), .t (.bool qb)]))])
    ?_ (n := L.length) ⟨0, 0, by omega, rfl, rfl, by omega, by omega, rfl, rfl⟩
  rintro p env st ⟨j, v, hj, rfl, hv, h0, h1, rfl, rfl⟩
  by_cases hlt : j < L.length
  · repeat' (first | (with_reducible refine codeT_seq ?_) | (with_reducible refine codeT_regionL ?_) | (with_reducible refine lx_nil ?_) | (with_reducible refine q_then ?_) | ((with_reducible refine g_binOp ?_); first | refine lx_arith rfl rfl rfl rfl rfl rfl rfl ?_))
    refine c_condP rfl (fun hc => ?_) (fun hc => absurd (by omega) hc)
    repeat' (first | (with_reducible refine codeT_seq ?_) | (with_reducible refine codeT_block ?_) | (with_reducible refine codeT_skip ?_) | (with_reducible refine codeT_regionL ?_) | (with_reducible refine lx_nil ?_) | (with_reducible refine q_then ?_) | (with_reducible refine q_block ?_) | ((with_reducible refine g_move ?_); first | refine lx_move (r := (.t _)) rfl rfl rfl rfl rfl ?_) | ((with_reducible refine g_load ?_); first | refine lx_load_tp rfl rfl rfl rfl rfl rfl rfl ?_) | ((with_reducible refine g_binOp ?_); first | refine lx_arith rfl rfl rfl rfl rfl rfl rfl ?_ | refine lx_shl rfl rfl rfl rfl rfl rfl (by decide) ?_) | ((with_reducible refine g_assign ?_); first | refine lx_assign (r := (.t _)) rfl rfl rfl rfl rfl ?_) | ((with_reducible refine g_indexAddr ?_); first | refine lx_indexAddr_map rfl rfl rfl rfl rfl rfl ?_ ?_ ?_) | ((with_reducible refine g_convert ?_); first | refine lx_conv_int rfl rfl rfl rfl rfl ?_))
    all_goals try omega
    have hb := (L.getD (j : Int).toNat default).toNat_lt
    have hst : v * 256 % 18446744073709551616 + ((L.getD (j : Int).toNat default).toNat : Int) = (L.take (j + 1)).foldl u64Step 0 := by
      rw [List.take_add_one, List.getElem?_eq_getElem hlt, Option.toList_some, List.foldl_append, ← hv]
      have hg : L.getD (j : Int).toNat default = L[j] := by simp [List.getD_eq_getElem?_getD, hlt]
      rw [hg]; rfl
    rw [or64g h0 h1 (b := ((L.getD (j : Int).toNat default).toNat : Int)) (by omega) (by omega)]
    refine q_loop (n' := L.length - (j + 1)) (by omega) (ghost_keep2 [5, 11, 12, 13] [.par 0] rfl rfl) ⟨j + 1, v * 256 % 18446744073709551616 + ((L.getD (j : Int).toNat default).toNat : Int), by omega, rfl, hst, by omega, by omega, ?_, rfl⟩
    rw [wrap64 (by omega) (by omega)]; rfl
  · repeat' (first | (with_reducible refine codeT_seq ?_) | (with_reducible refine codeT_regionL ?_) | (with_reducible refine lx_nil ?_) | (with_reducible refine q_then ?_) | ((with_reducible refine g_binOp ?_); first | refine lx_arith rfl rfl rfl rfl rfl rfl rfl ?_))
    refine c_condP rfl (fun hc => absurd hc (by omega)) (fun hc => ?_)
    repeat' (first | (with_reducible refine codeT_seq ?_) | (with_reducible refine codeT_ret ?_) | (with_reducible refine codeT_exit ?_) | (with_reducible refine codeT_regionL ?_) | (with_reducible refine lx_nil ?_) | (with_reducible refine q_then ?_) | (with_reducible refine q_then_exit ?_) | ((with_reducible refine q_block_same ?_ ?_); · rfl) | (with_reducible refine q_loop_exit ?_) | ((with_reducible refine g_move ?_); first | refine lx_move (r := (.t _)) rfl rfl rfl rfl rfl ?_) | ((with_reducible refine g_assign ?_); first | refine lx_assign (r := (.t _)) rfl rfl rfl rfl rfl ?_))
    rw [List.take_of_length_le (by omega)] at hv
    exact q_ret (resT_oneE rfl rfl (congrArg (T.int .u64) hv)) (stHas_spec ⟨rfl, trivial⟩)
end Go.AL
/- What cbor.reader's head and name answer. -/
set_option linter.unusedVariables false
namespace Go.AL
open Go Go.Proofs Go.RowKit

theorem hdMajor {b : Int} (h0 : 0 ≤ b) (h1 : b < 256) : IntKind.i64.wrap (b / 2 ^ min (Int.toNat 5) IntKind.u8.bits) = b / 32 := by
  rw [show min (Int.toNat 5) IntKind.u8.bits = 5 by decide, wrap64 (by omega) (by omega)]; omega
theorem hdLow1 : ∀ b : Fin 256, IntKind.u64.wrap (IntKind.u8.wrap ((BitVec.ofInt IntKind.u8.bits (b.val : Int) &&& BitVec.ofInt IntKind.u8.bits 31).toNat : Int)) = ((b.val % 32 : Nat) : Int) := by decide +kernel
theorem hdLow {b : Int} (h0 : 0 ≤ b) (h1 : b < 256) : IntKind.u64.wrap (IntKind.u8.wrap ((BitVec.ofInt IntKind.u8.bits b &&& BitVec.ofInt IntKind.u8.bits 31).toNat : Int)) = b % 32 := by
  have := hdLow1 ⟨b.toNat, by omega⟩
  simp only at this
  rw [show ((b.toNat : Nat) : Int) = b by omega] at this
  rw [this]; omega
theorem shl_pow {l : Int} (h0 : 24 ≤ l) (h1 : l ≤ 27) : IntKind.i64.wrap (1 * 2 ^ min (IntKind.u64.wrap (l - 24)).toNat IntKind.i64.bits) = 2 ^ (l - 24).toNat := by
  have : l = 24 ∨ l = 25 ∨ l = 26 ∨ l = 27 := by omega
  rcases this with rfl | rfl | rfl | rfl <;> decide
set_option maxHeartbeats 4000000 in
theorem cHead_call (r : Rs) (hs : r.s.size ≤ 1000000) : Spec Tryd.prog 79 [.ref (.par 0) 0 0 0] [(.par 0, r.row 82)] (.tup [.t (.int .i64 (cHead r).1.1), .t (.int .u64 (cHead r).1.2)]) [(.par 0, (cHead r).2.row 82)] := by
  have hB := Byte_spec 82 r (by omega)
  have hr := byte_range r
  have hle := byte_le r
  have hU : ∀ k : Int, k = 2 ^ (r.byte.1 % 32 - 24).toNat → 24 ≤ r.byte.1 % 32 → r.byte.1 % 32 ≤ 27 → Spec Tryd.prog 106 [.ref (.par 0) 0 0 0, .t (.int .i64 k)] [(.par 0, r.byte.2.row 82)] (.t (.int .u64 (r.byte.2.uint (2 ^ (r.byte.1 % 32 - 24).toNat)).1)) [(.par 0, (r.byte.2.uint (2 ^ (r.byte.1 % 32 - 24).toNat)).2.row 82)] := fun k hk h1 h2 => by
    subst hk
    refine Uint_spec 82 r.byte.2 _ ?_ (by omega)
    have : r.byte.1 % 32 = 24 ∨ r.byte.1 % 32 = 25 ∨ r.byte.1 % 32 = 26 ∨ r.byte.1 % 32 = 27 := by omega
    rcases this with h | h | h | h <;> rw [h] <;> decide
  unfold cHead
  generalize r.byte.2.uint (2 ^ (r.byte.1 % 32 - 24).toNat) = u at hU ⊢
  generalize r.byte = p at hB hr hU hle ⊢
  obtain ⟨b, q⟩ := p
  obtain ⟨n, u⟩ := u
  simp only at hB hr hU hle ⊢
  obtain ⟨us, ub⟩ := u
  obtain ⟨qs, qb⟩ := q
  obtain ⟨s, bad⟩ := r
  unfold Rs.row at hB hU ⊢
  simp only at hs hB hU ⊢
  by_cases h24 : b % 32 < 24
  · rw [if_pos h24]
    refine spec_intro (env0 := [(0, _)]) (st0 := [(_, some _)]) Tryd.func79 rfl rfl rfl rfl ?_
    repeat' (first | (with_reducible refine codeT_seq ?_) | (with_reducible refine codeT_skip ?_) | (with_reducible refine codeT_ret ?_) | (with_reducible refine codeT_regionL ?_) | (with_reducible refine lx_nil ?_) | (with_reducible refine q_then ?_) | (with_reducible refine q_then_ret ?_) | ((with_reducible refine g_move ?_); first | refine lx_move (r := (.t _)) rfl rfl rfl rfl rfl ?_ | refine lx_move (r := (.ref _ _ _ _)) rfl rfl rfl rfl rfl ?_) | ((with_reducible refine g_fieldAddr ?_); first | refine lx_fieldAddr rfl rfl rfl rfl rfl rfl rfl ?_) | ((with_reducible refine g_binOp ?_); first | refine lx_arith rfl rfl rfl rfl rfl rfl rfl ?_ | refine lx_shl rfl rfl rfl rfl rfl rfl ?_ ?_ | refine lx_shr rfl rfl rfl rfl rfl rfl (by decide) ?_) | ((with_reducible refine g_assign ?_); first | refine lx_assign (r := (.t _)) rfl rfl rfl rfl rfl ?_) | ((with_reducible refine g_store ?_); first | refine lx_store_var (r := (.t _)) rfl rfl rfl rfl rfl rfl rfl rfl rfl rfl ?_) | ((with_reducible refine g_nilCheck ?_); first | refine lx_nilCheck (r := (.ref _ _ _ _)) rfl rfl rfl rfl rfl rfl ?_) | ((with_reducible refine g_convert ?_); first | refine lx_conv_int rfl rfl rfl rfl rfl ?_) | ((with_reducible refine g_call ?_); first | refine lx_call (r' := .t (.int .u8 b)) [] rfl rfl hB (ArgsLE.refl _) rfl ⟨rfl, trivial⟩ rfl rfl rfl rfl rfl rfl rfl rfl rfl rfl ?_) | refine c_condP rfl (fun hc => ?_) (fun hc => ?_))
    all_goals simp only [hdLow hr.1 hr.2, hdMajor hr.1 hr.2] at *
    all_goals try (exfalso; omega)
    exact q_ret (resT_twoL rfl rfl rfl (by repeat first | exact TLe.refl _ | exact TLe.nil _ | exact TLe.esl _ | refine TLe.agg ?_ | refine TLs.cons ?_ ?_ | exact TLs.nil) (by repeat first | exact TLe.refl _ | exact TLe.nil _ | exact TLe.esl _ | refine TLe.agg ?_ | refine TLs.cons ?_ ?_ | exact TLs.nil)) (stHas_spec ⟨rfl, trivial⟩)
  · rw [if_neg h24]
    by_cases h27 : 27 < b % 32
    · rw [if_pos h27]
      refine spec_intro (env0 := [(0, _)]) (st0 := [(_, some _)]) Tryd.func79 rfl rfl rfl rfl ?_
      repeat' (first | (with_reducible refine codeT_seq ?_) | (with_reducible refine codeT_skip ?_) | (with_reducible refine codeT_ret ?_) | (with_reducible refine codeT_regionL ?_) | (with_reducible refine lx_nil ?_) | (with_reducible refine q_then ?_) | (with_reducible refine q_then_ret ?_) | ((with_reducible refine g_move ?_); first | refine lx_move (r := (.t _)) rfl rfl rfl rfl rfl ?_ | refine lx_move (r := (.ref _ _ _ _)) rfl rfl rfl rfl rfl ?_) | ((with_reducible refine g_fieldAddr ?_); first | refine lx_fieldAddr rfl rfl rfl rfl rfl rfl rfl ?_) | ((with_reducible refine g_binOp ?_); first | refine lx_arith rfl rfl rfl rfl rfl rfl rfl ?_ | refine lx_shl rfl rfl rfl rfl rfl rfl ?_ ?_ | refine lx_shr rfl rfl rfl rfl rfl rfl (by decide) ?_) | ((with_reducible refine g_assign ?_); first | refine lx_assign (r := (.t _)) rfl rfl rfl rfl rfl ?_) | ((with_reducible refine g_store ?_); first | refine lx_store_var (r := (.t _)) rfl rfl rfl rfl rfl rfl rfl rfl rfl rfl ?_) | ((with_reducible refine g_nilCheck ?_); first | refine lx_nilCheck (r := (.ref _ _ _ _)) rfl rfl rfl rfl rfl rfl ?_) | ((with_reducible refine g_convert ?_); first | refine lx_conv_int rfl rfl rfl rfl rfl ?_) | ((with_reducible refine g_call ?_); first | refine lx_call (r' := .t (.int .u8 b)) [] rfl rfl hB (ArgsLE.refl _) rfl ⟨rfl, trivial⟩ rfl rfl rfl rfl rfl rfl rfl rfl rfl rfl ?_) | refine c_condP rfl (fun hc => ?_) (fun hc => ?_))
      all_goals simp only [hdLow hr.1 hr.2, hdMajor hr.1 hr.2] at *
      all_goals try (exfalso; omega)
      exact q_ret (resT_twoL rfl rfl rfl (by repeat first | exact TLe.refl _ | exact TLe.nil _ | exact TLe.esl _ | refine TLe.agg ?_ | refine TLs.cons ?_ ?_ | exact TLs.nil) (by repeat first | exact TLe.refl _ | exact TLe.nil _ | exact TLe.esl _ | refine TLe.agg ?_ | refine TLs.cons ?_ ?_ | exact TLs.nil)) (stHas_spec ⟨rfl, trivial⟩)
    · rw [if_neg h27]
      refine spec_intro (env0 := [(0, _)]) (st0 := [(_, some _)]) Tryd.func79 rfl rfl rfl rfl ?_
      repeat' (first | (with_reducible refine codeT_seq ?_) | (with_reducible refine codeT_skip ?_) | (with_reducible refine codeT_ret ?_) | (with_reducible refine codeT_regionL ?_) | (with_reducible refine lx_nil ?_) | (with_reducible refine q_then ?_) | (with_reducible refine q_then_ret ?_) | ((with_reducible refine g_move ?_); first | refine lx_move (r := (.t _)) rfl rfl rfl rfl rfl ?_ | refine lx_move (r := (.ref _ _ _ _)) rfl rfl rfl rfl rfl ?_) | ((with_reducible refine g_fieldAddr ?_); first | refine lx_fieldAddr rfl rfl rfl rfl rfl rfl rfl ?_) | ((with_reducible refine g_binOp ?_); first | refine lx_arith rfl rfl rfl rfl rfl rfl rfl ?_ | refine lx_shl rfl rfl rfl rfl rfl rfl ?_ ?_ | refine lx_shr rfl rfl rfl rfl rfl rfl (by decide) ?_) | ((with_reducible refine g_assign ?_); first | refine lx_assign (r := (.t _)) rfl rfl rfl rfl rfl ?_) | ((with_reducible refine g_store ?_); first | refine lx_store_var (r := (.t _)) rfl rfl rfl rfl rfl rfl rfl rfl rfl rfl ?_) | ((with_reducible refine g_nilCheck ?_); first | refine lx_nilCheck (r := (.ref _ _ _ _)) rfl rfl rfl rfl rfl rfl ?_) | ((with_reducible refine g_convert ?_); first | refine lx_conv_int rfl rfl rfl rfl rfl ?_) | ((with_reducible refine g_call ?_); first | refine lx_call (r' := .t (.int .u8 b)) [] rfl rfl hB (ArgsLE.refl _) rfl ⟨rfl, trivial⟩ rfl rfl rfl rfl rfl rfl rfl rfl rfl rfl ?_ | refine lx_call (r' := .t (.int .u64 n)) [] rfl rfl (hU _ ?_ (by omega) (by omega)) (ArgsLE.refl _) rfl ⟨rfl, trivial⟩ rfl rfl rfl rfl rfl rfl rfl rfl rfl rfl ?_) | refine c_condP rfl (fun hc => ?_) (fun hc => ?_))
      all_goals simp only [hdLow hr.1 hr.2, hdMajor hr.1 hr.2] at *
      all_goals try (exfalso; omega)
      all_goals try (exact q_ret (resT_twoL rfl rfl rfl (by repeat first | exact TLe.refl _ | exact TLe.nil _ | exact TLe.esl _ | refine TLe.agg ?_ | refine TLs.cons ?_ ?_ | exact TLs.nil) (by repeat first | exact TLe.refl _ | exact TLe.nil _ | exact TLe.esl _ | refine TLe.agg ?_ | refine TLs.cons ?_ ?_ | exact TLs.nil)) (stHas_spec ⟨rfl, trivial⟩))
      · rw [wrapU64 (by omega) (by omega)]; omega
      · exact shl_pow (by omega) (by omega)
set_option maxHeartbeats 4000000 in
theorem cName_call (r : Rs) (hs : r.s.size ≤ 1000000) : Spec Tryd.prog 107 [.ref (.par 0) 0 0 0] [(.par 0, r.row 82)] (.t (.str (cName r).1)) [(.par 0, (cName r).2.row 82)] := by
  have hH := cHead_call r hs
  have hr := cHead_range r
  have hle := cHead_le r
  have hF : ∀ q : Rs, q.s.size ≤ r.s.size → Spec Tryd.prog 81 [.ref (.par 0) 0 0 0, .t (.int .u64 (cHead r).1.2)] [(.par 0, q.row 82)] (.t (.int .i64 (q.fits (cHead r).1.2).1)) [(.par 0, (q.fits (cHead r).1.2).2.row 82)] := fun q hq => Fits_spec 82 q _ hr.2.2.1 hr.2.2.2 (by omega)
  have hT : ∀ q : Rs, q.s.size ≤ r.s.size → Spec Tryd.prog 80 [.ref (.par 0) 0 0 0, .t (.int .i64 (q.fits (cHead r).1.2).1)] [(.par 0, (q.fits (cHead r).1.2).2.row 82)] (.t (.str (cText q (cHead r).1.2).1)) [(.par 0, (cText q (cHead r).1.2).2.row 82)] := fun q hq => Take_spec 82 (q.fits (cHead r).1.2).2 _ (by have := (fits_le q (cHead r).1.2).1; omega)
  unfold cName
  generalize hh : cHead r = h at hH hr hle hF hT ⊢
  obtain ⟨⟨m, n⟩, q⟩ := h
  simp only at hH hr hle hF hT ⊢
  by_cases h3 : m = 3
  · rw [if_pos h3]
    replace hF := hF q hle
    replace hT := hT q hle
    generalize cText q n = t at hT ⊢
    generalize q.fits n = u at hF hT ⊢
    obtain ⟨t, ts, tb⟩ := t
    obtain ⟨u, us, ub⟩ := u
    obtain ⟨qs, qb⟩ := q
    obtain ⟨s, bad⟩ := r
    unfold Rs.row at hH hF hT ⊢
    simp only at hH hF hT ⊢
    refine spec_intro (env0 := [(0, _)]) (st0 := [(_, some _)]) Tryd.func107 rfl rfl rfl rfl ?_
    repeat' (first | (with_reducible refine codeT_seq ?_) | (with_reducible refine codeT_skip ?_) | (with_reducible refine codeT_ret ?_) | (with_reducible refine codeT_regionL ?_) | ((with_reducible refine codeT_region_drawL ?_ ?_); · rfl) | (with_reducible refine lx_nil ?_) | (with_reducible refine q_then ?_) | ((with_reducible refine q_region_draw ?_ ?_); · rfl) | ((with_reducible refine g_move ?_); first | refine lx_move (r := (.t _)) rfl rfl rfl rfl rfl ?_ | refine lx_move (r := (.ref _ _ _ _)) rfl rfl rfl rfl rfl ?_ | refine lx_move (r := (.tup _)) rfl rfl rfl rfl rfl ?_) | ((with_reducible refine g_fieldAddr ?_); first | refine lx_fieldAddr rfl rfl rfl rfl rfl rfl rfl ?_) | ((with_reducible refine g_binOp ?_); first | refine lx_arith rfl rfl rfl rfl rfl rfl rfl ?_) | ((with_reducible refine g_assign ?_); first | refine lx_assign (r := (.t _)) rfl rfl rfl rfl rfl ?_) | ((with_reducible refine g_store ?_); first | refine lx_store_var (r := (.t _)) rfl rfl rfl rfl rfl rfl rfl rfl rfl rfl ?_) | ((with_reducible refine g_nilCheck ?_); first | refine lx_nilCheck (r := (.ref _ _ _ _)) rfl rfl rfl rfl rfl rfl ?_) | ((with_reducible refine g_extract ?_); first | refine lx_extract rfl rfl rfl rfl rfl rfl ?_) | ((with_reducible refine g_call ?_); first | refine lx_call (r' := .tup [.t (.int .i64 m), .t (.int .u64 n)]) [] rfl rfl hH (ArgsLE.refl _) rfl ⟨rfl, trivial⟩ rfl rfl rfl rfl rfl rfl rfl rfl rfl rfl ?_ | exact absurd h3 ‹_› | refine lx_call (r' := .t (.int .i64 u)) [] rfl rfl hF (ArgsLE.refl _) rfl ⟨rfl, trivial⟩ rfl rfl rfl rfl rfl rfl rfl rfl rfl rfl ?_ | refine lx_call (r' := .t (.str t)) [] rfl rfl hT (ArgsLE.refl _) rfl ⟨rfl, trivial⟩ rfl rfl rfl rfl rfl rfl rfl rfl rfl rfl ?_) | refine c_condN rfl (fun hc => ?_) (fun hc => ?_))
    exact q_ret (resT_oneE rfl rfl rfl) (stHas_spec ⟨rfl, trivial⟩)
  · rw [if_neg h3]
    replace hF := hF ⟨q.s, true⟩ hle
    replace hT := hT ⟨q.s, true⟩ hle
    generalize cText ⟨q.s, true⟩ n = t at hT ⊢
    generalize Rs.fits ⟨q.s, true⟩ n = u at hF hT ⊢
    obtain ⟨t, ts, tb⟩ := t
    obtain ⟨u, us, ub⟩ := u
    obtain ⟨qs, qb⟩ := q
    obtain ⟨s, bad⟩ := r
    unfold Rs.row at hH hF hT ⊢
    simp only at hH hF hT ⊢
    refine spec_intro (env0 := [(0, _)]) (st0 := [(_, some _)]) Tryd.func107 rfl rfl rfl rfl ?_
    repeat' (first | (with_reducible refine codeT_seq ?_) | (with_reducible refine codeT_skip ?_) | (with_reducible refine codeT_ret ?_) | (with_reducible refine codeT_regionL ?_) | ((with_reducible refine codeT_region_drawL ?_ ?_); · rfl) | (with_reducible refine lx_nil ?_) | (with_reducible refine q_then ?_) | ((with_reducible refine q_region_draw ?_ ?_); · rfl) | ((with_reducible refine g_move ?_); first | refine lx_move (r := (.t _)) rfl rfl rfl rfl rfl ?_ | refine lx_move (r := (.ref _ _ _ _)) rfl rfl rfl rfl rfl ?_ | refine lx_move (r := (.tup _)) rfl rfl rfl rfl rfl ?_) | ((with_reducible refine g_fieldAddr ?_); first | refine lx_fieldAddr rfl rfl rfl rfl rfl rfl rfl ?_) | ((with_reducible refine g_binOp ?_); first | refine lx_arith rfl rfl rfl rfl rfl rfl rfl ?_) | ((with_reducible refine g_assign ?_); first | refine lx_assign (r := (.t _)) rfl rfl rfl rfl rfl ?_) | ((with_reducible refine g_store ?_); first | refine lx_store_var (r := (.t _)) rfl rfl rfl rfl rfl rfl rfl rfl rfl rfl ?_) | ((with_reducible refine g_nilCheck ?_); first | refine lx_nilCheck (r := (.ref _ _ _ _)) rfl rfl rfl rfl rfl rfl ?_) | ((with_reducible refine g_extract ?_); first | refine lx_extract rfl rfl rfl rfl rfl rfl ?_) | ((with_reducible refine g_call ?_); first | refine lx_call (r' := .tup [.t (.int .i64 m), .t (.int .u64 n)]) [] rfl rfl hH (ArgsLE.refl _) rfl ⟨rfl, trivial⟩ rfl rfl rfl rfl rfl rfl rfl rfl rfl rfl ?_ | exact absurd ‹_› h3 | refine lx_call (r' := .t (.int .i64 u)) [] rfl rfl hF (ArgsLE.refl _) rfl ⟨rfl, trivial⟩ rfl rfl rfl rfl rfl rfl rfl rfl rfl rfl ?_ | refine lx_call (r' := .t (.str t)) [] rfl rfl hT (ArgsLE.refl _) rfl ⟨rfl, trivial⟩ rfl rfl rfl rfl rfl rfl rfl rfl rfl rfl ?_) | refine c_condN rfl (fun hc => ?_) (fun hc => ?_))
    exact q_ret (resT_oneE rfl rfl rfl) (stHas_spec ⟨rfl, trivial⟩)
end Go.AL
/- What cbor.reader's items answers, given what node answers. -/
set_option linter.unusedVariables false
namespace Go.AL
open Go Go.Proofs Go.RowKit

set_option maxHeartbeats 8000000 in
theorem cItems_call (d : Nat) (hd : d ≤ 1000) (B : Nat) (hB : B ≤ 1000000)
    (IH : ∀ q : Rs, q.s.size ≤ B → Spec Tryd.prog 60 [.ref (.par 0) 0 0 0, .t (.int .i64 (d : Int))] [(.par 0, q.row 82)] (.t (cNode d q).1.toT) [(.par 0, (cNode d q).2.row 82)])
    (k : Int) (hk : k = 4 ∨ k = 5) (c : Nat) (hc : c ≤ 1000000) (r : Rs) (hr : r.s.size ≤ B) :
    Spec Tryd.prog 82 [.ref (.par 0) 0 0 0, .t (.agg [.int .i64 k, .bool false, .int .i64 0, .str ⟨#[]⟩, .nilsl, .nilsl]), .t (.int .i64 (c : Int)), .t (.int .i64 ((d + 1 : Nat) : Int))] [(.par 0, r.row 82)] (.t (cItems (cNode d) k c [] [] r).1.toT) [(.par 0, (cItems (cNode d) k c [] [] r).2.row 82)] := by
  generalize hres : cItems (cNode d) k c [] [] r = res
  have hNB := cNode_le B (by omega) d
  generalize cNode d = f at *
  unfold Rs.row
  refine spec_introG (env0 := [(0, _), (1, _), (2, _), (3, _)]) (st0 := [(_, some _)]) Tryd.func82 rfl rfl rfl rfl ?_
  repeat' (first | (with_reducible refine codeT_seq ?_) | (with_reducible refine codeT_block ?_) | (with_reducible refine codeT_regionL ?_) | (with_reducible refine lx_nil ?_) | (with_reducible refine q_then ?_) | ((with_reducible refine g_box ?_); first | refine lx_box (r := (.t (.agg _))) (cs := (List.map .t _)) rfl rfl rfl rfl rfl rfl rfl rfl rfl ?_) | ((with_reducible refine g_alloc ?_); first | refine lx_alloc rfl rfl rfl rfl rfl rfl rfl ?_))
  refine codeT_ghost (ghost_cellNilL (r := .loc 5) 5 (.loc 900) 26 6 rfl rfl rfl rfl rfl) ?_
  refine codeT_ghost (ghost_cellNilL (r := .loc 5) 4 (.loc 901) 9 1 rfl rfl rfl rfl rfl) ?_
  refine codeT_ghost (ghost_keep2 [0, 2, 3, 5, 8] [.par 0, .loc 5, .loc 8, .loc 900, .loc 901] rfl rfl) ?_
  refine codeT_loop (fun m env st => ∃ (j : Nat) (ns : List ByteArray) (is : List Nd) (q : Rs), m = j ∧ j ≤ 1000000 ∧ ns.length + j ≤ 1000000 ∧ is.length + j ≤ 1000000 ∧ q.s.size ≤ B ∧ cItems f k j ns is q = res ∧
      env = EnvL.get [(0, .ref (.par 0) 0 0 0), (2, .t (.int .i64 (j : Int))), (3, .t (.int .i64 ((d + 1 : Nat) : Int))), (5, .ref (.loc 5) 0 0 0), (8, .ref (.loc 8) 0 0 0)] ∧
      st = StO.get [(.par 0, some (.var 82 [.t (.str q.s), .t (.bool q.bad)])), (.loc 5, some (.var 26 [.t (.int .i64 k), .t (.bool false), .t (.int .i64 0), .t (.str ⟨#[]⟩), .row (.loc 901), .row (.loc 900)])), (.loc 8, some (.var 26 [.t (.int .i64 0), .t (.bool false), .t (.int .i64 0), .t (.str ⟨#[]⟩), .t .nilsl, .t .nilsl])), (.loc 900, some (.slt 26 6 (is.map Nd.toT))), (.loc 901, some (.slt 9 1 (ns.map .str)))])
    ?_ (n := c) ⟨c, [], [], r, rfl, by omega, by simp; omega, by simp; omega, hr, hres, rfl, rfl⟩
  rintro m env st ⟨j, ns, is, q, rfl, hj, hns, his, hq, hi, rfl, rfl⟩
  have hN : ∀ (v : Int) (q : Rs), v = (d : Int) → q.s.size ≤ B → Spec Tryd.prog 60 [.ref (.par 0) 0 0 0, .t (.int .i64 v)] [(.par 0, .var 82 [.t (.str q.s), .t (.bool q.bad)])] (.t (f q).1.toT) [(.par 0, .var 82 [.t (.str (f q).2.s), .t (.bool (f q).2.bad)])] := fun v q hv hq => by subst hv; exact IH q hq
  cases m with
  | zero =>
    rw [cItems] at hi
    repeat' (first | (with_reducible refine codeT_seq ?_) | (with_reducible refine codeT_ret ?_) | (with_reducible refine codeT_exit ?_) | (with_reducible refine codeT_regionL ?_) | (with_reducible refine lx_nil ?_) | (with_reducible refine q_then ?_) | (with_reducible refine q_then_exit ?_) | ((with_reducible refine q_block_same ?_ ?_); · rfl) | (with_reducible refine q_loop_exit ?_) | refine c_condF rfl ?_ | ((with_reducible refine g_guard ?_); first | refine lx_skip rfl rfl rfl ?_) | ((with_reducible refine g_move ?_); first | refine lx_move (r := (.t _)) rfl rfl rfl rfl rfl ?_) | ((with_reducible refine g_load ?_); first | refine lx_load_varA (r := (.agg _)) rfl rfl rfl rfl rfl rfl rfl rfl rfl ?_) | ((with_reducible refine g_binOp ?_); first | refine lx_arith rfl rfl rfl rfl rfl rfl rfl ?_) | ((with_reducible refine g_pick ?_); first | refine lx_pickF (r := (.t _)) rfl rfl rfl rfl rfl rfl ?_) | ((with_reducible refine g_store ?_); first | refine lx_store_var (r := (.agg _)) rfl rfl rfl rfl rfl rfl rfl rfl rfl rfl ?_))
    rw [← hi]
    simp only
    rw [Nd.toT_eq]
    refine q_ghost (ghost_keep2 [8] [.par 0, .loc 8, .loc 900, .loc 901] rfl rfl) ?_
    refine q_ghost (ghost_freezeL (id := .loc 900) rfl rfl rfl) ?_; refine q_ghost (ghost_freezeL (id := .loc 901) rfl rfl rfl) ?_
    refine q_done (q_ret ?_ (stHas_spec ⟨rfl, trivial⟩)); refine resT_cell rfl rfl rfl inferInstance rfl inferInstance rfl ?_; exact TLe.av (by repeat first | exact TLe.refl _ | exact TLe.nil _ | exact TLe.esl _ | refine TLe.agg ?_ | refine TLs.cons ?_ ?_ | exact TLs.nil)
  | succ j =>
    rw [cItems] at hi
    obtain ⟨qs, qb⟩ := q
    cases qb with
    | true =>
      rw [if_pos rfl] at hi
      repeat' (first | (with_reducible refine codeT_seq ?_) | (with_reducible refine codeT_ret ?_) | (with_reducible refine codeT_exit ?_) | (with_reducible refine codeT_regionL ?_) | (with_reducible refine lx_nil ?_) | (with_reducible refine q_then ?_) | (with_reducible refine q_then_exit ?_) | ((with_reducible refine q_block_same ?_ ?_); · rfl) | (with_reducible refine q_loop_exit ?_) | refine c_condF rfl ?_ | ((with_reducible refine g_guard ?_); first | refine lx_skip rfl rfl rfl ?_) | ((with_reducible refine g_move ?_); first | refine lx_move (r := (.t _)) rfl rfl rfl rfl rfl ?_ | refine lx_move (r := (.ref _ _ _ _)) rfl rfl rfl rfl rfl ?_) | ((with_reducible refine g_load ?_); first | refine lx_load_var rfl rfl rfl rfl rfl rfl rfl rfl ?_ | refine lx_load_varA (r := (.agg _)) rfl rfl rfl rfl rfl rfl rfl rfl rfl ?_) | ((with_reducible refine g_fieldAddr ?_); first | refine lx_fieldAddr rfl rfl rfl rfl rfl rfl rfl ?_) | ((with_reducible refine g_binOp ?_); first | refine lx_arith rfl rfl rfl rfl rfl rfl rfl ?_) | ((with_reducible refine g_pick ?_); first | refine lx_pickT (r := (.t _)) rfl rfl rfl rfl rfl rfl ?_ | refine lx_pickF (r := (.t _)) rfl rfl rfl rfl rfl rfl ?_) | ((with_reducible refine g_store ?_); first | refine lx_store_var (r := (.agg _)) rfl rfl rfl rfl rfl rfl rfl rfl rfl rfl ?_) | ((with_reducible refine g_nilCheck ?_); first | refine lx_nilCheck (r := (.ref _ _ _ _)) rfl rfl rfl rfl rfl rfl ?_) | ((with_reducible refine g_unOp ?_); first | refine lx_not rfl rfl rfl rfl rfl ?_) | refine lx_splitP rfl (fun hc => ?_) (fun hc => ?_))
      all_goals try (exfalso; omega)
      rw [← hi]
      simp only
      rw [Nd.toT_eq]
      refine q_ghost (ghost_keep2 [8] [.par 0, .loc 8, .loc 900, .loc 901] rfl rfl) ?_
      refine q_ghost (ghost_freezeL (id := .loc 900) rfl rfl rfl) ?_; refine q_ghost (ghost_freezeL (id := .loc 901) rfl rfl rfl) ?_
      refine q_done (q_ret ?_ (stHas_spec ⟨rfl, trivial⟩)); refine resT_cell rfl rfl rfl inferInstance rfl inferInstance rfl ?_; exact TLe.av (by repeat first | exact TLe.refl _ | exact TLe.nil _ | exact TLe.esl _ | refine TLe.agg ?_ | refine TLs.cons ?_ ?_ | exact TLs.nil)
    | false =>
      rw [if_neg (by simp)] at hi
      rcases hk with rfl | rfl
      · rw [if_neg (by decide)] at hi
        replace hN := hN (IntKind.i64.wrap (((d + 1 : Nat) : Int) - 1)) ⟨qs, false⟩ (by rw [wrap64 (by omega) (by omega)]; omega) hq
        have hb := hNB ⟨qs, false⟩ hq
        generalize f ⟨qs, false⟩ = y at hi hN hb
        obtain ⟨x, us, ub⟩ := y
        have hT := x.toT_full
        simp only at hN hi hb
        rw [hT] at hN
        repeat' (first | (with_reducible refine codeT_seq ?_) | (with_reducible refine codeT_block ?_) | (with_reducible refine codeT_skip ?_) | (with_reducible refine codeT_ret ?_) | (with_reducible refine codeT_exit ?_) | (with_reducible refine codeT_regionL ?_) | ((with_reducible refine codeT_region_drawL ?_ ?_); · rfl) | (with_reducible refine lx_nil ?_) | (with_reducible refine q_then ?_) | (with_reducible refine q_then_exit ?_) | (with_reducible refine q_block ?_) | ((with_reducible refine q_block_same ?_ ?_); · rfl) | (with_reducible refine q_loop_exit ?_) | ((with_reducible refine q_region_draw ?_ ?_); · rfl) | refine c_condT rfl ?_ | refine c_condF rfl ?_ | ((with_reducible refine g_guard ?_); first | refine lx_skip rfl rfl rfl ?_) | ((with_reducible refine g_move ?_); first | refine lx_move (r := (.t _)) rfl rfl rfl rfl rfl ?_ | refine lx_move (r := (.ref _ _ _ _)) rfl rfl rfl rfl rfl ?_) | ((with_reducible refine g_load ?_); first | refine lx_load_var rfl rfl rfl rfl rfl rfl rfl rfl ?_ | refine lx_load_varA (r := (.agg _)) rfl rfl rfl rfl rfl rfl rfl rfl rfl ?_) | ((with_reducible refine g_fieldAddr ?_); first | refine lx_fieldAddr rfl rfl rfl rfl rfl rfl rfl ?_) | ((with_reducible refine g_binOp ?_); first | refine lx_arith rfl rfl rfl rfl rfl rfl rfl ?_) | ((with_reducible refine g_assign ?_); first | refine lx_assign (r := (.t _)) rfl rfl rfl rfl rfl ?_) | ((with_reducible refine g_pick ?_); first | refine lx_pickT (r := (.t _)) rfl rfl rfl rfl rfl rfl ?_ | refine lx_pickF (r := (.t _)) rfl rfl rfl rfl rfl rfl ?_) | ((with_reducible refine g_store ?_); first | refine lx_store_var (r := (.agg _)) rfl rfl rfl rfl rfl rfl rfl rfl rfl rfl ?_ | refine lx_store_var (r := (.row _)) rfl rfl rfl rfl rfl rfl rfl rfl rfl rfl ?_) | ((with_reducible refine g_nilCheck ?_); first | refine lx_nilCheck (r := (.ref _ _ _ _)) rfl rfl rfl rfl rfl rfl ?_) | ((with_reducible refine g_unOp ?_); first | refine lx_not rfl rfl rfl rfl rfl ?_) | ((with_reducible refine g_buildSlice ?_); first | refine lx_buildSlice rfl rfl rfl rfl rfl rfl rfl ?_) | ((with_reducible refine g_append ?_); first | refine lx_append_row rfl rfl rfl rfl rfl rfl rfl rfl rfl rfl ?_ ?_ ?_) | ((with_reducible refine g_call ?_); first | refine lx_call (r' := .t (.agg [.int .i64 x.kind, .bool x.bool, .int .i64 x.num, .str x.text, .sl 1 (x.names.map .str), .sl 6 (x.items.map Nd.toT)])) [] rfl rfl hN (ArgsLE.refl _) rfl ⟨rfl, trivial⟩ rfl rfl rfl rfl rfl rfl rfl rfl rfl rfl ?_) | refine lx_splitP rfl (fun hc => ?_) (fun hc => ?_))
        all_goals try (exfalso; omega)
        all_goals try (simp only [List.length_map, List.length_cons, List.length_nil]; omega)
        refine q_loop (n' := j) (by omega) ((ghost_keep2 [0, 2, 3, 5, 8] [.par 0, .loc 5, .loc 8, .loc 38, .loc 901] rfl rfl).trans (ghost_renL2 (.loc 38) (.loc 900) rfl rfl rfl rfl)) ⟨j, ns, is ++ [x], ⟨us, ub⟩, rfl, by omega, by omega, by simp only [List.length_append, List.length_cons, List.length_nil]; omega, hb.1, hi, ?_, ?_⟩
        · rw [wrap64 (by omega) (by omega), show ((j + 1 : Nat) : Int) - 1 = j by omega]; rfl
        · rw [List.map_append, List.map_singleton, hT]; rfl
      · rw [if_pos rfl] at hi
        have hM := cName_call ⟨qs, false⟩ (Nat.le_trans hq hB)
        have hM2 := cName_le ⟨qs, false⟩
        generalize cName ⟨qs, false⟩ = z at hi hM hM2
        obtain ⟨nm, ps, pb⟩ := z
        simp only at hi hM hM2
        replace hN := hN (IntKind.i64.wrap (((d + 1 : Nat) : Int) - 1)) ⟨ps, pb⟩ (by rw [wrap64 (by omega) (by omega)]; omega) (Nat.le_trans hM2.1 hq)
        have hb := hNB ⟨ps, pb⟩ (Nat.le_trans hM2.1 hq)
        generalize f ⟨ps, pb⟩ = y at hi hN hb
        obtain ⟨x, us, ub⟩ := y
        have hT := x.toT_full
        unfold Rs.row at hM
        simp only at hN hi hb hM
        rw [hT] at hN
        repeat' (first | (with_reducible refine codeT_seq ?_) | (with_reducible refine codeT_block ?_) | (with_reducible refine codeT_skip ?_) | (with_reducible refine codeT_ret ?_) | (with_reducible refine codeT_exit ?_) | (with_reducible refine codeT_regionL ?_) | ((with_reducible refine codeT_region_drawL ?_ ?_); · rfl) | (with_reducible refine lx_nil ?_) | (with_reducible refine q_then ?_) | (with_reducible refine q_then_exit ?_) | (with_reducible refine q_block ?_) | ((with_reducible refine q_block_same ?_ ?_); · rfl) | (with_reducible refine q_loop_exit ?_) | ((with_reducible refine q_region_draw ?_ ?_); · rfl) | refine c_condT rfl ?_ | refine c_condF rfl ?_ | ((with_reducible refine g_guard ?_); first | refine lx_skip rfl rfl rfl ?_) | ((with_reducible refine g_move ?_); first | refine lx_move (r := (.t _)) rfl rfl rfl rfl rfl ?_ | refine lx_move (r := (.ref _ _ _ _)) rfl rfl rfl rfl rfl ?_) | ((with_reducible refine g_load ?_); first | refine lx_load_var rfl rfl rfl rfl rfl rfl rfl rfl ?_ | refine lx_load_varA (r := (.agg _)) rfl rfl rfl rfl rfl rfl rfl rfl rfl ?_) | ((with_reducible refine g_fieldAddr ?_); first | refine lx_fieldAddr rfl rfl rfl rfl rfl rfl rfl ?_) | ((with_reducible refine g_binOp ?_); first | refine lx_arith rfl rfl rfl rfl rfl rfl rfl ?_) | ((with_reducible refine g_assign ?_); first | refine lx_assign (r := (.t _)) rfl rfl rfl rfl rfl ?_) | ((with_reducible refine g_pick ?_); first | refine lx_pickT (r := (.t _)) rfl rfl rfl rfl rfl rfl ?_ | refine lx_pickF (r := (.t _)) rfl rfl rfl rfl rfl rfl ?_) | ((with_reducible refine g_store ?_); first | refine lx_store_var (r := (.agg _)) rfl rfl rfl rfl rfl rfl rfl rfl rfl rfl ?_ | refine lx_store_var (r := (.row _)) rfl rfl rfl rfl rfl rfl rfl rfl rfl rfl ?_) | ((with_reducible refine g_nilCheck ?_); first | refine lx_nilCheck (r := (.ref _ _ _ _)) rfl rfl rfl rfl rfl rfl ?_) | ((with_reducible refine g_unOp ?_); first | refine lx_not rfl rfl rfl rfl rfl ?_) | ((with_reducible refine g_buildSlice ?_); first | refine lx_buildSlice rfl rfl rfl rfl rfl rfl rfl ?_) | ((with_reducible refine g_append ?_); first | refine lx_append_row rfl rfl rfl rfl rfl rfl rfl rfl rfl rfl ?_ ?_ ?_) | ((with_reducible refine g_call ?_); first | refine lx_call (r' := .t (.str nm)) [] rfl rfl hM (ArgsLE.refl _) rfl ⟨rfl, trivial⟩ rfl rfl rfl rfl rfl rfl rfl rfl rfl rfl ?_ | refine lx_call (r' := .t (.agg [.int .i64 x.kind, .bool x.bool, .int .i64 x.num, .str x.text, .sl 1 (x.names.map .str), .sl 6 (x.items.map Nd.toT)])) [] rfl rfl hN (ArgsLE.refl _) rfl ⟨rfl, trivial⟩ rfl rfl rfl rfl rfl rfl rfl rfl rfl rfl ?_) | refine lx_splitP rfl (fun hc => ?_) (fun hc => ?_))
        all_goals try (exfalso; omega)
        all_goals try (simp only [List.length_map, List.length_cons, List.length_nil]; omega)
        refine q_loop (n' := j) (by omega) ((ghost_keep2 [0, 2, 3, 5, 8] [.par 0, .loc 5, .loc 8, .loc 38, .loc 29] rfl rfl).trans ((ghost_renL2 (.loc 38) (.loc 900) rfl rfl rfl rfl).trans (ghost_renL2 (.loc 29) (.loc 901) rfl rfl rfl rfl))) ⟨j, ns ++ [nm], is ++ [x], ⟨us, ub⟩, rfl, by omega, by simp only [List.length_append, List.length_cons, List.length_nil]; omega, by simp only [List.length_append, List.length_cons, List.length_nil]; omega, hb.1, hi, ?_, ?_⟩
        · rw [wrap64 (by omega) (by omega), show ((j + 1 : Nat) : Int) - 1 = j by omega]; rfl
        · rw [List.map_append, List.map_append, List.map_singleton, List.map_singleton, hT]; rfl
end Go.AL
/- What cbor.reader's node answers. -/
set_option linter.unusedVariables false
namespace Go.AL
open Go Go.Proofs Go.RowKit

theorem fits_ge {r : Rs} {n : Int} (h : 0 ≤ n) : 0 ≤ (r.fits n).1 := by
  unfold Rs.fits; split
  · simp
  · exact h
set_option maxHeartbeats 8000000 in
theorem cNode_call : ∀ (d : Nat), d ≤ 1000 → ∀ r : Rs, r.s.size ≤ 1000000 → Spec Tryd.prog 60 [.ref (.par 0) 0 0 0, .t (.int .i64 (d : Int))] [(.par 0, r.row 82)] (.t (cNode d r).1.toT) [(.par 0, (cNode d r).2.row 82)]
  | 0, hd, r, hr => by
    have hH := cHead_call r hr
    rw [cNode]
    generalize cHead r = h at hH ⊢
    obtain ⟨⟨m, n⟩, qs, qb⟩ := h
    obtain ⟨s, bad⟩ := r
    unfold Rs.row at hH ⊢
    simp only at hH ⊢
    rw [zero_toT]
    refine spec_intro (env0 := [(0, _), (1, _)]) (st0 := [(_, some _)]) Tryd.func60 rfl rfl rfl rfl ?_
    repeat' (first | (with_reducible refine codeT_seq ?_) | (with_reducible refine codeT_ret ?_) | (with_reducible refine codeT_regionL ?_) | (with_reducible refine lx_nil ?_) | (with_reducible refine q_then ?_) | (with_reducible refine q_then_ret ?_) | refine c_condT rfl ?_ | ((with_reducible refine g_move ?_); first | refine lx_move (r := (.t _)) rfl rfl rfl rfl rfl ?_ | refine lx_move (r := (.ref _ _ _ _)) rfl rfl rfl rfl rfl ?_ | refine lx_move (r := (.tup _)) rfl rfl rfl rfl rfl ?_) | ((with_reducible refine g_fieldAddr ?_); first | refine lx_fieldAddr rfl rfl rfl rfl rfl rfl rfl ?_) | ((with_reducible refine g_binOp ?_); first | refine lx_arith rfl rfl rfl rfl rfl rfl rfl ?_) | ((with_reducible refine g_assign ?_); first | refine lx_assign (r := (.t _)) rfl rfl rfl rfl rfl ?_) | ((with_reducible refine g_alloc ?_); first | refine lx_alloc rfl rfl rfl rfl rfl rfl rfl ?_) | ((with_reducible refine g_store ?_); first | refine lx_store_var (r := (.t (.agg _))) rfl rfl rfl rfl rfl rfl rfl rfl rfl rfl ?_ | refine lx_store_var (r := (.t _)) rfl rfl rfl rfl rfl rfl rfl rfl rfl rfl ?_) | ((with_reducible refine g_nilCheck ?_); first | refine lx_nilCheck (r := (.ref _ _ _ _)) rfl rfl rfl rfl rfl rfl ?_) | ((with_reducible refine g_extract ?_); first | refine lx_extract rfl rfl rfl rfl rfl rfl ?_) | ((with_reducible refine g_build ?_); first | refine lx_build (r := (.t (.agg _))) rfl rfl rfl rfl rfl rfl rfl ?_) | ((with_reducible refine g_call ?_); first | refine lx_call (r' := .tup [.t (.int .i64 m), .t (.int .u64 n)]) [] rfl rfl hH (ArgsLE.refl _) rfl ⟨rfl, trivial⟩ rfl rfl rfl rfl rfl rfl rfl rfl rfl rfl ?_))
    refine q_ret ?_ (stHas_spec ⟨rfl, trivial⟩); refine resT_cell rfl rfl rfl inferInstance rfl inferInstance rfl ?_; exact TLe.av (by repeat first | exact TLe.refl _ | exact TLe.nil _ | exact TLe.esl _ | refine TLe.agg ?_ | refine TLs.cons ?_ ?_ | exact TLs.nil)
  | d + 1, hd, r, hr => by
    have hH := cHead_call r hr
    have hhr := cHead_range r
    have hhl := cHead_le r
    have IH := cNode_call d (by omega)
    obtain ⟨m, n, q, hh⟩ : ∃ m n q, cHead r = ((m, n), q) := ⟨_, _, _, rfl⟩
    rw [cNode_hd hh]
    rw [hh] at hH hhr hhl
    simp only at hH hhr hhl
    have hF := Fits_spec 82 q n hhr.2.2.1 hhr.2.2.2 (by omega)
    have hfl := fits_le q n
    have hfg := fits_ge (r := q) hhr.2.2.1
    have hT := Take_spec 82 (q.fits n).2 (q.fits n).1 (by omega)
    replace hT : Spec Tryd.prog 80 [.ref (.par 0) 0 0 0, .t (.int .i64 (q.fits n).1)] [(.par 0, (q.fits n).2.row 82)] (.t (.str (cText q n).1)) [(.par 0, (cText q n).2.row 82)] := hT
    have hI : ∀ k : Int, k = 4 ∨ k = 5 → Spec Tryd.prog 82 [.ref (.par 0) 0 0 0, .t (.agg [.int .i64 k, .bool false, .int .i64 0, .str ⟨#[]⟩, .nilsl, .nilsl]), .t (.int .i64 (q.fits n).1), .t (.int .i64 ((d + 1 : Nat) : Int))] [(.par 0, (q.fits n).2.row 82)] (.t (cItems (cNode d) k (q.fits n).1.toNat [] [] (q.fits n).2).1.toT) [(.par 0, (cItems (cNode d) k (q.fits n).1.toNat [] [] (q.fits n).2).2.row 82)] := fun k hk => by
      have := cItems_call d (by omega) 1000000 (by omega) (fun q hq => IH q hq) k hk (q.fits n).1.toNat (by omega) (q.fits n).2 (by omega)
      rw [show (((q.fits n).1.toNat : Nat) : Int) = (q.fits n).1 by omega] at this
      exact this
    have hI4 := hI 4 (.inl rfl)
    have hI5 := hI 5 (.inr rfl)
    clear hI IH
    generalize cItems (cNode d) 4 (q.fits n).1.toNat [] [] (q.fits n).2 = i4 at hI4 ⊢
    generalize cItems (cNode d) 5 (q.fits n).1.toNat [] [] (q.fits n).2 = i5 at hI5 ⊢
    generalize cText q n = t at hT ⊢
    generalize q.fits n = u at hF hT hI4 hI5 hfl hfg
    obtain ⟨u, us, ub⟩ := u
    obtain ⟨t, ts, tb⟩ := t
    obtain ⟨i4, i4s, i4b⟩ := i4
    obtain ⟨i5, i5s, i5b⟩ := i5
    obtain ⟨qs, qb⟩ := q
    obtain ⟨s, bad⟩ := r
    have e4 := i4.toT_full
    have e5 := i5.toT_full
    unfold Rs.row at *
    simp only at *
    rw [e4] at hI4
    rw [e5] at hI5
    have hm : m = 0 ∨ m = 1 ∨ m = 2 ∨ m = 3 ∨ m = 4 ∨ m = 5 ∨ m = 6 ∨ m = 7 := by omega
    clear hh hhl hfl hfg
    rcases hm with rfl | rfl | rfl | rfl | rfl | rfl | rfl | rfl
    · rw [if_pos rfl]
      simp only
      rw [Nd.toT_eq]
      refine spec_intro (env0 := [(0, _), (1, _)]) (st0 := [(_, some _)]) Tryd.func60 rfl rfl rfl rfl ?_
      repeat' (first | (with_reducible refine codeT_seq ?_) | (with_reducible refine codeT_block ?_) | (with_reducible refine codeT_skip ?_) | (with_reducible refine codeT_ret ?_) | (with_reducible refine codeT_regionL ?_) | (with_reducible refine lx_nil ?_) | (with_reducible refine q_then ?_) | (with_reducible refine q_then_ret ?_) | (with_reducible refine q_block_ret ?_) | refine c_condT rfl ?_ | refine c_condF rfl ?_ | ((with_reducible refine g_move ?_); first | refine lx_move (r := (.t _)) rfl rfl rfl rfl rfl ?_ | refine lx_move (r := (.ref _ _ _ _)) rfl rfl rfl rfl rfl ?_ | refine lx_move (r := (.tup _)) rfl rfl rfl rfl rfl ?_) | ((with_reducible refine g_binOp ?_); first | refine lx_arith rfl rfl rfl rfl rfl rfl rfl ?_) | ((with_reducible refine g_assign ?_); first | refine lx_assign (r := (.t _)) rfl rfl rfl rfl rfl ?_) | ((with_reducible refine g_alloc ?_); first | refine lx_alloc rfl rfl rfl rfl rfl rfl rfl ?_) | ((with_reducible refine g_store ?_); first | refine lx_store_var (r := (.t (.agg _))) rfl rfl rfl rfl rfl rfl rfl rfl rfl rfl ?_) | ((with_reducible refine g_convert ?_); first | refine lx_conv_int rfl rfl rfl rfl rfl ?_) | ((with_reducible refine g_extract ?_); first | refine lx_extract rfl rfl rfl rfl rfl rfl ?_) | ((with_reducible refine g_build ?_); first | refine lx_build (r := (.t (.agg _))) rfl rfl rfl rfl rfl rfl rfl ?_) | ((with_reducible refine g_call ?_); first | refine lx_call (r' := .tup [.t (.int .i64 0), .t (.int .u64 n)]) [] rfl rfl hH (ArgsLE.refl _) rfl ⟨rfl, trivial⟩ rfl rfl rfl rfl rfl rfl rfl rfl rfl rfl ?_))
      all_goals try (exfalso; omega)
      refine q_ret ?_ (stHas_spec ⟨rfl, trivial⟩); refine resT_cell rfl rfl rfl inferInstance rfl inferInstance rfl ?_; exact TLe.av (by repeat first | exact TLe.refl _ | exact TLe.nil _ | exact TLe.esl _ | refine TLe.agg ?_ | refine TLs.cons ?_ ?_ | exact TLs.nil)
    · rw [if_neg (by decide), if_pos rfl]
      simp only
      rw [Nd.toT_eq, ← cpl64 (i64_range n).1 (i64_range n).2]
      refine spec_intro (env0 := [(0, _), (1, _)]) (st0 := [(_, some _)]) Tryd.func60 rfl rfl rfl rfl ?_
      repeat' (first | (with_reducible refine codeT_seq ?_) | (with_reducible refine codeT_block ?_) | (with_reducible refine codeT_skip ?_) | (with_reducible refine codeT_ret ?_) | (with_reducible refine codeT_regionL ?_) | (with_reducible refine lx_nil ?_) | (with_reducible refine q_then ?_) | (with_reducible refine q_then_ret ?_) | (with_reducible refine q_block_ret ?_) | refine c_condT rfl ?_ | refine c_condF rfl ?_ | ((with_reducible refine g_move ?_); first | refine lx_move (r := (.t _)) rfl rfl rfl rfl rfl ?_ | refine lx_move (r := (.ref _ _ _ _)) rfl rfl rfl rfl rfl ?_ | refine lx_move (r := (.tup _)) rfl rfl rfl rfl rfl ?_) | ((with_reducible refine g_binOp ?_); first | refine lx_arith rfl rfl rfl rfl rfl rfl rfl ?_) | ((with_reducible refine g_assign ?_); first | refine lx_assign (r := (.t _)) rfl rfl rfl rfl rfl ?_) | ((with_reducible refine g_alloc ?_); first | refine lx_alloc rfl rfl rfl rfl rfl rfl rfl ?_) | ((with_reducible refine g_store ?_); first | refine lx_store_var (r := (.t (.agg _))) rfl rfl rfl rfl rfl rfl rfl rfl rfl rfl ?_) | ((with_reducible refine g_unOp ?_); first | refine lx_cpl rfl rfl rfl rfl rfl ?_) | ((with_reducible refine g_convert ?_); first | refine lx_conv_int rfl rfl rfl rfl rfl ?_) | ((with_reducible refine g_extract ?_); first | refine lx_extract rfl rfl rfl rfl rfl rfl ?_) | ((with_reducible refine g_build ?_); first | refine lx_build (r := (.t (.agg _))) rfl rfl rfl rfl rfl rfl rfl ?_) | ((with_reducible refine g_call ?_); first | refine lx_call (r' := .tup [.t (.int .i64 1), .t (.int .u64 n)]) [] rfl rfl hH (ArgsLE.refl _) rfl ⟨rfl, trivial⟩ rfl rfl rfl rfl rfl rfl rfl rfl rfl rfl ?_))
      all_goals try (exfalso; omega)
      refine q_ret ?_ (stHas_spec ⟨rfl, trivial⟩); refine resT_cell rfl rfl rfl inferInstance rfl inferInstance rfl ?_; exact TLe.av (by repeat first | exact TLe.refl _ | exact TLe.nil _ | exact TLe.esl _ | refine TLe.agg ?_ | refine TLs.cons ?_ ?_ | exact TLs.nil)
    · rw [if_neg (by decide), if_neg (by decide), if_neg (by decide), if_neg (by decide), if_neg (by decide), if_neg (fun h => absurd h.1 (by decide))]
      simp only
      rw [zero_toT]
      refine spec_intro (env0 := [(0, _), (1, _)]) (st0 := [(_, some _)]) Tryd.func60 rfl rfl rfl rfl ?_
      repeat' (first | (with_reducible refine codeT_seq ?_) | (with_reducible refine codeT_block ?_) | (with_reducible refine codeT_skip ?_) | (with_reducible refine codeT_ret ?_) | (with_reducible refine codeT_regionL ?_) | (with_reducible refine lx_nil ?_) | (with_reducible refine q_then ?_) | (with_reducible refine q_block ?_) | refine c_condF rfl ?_ | ((with_reducible refine g_move ?_); first | refine lx_move (r := (.t _)) rfl rfl rfl rfl rfl ?_ | refine lx_move (r := (.ref _ _ _ _)) rfl rfl rfl rfl rfl ?_ | refine lx_move (r := (.tup _)) rfl rfl rfl rfl rfl ?_) | ((with_reducible refine g_binOp ?_); first | refine lx_arith rfl rfl rfl rfl rfl rfl rfl ?_) | ((with_reducible refine g_assign ?_); first | refine lx_assign (r := (.t _)) rfl rfl rfl rfl rfl ?_) | ((with_reducible refine g_alloc ?_); first | refine lx_alloc rfl rfl rfl rfl rfl rfl rfl ?_) | ((with_reducible refine g_store ?_); first | refine lx_store_var (r := (.t (.agg _))) rfl rfl rfl rfl rfl rfl rfl rfl rfl rfl ?_) | ((with_reducible refine g_extract ?_); first | refine lx_extract rfl rfl rfl rfl rfl rfl ?_) | ((with_reducible refine g_build ?_); first | refine lx_build (r := (.t (.agg _))) rfl rfl rfl rfl rfl rfl rfl ?_) | ((with_reducible refine g_call ?_); first | refine lx_call (r' := .tup [.t (.int .i64 2), .t (.int .u64 n)]) [] rfl rfl hH (ArgsLE.refl _) rfl ⟨rfl, trivial⟩ rfl rfl rfl rfl rfl rfl rfl rfl rfl rfl ?_))
      all_goals try (exfalso; omega)
      refine q_ret ?_ (stHas_spec ⟨rfl, trivial⟩); refine resT_cell rfl rfl rfl inferInstance rfl inferInstance rfl ?_; exact TLe.av (by repeat first | exact TLe.refl _ | exact TLe.nil _ | exact TLe.esl _ | refine TLe.agg ?_ | refine TLs.cons ?_ ?_ | exact TLs.nil)
    · rw [if_neg (by decide), if_neg (by decide), if_pos rfl]
      simp only
      rw [Nd.toT_eq]
      refine spec_intro (env0 := [(0, _), (1, _)]) (st0 := [(_, some _)]) Tryd.func60 rfl rfl rfl rfl ?_
      repeat' (first | (with_reducible refine codeT_seq ?_) | (with_reducible refine codeT_block ?_) | (with_reducible refine codeT_skip ?_) | (with_reducible refine codeT_ret ?_) | (with_reducible refine codeT_regionL ?_) | ((with_reducible refine codeT_region_drawL ?_ ?_); · rfl) | (with_reducible refine lx_nil ?_) | (with_reducible refine q_then ?_) | (with_reducible refine q_then_ret ?_) | (with_reducible refine q_block_ret ?_) | ((with_reducible refine q_region_draw ?_ ?_); · rfl) | refine c_condT rfl ?_ | refine c_condF rfl ?_ | ((with_reducible refine g_move ?_); first | refine lx_move (r := (.t _)) rfl rfl rfl rfl rfl ?_ | refine lx_move (r := (.ref _ _ _ _)) rfl rfl rfl rfl rfl ?_ | refine lx_move (r := (.tup _)) rfl rfl rfl rfl rfl ?_) | ((with_reducible refine g_fieldAddr ?_); first | refine lx_fieldAddr rfl rfl rfl rfl rfl rfl rfl ?_) | ((with_reducible refine g_binOp ?_); first | refine lx_arith rfl rfl rfl rfl rfl rfl rfl ?_) | ((with_reducible refine g_assign ?_); first | refine lx_assign (r := (.t _)) rfl rfl rfl rfl rfl ?_) | ((with_reducible refine g_alloc ?_); first | refine lx_alloc rfl rfl rfl rfl rfl rfl rfl ?_) | ((with_reducible refine g_store ?_); first | refine lx_store_var (r := (.t (.agg _))) rfl rfl rfl rfl rfl rfl rfl rfl rfl rfl ?_) | ((with_reducible refine g_nilCheck ?_); first | refine lx_nilCheck (r := (.ref _ _ _ _)) rfl rfl rfl rfl rfl rfl ?_) | ((with_reducible refine g_extract ?_); first | refine lx_extract rfl rfl rfl rfl rfl rfl ?_) | ((with_reducible refine g_build ?_); first | refine lx_build (r := (.t (.agg _))) rfl rfl rfl rfl rfl rfl rfl ?_) | ((with_reducible refine g_call ?_); first | refine lx_call (r' := .tup [.t (.int .i64 3), .t (.int .u64 n)]) [] rfl rfl hH (ArgsLE.refl _) rfl ⟨rfl, trivial⟩ rfl rfl rfl rfl rfl rfl rfl rfl rfl rfl ?_ | refine lx_call (r' := .t (.int .i64 u)) [] rfl rfl hF (ArgsLE.refl _) rfl ⟨rfl, trivial⟩ rfl rfl rfl rfl rfl rfl rfl rfl rfl rfl ?_ | refine lx_call (r' := .t (.str t)) [] rfl rfl hT (ArgsLE.refl _) rfl ⟨rfl, trivial⟩ rfl rfl rfl rfl rfl rfl rfl rfl rfl rfl ?_))
      all_goals try (exfalso; omega)
      refine q_ret ?_ (stHas_spec ⟨rfl, trivial⟩); refine resT_cell rfl rfl rfl inferInstance rfl inferInstance rfl ?_; exact TLe.av (by repeat first | exact TLe.refl _ | exact TLe.nil _ | exact TLe.esl _ | refine TLe.agg ?_ | refine TLs.cons ?_ ?_ | exact TLs.nil)
    · rw [if_neg (by decide), if_neg (by decide), if_neg (by decide), if_pos rfl]
      simp only
      rw [e4]
      refine spec_intro (env0 := [(0, _), (1, _)]) (st0 := [(_, some _)]) Tryd.func60 rfl rfl rfl rfl ?_
      repeat' (first | (with_reducible refine codeT_seq ?_) | (with_reducible refine codeT_block ?_) | (with_reducible refine codeT_skip ?_) | (with_reducible refine codeT_ret ?_) | (with_reducible refine codeT_regionL ?_) | (with_reducible refine lx_nil ?_) | (with_reducible refine q_then ?_) | (with_reducible refine q_then_ret ?_) | (with_reducible refine q_block_ret ?_) | refine c_condT rfl ?_ | refine c_condF rfl ?_ | ((with_reducible refine g_move ?_); first | refine lx_move (r := (.t _)) rfl rfl rfl rfl rfl ?_ | refine lx_move (r := (.ref _ _ _ _)) rfl rfl rfl rfl rfl ?_ | refine lx_move (r := (.tup _)) rfl rfl rfl rfl rfl ?_) | ((with_reducible refine g_fieldAddr ?_); first | refine lx_fieldAddr rfl rfl rfl rfl rfl rfl rfl ?_) | ((with_reducible refine g_binOp ?_); first | refine lx_arith rfl rfl rfl rfl rfl rfl rfl ?_) | ((with_reducible refine g_assign ?_); first | refine lx_assign (r := (.t _)) rfl rfl rfl rfl rfl ?_) | ((with_reducible refine g_alloc ?_); first | refine lx_alloc rfl rfl rfl rfl rfl rfl rfl ?_) | ((with_reducible refine g_store ?_); first | refine lx_store_var (r := (.t (.agg _))) rfl rfl rfl rfl rfl rfl rfl rfl rfl rfl ?_) | ((with_reducible refine g_nilCheck ?_); first | refine lx_nilCheck (r := (.ref _ _ _ _)) rfl rfl rfl rfl rfl rfl ?_) | ((with_reducible refine g_extract ?_); first | refine lx_extract rfl rfl rfl rfl rfl rfl ?_) | ((with_reducible refine g_build ?_); first | refine lx_build (r := (.t (.agg _))) rfl rfl rfl rfl rfl rfl rfl ?_) | ((with_reducible refine g_call ?_); first | refine lx_call (r' := .tup [.t (.int .i64 4), .t (.int .u64 n)]) [] rfl rfl hH (ArgsLE.refl _) rfl ⟨rfl, trivial⟩ rfl rfl rfl rfl rfl rfl rfl rfl rfl rfl ?_ | refine lx_call (r' := .t (.int .i64 u)) [] rfl rfl hF (ArgsLE.refl _) rfl ⟨rfl, trivial⟩ rfl rfl rfl rfl rfl rfl rfl rfl rfl rfl ?_ | refine lx_call (r' := .t (.agg [.int .i64 i4.kind, .bool i4.bool, .int .i64 i4.num, .str i4.text, .sl 1 (i4.names.map .str), .sl 6 (i4.items.map Nd.toT)])) [] rfl rfl hI4 (ArgsLE.refl _) rfl ⟨rfl, trivial⟩ rfl rfl rfl rfl rfl rfl rfl rfl rfl rfl ?_))
      all_goals try (exfalso; omega)
      refine q_ret ?_ (stHas_spec ⟨rfl, trivial⟩); refine resT_cell rfl rfl rfl inferInstance rfl inferInstance rfl ?_; exact TLe.av (by repeat first | exact TLe.refl _ | exact TLe.nil _ | exact TLe.esl _ | refine TLe.agg ?_ | refine TLs.cons ?_ ?_ | exact TLs.nil)
    · rw [if_neg (by decide), if_neg (by decide), if_neg (by decide), if_neg (by decide), if_pos rfl]
      simp only
      rw [e5]
      refine spec_intro (env0 := [(0, _), (1, _)]) (st0 := [(_, some _)]) Tryd.func60 rfl rfl rfl rfl ?_
      repeat' (first | (with_reducible refine codeT_seq ?_) | (with_reducible refine codeT_block ?_) | (with_reducible refine codeT_skip ?_) | (with_reducible refine codeT_ret ?_) | (with_reducible refine codeT_regionL ?_) | (with_reducible refine lx_nil ?_) | (with_reducible refine q_then ?_) | (with_reducible refine q_then_ret ?_) | (with_reducible refine q_block_ret ?_) | refine c_condT rfl ?_ | refine c_condF rfl ?_ | ((with_reducible refine g_move ?_); first | refine lx_move (r := (.t _)) rfl rfl rfl rfl rfl ?_ | refine lx_move (r := (.ref _ _ _ _)) rfl rfl rfl rfl rfl ?_ | refine lx_move (r := (.tup _)) rfl rfl rfl rfl rfl ?_) | ((with_reducible refine g_fieldAddr ?_); first | refine lx_fieldAddr rfl rfl rfl rfl rfl rfl rfl ?_) | ((with_reducible refine g_binOp ?_); first | refine lx_arith rfl rfl rfl rfl rfl rfl rfl ?_) | ((with_reducible refine g_assign ?_); first | refine lx_assign (r := (.t _)) rfl rfl rfl rfl rfl ?_) | ((with_reducible refine g_alloc ?_); first | refine lx_alloc rfl rfl rfl rfl rfl rfl rfl ?_) | ((with_reducible refine g_store ?_); first | refine lx_store_var (r := (.t (.agg _))) rfl rfl rfl rfl rfl rfl rfl rfl rfl rfl ?_) | ((with_reducible refine g_nilCheck ?_); first | refine lx_nilCheck (r := (.ref _ _ _ _)) rfl rfl rfl rfl rfl rfl ?_) | ((with_reducible refine g_extract ?_); first | refine lx_extract rfl rfl rfl rfl rfl rfl ?_) | ((with_reducible refine g_build ?_); first | refine lx_build (r := (.t (.agg _))) rfl rfl rfl rfl rfl rfl rfl ?_) | ((with_reducible refine g_call ?_); first | refine lx_call (r' := .tup [.t (.int .i64 5), .t (.int .u64 n)]) [] rfl rfl hH (ArgsLE.refl _) rfl ⟨rfl, trivial⟩ rfl rfl rfl rfl rfl rfl rfl rfl rfl rfl ?_ | refine lx_call (r' := .t (.int .i64 u)) [] rfl rfl hF (ArgsLE.refl _) rfl ⟨rfl, trivial⟩ rfl rfl rfl rfl rfl rfl rfl rfl rfl rfl ?_ | refine lx_call (r' := .t (.agg [.int .i64 i5.kind, .bool i5.bool, .int .i64 i5.num, .str i5.text, .sl 1 (i5.names.map .str), .sl 6 (i5.items.map Nd.toT)])) [] rfl rfl hI5 (ArgsLE.refl _) rfl ⟨rfl, trivial⟩ rfl rfl rfl rfl rfl rfl rfl rfl rfl rfl ?_))
      all_goals try (exfalso; omega)
      refine q_ret ?_ (stHas_spec ⟨rfl, trivial⟩); refine resT_cell rfl rfl rfl inferInstance rfl inferInstance rfl ?_; exact TLe.av (by repeat first | exact TLe.refl _ | exact TLe.nil _ | exact TLe.esl _ | refine TLe.agg ?_ | refine TLs.cons ?_ ?_ | exact TLs.nil)
    · rw [if_neg (by decide), if_neg (by decide), if_neg (by decide), if_neg (by decide), if_neg (by decide), if_neg (fun h => absurd h.1 (by decide))]
      simp only
      rw [zero_toT]
      refine spec_intro (env0 := [(0, _), (1, _)]) (st0 := [(_, some _)]) Tryd.func60 rfl rfl rfl rfl ?_
      repeat' (first | (with_reducible refine codeT_seq ?_) | (with_reducible refine codeT_block ?_) | (with_reducible refine codeT_skip ?_) | (with_reducible refine codeT_ret ?_) | (with_reducible refine codeT_regionL ?_) | (with_reducible refine lx_nil ?_) | (with_reducible refine q_then ?_) | (with_reducible refine q_block ?_) | refine c_condF rfl ?_ | ((with_reducible refine g_move ?_); first | refine lx_move (r := (.t _)) rfl rfl rfl rfl rfl ?_ | refine lx_move (r := (.ref _ _ _ _)) rfl rfl rfl rfl rfl ?_ | refine lx_move (r := (.tup _)) rfl rfl rfl rfl rfl ?_) | ((with_reducible refine g_binOp ?_); first | refine lx_arith rfl rfl rfl rfl rfl rfl rfl ?_) | ((with_reducible refine g_assign ?_); first | refine lx_assign (r := (.t _)) rfl rfl rfl rfl rfl ?_) | ((with_reducible refine g_alloc ?_); first | refine lx_alloc rfl rfl rfl rfl rfl rfl rfl ?_) | ((with_reducible refine g_store ?_); first | refine lx_store_var (r := (.t (.agg _))) rfl rfl rfl rfl rfl rfl rfl rfl rfl rfl ?_) | ((with_reducible refine g_extract ?_); first | refine lx_extract rfl rfl rfl rfl rfl rfl ?_) | ((with_reducible refine g_build ?_); first | refine lx_build (r := (.t (.agg _))) rfl rfl rfl rfl rfl rfl rfl ?_) | ((with_reducible refine g_call ?_); first | refine lx_call (r' := .tup [.t (.int .i64 6), .t (.int .u64 n)]) [] rfl rfl hH (ArgsLE.refl _) rfl ⟨rfl, trivial⟩ rfl rfl rfl rfl rfl rfl rfl rfl rfl rfl ?_))
      all_goals try (exfalso; omega)
      refine q_ret ?_ (stHas_spec ⟨rfl, trivial⟩); refine resT_cell rfl rfl rfl inferInstance rfl inferInstance rfl ?_; exact TLe.av (by repeat first | exact TLe.refl _ | exact TLe.nil _ | exact TLe.esl _ | refine TLe.agg ?_ | refine TLs.cons ?_ ?_ | exact TLs.nil)
    · rw [if_neg (by decide), if_neg (by decide), if_neg (by decide), if_neg (by decide), if_neg (by decide)]
      by_cases h21 : n = 21
      · subst h21
        rw [if_pos ⟨rfl, .inl rfl⟩]
        simp only
        rw [Nd.toT_eq]
        refine spec_intro (env0 := [(0, _), (1, _)]) (st0 := [(_, some _)]) Tryd.func60 rfl rfl rfl rfl ?_
        repeat' (first | (with_reducible refine codeT_seq ?_) | (with_reducible refine codeT_block ?_) | (with_reducible refine codeT_skip ?_) | (with_reducible refine codeT_ret ?_) | (with_reducible refine codeT_regionL ?_) | (with_reducible refine lx_nil ?_) | (with_reducible refine q_then ?_) | (with_reducible refine q_then_ret ?_) | (with_reducible refine q_block_ret ?_) | refine c_condT rfl ?_ | refine c_condF rfl ?_ | ((with_reducible refine g_guard ?_); first | refine lx_skip rfl rfl rfl ?_) | ((with_reducible refine g_move ?_); first | refine lx_move (r := (.t _)) rfl rfl rfl rfl rfl ?_ | refine lx_move (r := (.ref _ _ _ _)) rfl rfl rfl rfl rfl ?_ | refine lx_move (r := (.tup _)) rfl rfl rfl rfl rfl ?_) | ((with_reducible refine g_binOp ?_); first | refine lx_arith rfl rfl rfl rfl rfl rfl rfl ?_) | ((with_reducible refine g_assign ?_); first | refine lx_assign (r := (.t _)) rfl rfl rfl rfl rfl ?_) | ((with_reducible refine g_pick ?_); first | refine lx_pickT (r := (.t _)) rfl rfl rfl rfl rfl rfl ?_) | ((with_reducible refine g_alloc ?_); first | refine lx_alloc rfl rfl rfl rfl rfl rfl rfl ?_) | ((with_reducible refine g_store ?_); first | refine lx_store_var (r := (.t (.agg _))) rfl rfl rfl rfl rfl rfl rfl rfl rfl rfl ?_) | ((with_reducible refine g_extract ?_); first | refine lx_extract rfl rfl rfl rfl rfl rfl ?_) | ((with_reducible refine g_build ?_); first | refine lx_build (r := (.t (.agg _))) rfl rfl rfl rfl rfl rfl rfl ?_) | ((with_reducible refine g_call ?_); first | refine lx_call (r' := .tup [.t (.int .i64 7), .t (.int .u64 21)]) [] rfl rfl hH (ArgsLE.refl _) rfl ⟨rfl, trivial⟩ rfl rfl rfl rfl rfl rfl rfl rfl rfl rfl ?_))
        all_goals try (exfalso; omega)
        refine q_ret ?_ (stHas_spec ⟨rfl, trivial⟩); refine resT_cell rfl rfl rfl inferInstance rfl inferInstance rfl ?_; exact TLe.av (by repeat first | exact TLe.refl _ | exact TLe.nil _ | exact TLe.esl _ | refine TLe.agg ?_ | refine TLs.cons ?_ ?_ | exact TLs.nil)
      by_cases h20 : n = 20
      · subst h20
        rw [if_pos ⟨rfl, .inr rfl⟩]
        simp only
        rw [Nd.toT_eq]
        refine spec_intro (env0 := [(0, _), (1, _)]) (st0 := [(_, some _)]) Tryd.func60 rfl rfl rfl rfl ?_
        repeat' (first | (with_reducible refine codeT_seq ?_) | (with_reducible refine codeT_block ?_) | (with_reducible refine codeT_skip ?_) | (with_reducible refine codeT_ret ?_) | (with_reducible refine codeT_regionL ?_) | (with_reducible refine lx_nil ?_) | (with_reducible refine q_then ?_) | (with_reducible refine q_then_ret ?_) | (with_reducible refine q_block_ret ?_) | refine c_condT rfl ?_ | refine c_condF rfl ?_ | ((with_reducible refine g_move ?_); first | refine lx_move (r := (.t _)) rfl rfl rfl rfl rfl ?_ | refine lx_move (r := (.ref _ _ _ _)) rfl rfl rfl rfl rfl ?_ | refine lx_move (r := (.tup _)) rfl rfl rfl rfl rfl ?_) | ((with_reducible refine g_binOp ?_); first | refine lx_arith rfl rfl rfl rfl rfl rfl rfl ?_) | ((with_reducible refine g_assign ?_); first | refine lx_assign (r := (.t _)) rfl rfl rfl rfl rfl ?_) | ((with_reducible refine g_pick ?_); first | refine lx_pickF (r := (.t _)) rfl rfl rfl rfl rfl rfl ?_) | ((with_reducible refine g_alloc ?_); first | refine lx_alloc rfl rfl rfl rfl rfl rfl rfl ?_) | ((with_reducible refine g_store ?_); first | refine lx_store_var (r := (.t (.agg _))) rfl rfl rfl rfl rfl rfl rfl rfl rfl rfl ?_) | ((with_reducible refine g_extract ?_); first | refine lx_extract rfl rfl rfl rfl rfl rfl ?_) | ((with_reducible refine g_build ?_); first | refine lx_build (r := (.t (.agg _))) rfl rfl rfl rfl rfl rfl rfl ?_) | ((with_reducible refine g_call ?_); first | refine lx_call (r' := .tup [.t (.int .i64 7), .t (.int .u64 20)]) [] rfl rfl hH (ArgsLE.refl _) rfl ⟨rfl, trivial⟩ rfl rfl rfl rfl rfl rfl rfl rfl rfl rfl ?_))
        all_goals try (exfalso; omega)
        refine q_ret ?_ (stHas_spec ⟨rfl, trivial⟩); refine resT_cell rfl rfl rfl inferInstance rfl inferInstance rfl ?_; exact TLe.av (by repeat first | exact TLe.refl _ | exact TLe.nil _ | exact TLe.esl _ | refine TLe.agg ?_ | refine TLs.cons ?_ ?_ | exact TLs.nil)
      · rw [if_neg (fun h => h.2.elim h21 h20)]
        simp only
        rw [zero_toT]
        refine spec_intro (env0 := [(0, _), (1, _)]) (st0 := [(_, some _)]) Tryd.func60 rfl rfl rfl rfl ?_
        repeat' (first | (with_reducible refine codeT_seq ?_) | (with_reducible refine codeT_block ?_) | (with_reducible refine codeT_skip ?_) | (with_reducible refine codeT_ret ?_) | (with_reducible refine codeT_regionL ?_) | (with_reducible refine lx_nil ?_) | (with_reducible refine q_then ?_) | (with_reducible refine q_then_ret ?_) | (with_reducible refine q_block ?_) | (with_reducible refine q_block_ret ?_) | refine c_condT rfl ?_ | refine c_condF rfl ?_ | ((with_reducible refine g_guard ?_); first | refine lx_skip rfl rfl rfl ?_) | ((with_reducible refine g_move ?_); first | refine lx_move (r := (.t _)) rfl rfl rfl rfl rfl ?_ | refine lx_move (r := (.ref _ _ _ _)) rfl rfl rfl rfl rfl ?_ | refine lx_move (r := (.tup _)) rfl rfl rfl rfl rfl ?_) | ((with_reducible refine g_binOp ?_); first | refine lx_arith rfl rfl rfl rfl rfl rfl rfl ?_) | ((with_reducible refine g_assign ?_); first | refine lx_assign (r := (.t _)) rfl rfl rfl rfl rfl ?_) | ((with_reducible refine g_pick ?_); first | refine lx_pickT (r := (.t _)) rfl rfl rfl rfl rfl rfl ?_ | refine lx_pickF (r := (.t _)) rfl rfl rfl rfl rfl rfl ?_) | ((with_reducible refine g_alloc ?_); first | refine lx_alloc rfl rfl rfl rfl rfl rfl rfl ?_) | ((with_reducible refine g_store ?_); first | refine lx_store_var (r := (.t (.agg _))) rfl rfl rfl rfl rfl rfl rfl rfl rfl rfl ?_) | ((with_reducible refine g_extract ?_); first | refine lx_extract rfl rfl rfl rfl rfl rfl ?_) | ((with_reducible refine g_build ?_); first | refine lx_build (r := (.t (.agg _))) rfl rfl rfl rfl rfl rfl rfl ?_) | ((with_reducible refine g_call ?_); first | refine lx_call (r' := .tup [.t (.int .i64 7), .t (.int .u64 n)]) [] rfl rfl hH (ArgsLE.refl _) rfl ⟨rfl, trivial⟩ rfl rfl rfl rfl rfl rfl rfl rfl rfl rfl ?_) | refine c_condP rfl (fun hc => ?_) (fun hc => ?_) | refine lx_splitP rfl (fun hc => ?_) (fun hc => ?_))
        all_goals try (exfalso; omega)
        refine q_ret ?_ (stHas_spec ⟨rfl, trivial⟩); refine resT_cell rfl rfl rfl inferInstance rfl inferInstance rfl ?_; exact TLe.av (by repeat first | exact TLe.refl _ | exact TLe.nil _ | exact TLe.esl _ | refine TLe.agg ?_ | refine TLs.cons ?_ ?_ | exact TLs.nil)
end Go.AL
/- What parse.Finish answers, given what the encoding answers, and what cbor.Decode answers. -/
set_option linter.unusedVariables false
namespace Go.AL
open Go Go.Proofs Go.RowKit

set_option maxHeartbeats 8000000 in
theorem Finish_spec {oF oA : Obj} {V : ByteArray → Bool} (hS : VSpec oF oA V) (ty : TypeId) (ef : FuncId) [FnB Tryd.prog ef] (s : ByteArray) (x : Nd) (hx : x.Ok) (r : Rs) (E : ByteArray × Int)
    (hE : r.bad = false → r.s = eS → x.validB V 8 = true → Spec Tryd.prog ef [.t x.toT] [(.par 100, .dat (.fix 0 oF)), (.par 101, .dat (.fix 1 oA))] (.tup [.t (.str E.1), .t (.int .i64 E.2)]) [(.par 100, .dat (.fix 0 oF)), (.par 101, .dat (.fix 1 oA))])
    (res : Nd × Int) (hres : res = if r.bad = false ∧ r.s = eS ∧ x.validB V 8 = true ∧ E = (s, 0) then (x, 0) else (Nd.zero, 4)) :
    Spec Tryd.prog 61 [.t (.str s), .t x.toT, .ref (.par 0) 0 0 0, .t (.fn ef)] [(.par 0, r.row ty), (.par 100, .dat (.fix 0 oF)), (.par 101, .dat (.fix 1 oA))] (.tup [.t res.1.toT, .t (.int .i64 res.2)]) [(.par 0, r.row ty), (.par 100, .dat (.fix 0 oF)), (.par 101, .dat (.fix 1 oA))] := by
  have hV := Valid_spec hS x hx
  have hT := x.toT_full
  obtain ⟨rs, bad⟩ := r
  obtain ⟨es, en⟩ := E
  unfold Rs.row
  simp only at hE hres ⊢
  have fail : res = (Nd.zero, 4) → res.1.toT = .agg [.int .i64 0, .bool false, .int .i64 0, .str ⟨#[]⟩, .sl 1 [], .sl 6 []] ∧ res.2 = 4 := fun h => by rw [h]; exact ⟨zero_toT, rfl⟩
  cases bad with
  | true =>
    rw [if_neg (by simp)] at hres
    obtain ⟨f1, f2⟩ := fail hres
    rw [f1, f2, hT]
    refine spec_intro (env0 := [(0, _), (1, _), (2, _), (3, _)]) (st0 := [(_, some _), (_, some _), (_, some _)]) Tryd.func61 rfl rfl rfl rfl ?_
    repeat' (first | (with_reducible refine codeT_seq ?_) | (with_reducible refine codeT_ret ?_) | (with_reducible refine codeT_regionL ?_) | (with_reducible refine lx_nil ?_) | (with_reducible refine q_then ?_) | (with_reducible refine q_then_ret ?_) | refine c_condT rfl ?_ | ((with_reducible refine g_guard ?_); first | refine lx_skip rfl rfl rfl ?_) | ((with_reducible refine g_move ?_); first | refine lx_move (r := (.t _)) rfl rfl rfl rfl rfl ?_ | refine lx_move (r := (.ref _ _ _ _)) rfl rfl rfl rfl rfl ?_) | ((with_reducible refine g_load ?_); first | refine lx_load_var rfl rfl rfl rfl rfl rfl rfl rfl ?_) | ((with_reducible refine g_fieldAddr ?_); first | refine lx_fieldAddr rfl rfl rfl rfl rfl rfl rfl ?_) | ((with_reducible refine g_assign ?_); first | refine lx_assign (r := (.t _)) rfl rfl rfl rfl rfl ?_) | ((with_reducible refine g_pick ?_); first | refine lx_pickT (r := (.t _)) rfl rfl rfl rfl rfl rfl ?_) | ((with_reducible refine g_box ?_); first | refine lx_box (r := (.t (.agg _))) (cs := (List.map .t _)) rfl rfl rfl rfl rfl rfl rfl rfl rfl ?_) | ((with_reducible refine g_alloc ?_); first | refine lx_alloc rfl rfl rfl rfl rfl rfl rfl ?_) | ((with_reducible refine g_store ?_); first | refine lx_store_var (r := (.t (.agg _))) rfl rfl rfl rfl rfl rfl rfl rfl rfl rfl ?_) | ((with_reducible refine g_nilCheck ?_); first | refine lx_nilCheck (r := (.ref _ _ _ _)) rfl rfl rfl rfl rfl rfl ?_) | ((with_reducible refine g_build ?_); first | refine lx_build (r := (.t (.agg _))) rfl rfl rfl rfl rfl rfl rfl ?_))
    refine q_ret ?_ (stHas_spec ⟨rfl, rfl, rfl, trivial⟩); refine resT_cell_tmp rfl rfl rfl inferInstance rfl inferInstance rfl ?_ ?_; exact TLe.av (by repeat first | exact TLe.refl _ | exact TLe.nil _ | exact TLe.esl _ | refine TLe.agg ?_ | refine TLs.cons ?_ ?_ | exact TLs.nil); exact AVLE.refl _
  | false =>
    by_cases hrs : rs = eS
    · subst hrs
      cases hv : x.validB V 8 with
      | false =>
        rw [hv] at hV hres
        rw [if_neg (by simp)] at hres
        obtain ⟨f1, f2⟩ := fail hres
        rw [hT] at hV
        rw [f1, f2, hT]
        refine spec_intro (env0 := [(0, _), (1, _), (2, _), (3, _)]) (st0 := [(_, some _), (_, some _), (_, some _)]) Tryd.func61 rfl rfl rfl rfl ?_
        repeat' (first | (with_reducible refine codeT_seq ?_) | (with_reducible refine codeT_ret ?_) | (with_reducible refine codeT_regionL ?_) | (with_reducible refine lx_nil ?_) | (with_reducible refine q_then ?_) | (with_reducible refine q_then_ret ?_) | refine c_condT rfl ?_ | ((with_reducible refine g_move ?_); first | refine lx_move (r := (.t _)) rfl rfl rfl rfl rfl ?_ | refine lx_move (r := (.ref _ _ _ _)) rfl rfl rfl rfl rfl ?_) | ((with_reducible refine g_load ?_); first | refine lx_load_var rfl rfl rfl rfl rfl rfl rfl rfl ?_ | refine lx_load_varA (r := (.t (.agg _))) rfl rfl rfl rfl rfl rfl rfl rfl rfl ?_) | ((with_reducible refine g_fieldAddr ?_); first | refine lx_fieldAddr rfl rfl rfl rfl rfl rfl rfl ?_) | ((with_reducible refine g_binOp ?_); first | refine lx_str_ne rfl rfl rfl rfl rfl rfl ?_) | ((with_reducible refine g_assign ?_); first | refine lx_assign (r := (.t _)) rfl rfl rfl rfl rfl ?_) | ((with_reducible refine g_pick ?_); first | refine lx_pickF (r := (.t _)) rfl rfl rfl rfl rfl rfl ?_) | ((with_reducible refine g_box ?_); first | refine lx_box (r := (.t (.agg _))) (cs := (List.map .t _)) rfl rfl rfl rfl rfl rfl rfl rfl rfl ?_) | ((with_reducible refine g_alloc ?_); first | refine lx_alloc rfl rfl rfl rfl rfl rfl rfl ?_) | ((with_reducible refine g_store ?_); first | refine lx_store_var (r := (.t (.agg _))) rfl rfl rfl rfl rfl rfl rfl rfl rfl rfl ?_) | ((with_reducible refine g_nilCheck ?_); first | refine lx_nilCheck (r := (.ref _ _ _ _)) rfl rfl rfl rfl rfl rfl ?_) | ((with_reducible refine g_unOp ?_); first | refine lx_not rfl rfl rfl rfl rfl ?_) | ((with_reducible refine g_build ?_); first | refine lx_build (r := (.t (.agg _))) rfl rfl rfl rfl rfl rfl rfl ?_) | ((with_reducible refine g_call ?_); first | refine lx_call (r' := .t (.bool false)) [] rfl rfl hV (ArgsLE.refl _) rfl ⟨rfl, rfl, trivial⟩ rfl rfl rfl rfl rfl rfl rfl rfl rfl rfl ?_))
        all_goals try (exact absurd rfl hc)
        refine q_ret ?_ (stHas_spec ⟨rfl, rfl, rfl, trivial⟩); refine resT_cell_tmp rfl rfl rfl inferInstance rfl inferInstance rfl ?_ ?_; exact TLe.av (by repeat first | exact TLe.refl _ | exact TLe.nil _ | exact TLe.esl _ | refine TLe.agg ?_ | refine TLs.cons ?_ ?_ | exact TLs.nil); exact AVLE.refl _
      | true =>
        rw [hv] at hV hres
        replace hE := hE rfl rfl hv
        rw [hT] at hV hE
        by_cases h0 : en = 0
        · subst h0
          by_cases hs : es = s
          · subst hs
            rw [if_pos ⟨rfl, rfl, rfl, rfl⟩] at hres
            rw [hres]
            simp only
            rw [hT]
            refine spec_intro (env0 := [(0, _), (1, _), (2, _), (3, _)]) (st0 := [(_, some _), (_, some _), (_, some _)]) Tryd.func61 rfl rfl rfl rfl ?_
            repeat' (first | (with_reducible refine codeT_seq ?_) | (with_reducible refine codeT_skip ?_) | (with_reducible refine codeT_ret ?_) | (with_reducible refine codeT_regionL ?_) | (with_reducible refine lx_nil ?_) | (with_reducible refine q_then ?_) | (with_reducible refine q_then_ret ?_) | refine c_condF rfl ?_ | ((with_reducible refine g_move ?_); first | refine lx_move (r := (.t _)) rfl rfl rfl rfl rfl ?_ | refine lx_move (r := (.ref _ _ _ _)) rfl rfl rfl rfl rfl ?_ | refine lx_move (r := (.tup _)) rfl rfl rfl rfl rfl ?_) | ((with_reducible refine g_load ?_); first | refine lx_load_var rfl rfl rfl rfl rfl rfl rfl rfl ?_ | refine lx_load_varA (r := (.t (.agg _))) rfl rfl rfl rfl rfl rfl rfl rfl rfl ?_) | ((with_reducible refine g_fieldAddr ?_); first | refine lx_fieldAddr rfl rfl rfl rfl rfl rfl rfl ?_) | ((with_reducible refine g_binOp ?_); first | refine lx_arith rfl rfl rfl rfl rfl rfl rfl ?_ | refine lx_str_ne rfl rfl rfl rfl rfl rfl ?_) | ((with_reducible refine g_assign ?_); first | refine lx_assign (r := (.t _)) rfl rfl rfl rfl rfl ?_) | ((with_reducible refine g_pick ?_); first | refine lx_pickF (r := (.t _)) rfl rfl rfl rfl rfl rfl ?_) | ((with_reducible refine g_box ?_); first | refine lx_box (r := (.t (.agg _))) (cs := (List.map .t _)) rfl rfl rfl rfl rfl rfl rfl rfl rfl ?_) | ((with_reducible refine g_alloc ?_); first | refine lx_alloc rfl rfl rfl rfl rfl rfl rfl ?_) | ((with_reducible refine g_store ?_); first | refine lx_store_var (r := (.t (.agg _))) rfl rfl rfl rfl rfl rfl rfl rfl rfl rfl ?_) | ((with_reducible refine g_nilCheck ?_); first | refine lx_nilCheck (r := (.ref _ _ _ _)) rfl rfl rfl rfl rfl rfl ?_) | ((with_reducible refine g_unOp ?_); first | refine lx_not rfl rfl rfl rfl rfl ?_) | ((with_reducible refine g_extract ?_); first | refine lx_extract rfl rfl rfl rfl rfl rfl ?_) | ((with_reducible refine g_build ?_); first | refine lx_build (r := (.t (.agg _))) rfl rfl rfl rfl rfl rfl rfl ?_) | ((with_reducible refine g_call ?_); first | refine lx_call (r' := .t (.bool true)) [] rfl rfl hV (ArgsLE.refl _) rfl ⟨rfl, rfl, trivial⟩ rfl rfl rfl rfl rfl rfl rfl rfl rfl rfl ?_ | refine lx_call (r' := .tup [.t (.str es), .t (.int .i64 0)]) [] rfl rfl hE (ArgsLE.refl _) rfl ⟨rfl, rfl, trivial⟩ rfl rfl rfl rfl rfl rfl rfl rfl rfl rfl ?_) | refine c_condN rfl (fun hc => ?_) (fun hc => ?_))
            · refine q_ret ?_ (stHas_spec ⟨rfl, rfl, rfl, trivial⟩); refine resT_cell_tmp rfl rfl rfl inferInstance rfl inferInstance rfl ?_ ?_; exact TLe.av (by repeat first | exact TLe.refl _ | exact TLe.nil _ | exact TLe.esl _ | refine TLe.agg ?_ | refine TLs.cons ?_ ?_ | exact TLs.nil); exact AVLE.refl _
            all_goals exact absurd rfl hc
          · rw [if_neg (fun h => hs (congrArg (·.1) h.2.2.2))] at hres
            obtain ⟨f1, f2⟩ := fail hres
            rw [f1, f2, hT]
            refine spec_intro (env0 := [(0, _), (1, _), (2, _), (3, _)]) (st0 := [(_, some _), (_, some _), (_, some _)]) Tryd.func61 rfl rfl rfl rfl ?_
            repeat' (first | (with_reducible refine codeT_seq ?_) | (with_reducible refine codeT_skip ?_) | (with_reducible refine codeT_ret ?_) | (with_reducible refine codeT_regionL ?_) | (with_reducible refine lx_nil ?_) | (with_reducible refine q_then ?_) | (with_reducible refine q_then_ret ?_) | refine c_condF rfl ?_ | ((with_reducible refine g_move ?_); first | refine lx_move (r := (.t _)) rfl rfl rfl rfl rfl ?_ | refine lx_move (r := (.ref _ _ _ _)) rfl rfl rfl rfl rfl ?_ | refine lx_move (r := (.tup _)) rfl rfl rfl rfl rfl ?_) | ((with_reducible refine g_load ?_); first | refine lx_load_var rfl rfl rfl rfl rfl rfl rfl rfl ?_ | refine lx_load_varA (r := (.t (.agg _))) rfl rfl rfl rfl rfl rfl rfl rfl rfl ?_) | ((with_reducible refine g_fieldAddr ?_); first | refine lx_fieldAddr rfl rfl rfl rfl rfl rfl rfl ?_) | ((with_reducible refine g_binOp ?_); first | refine lx_arith rfl rfl rfl rfl rfl rfl rfl ?_ | refine lx_str_ne rfl rfl rfl rfl rfl rfl ?_) | ((with_reducible refine g_assign ?_); first | refine lx_assign (r := (.t _)) rfl rfl rfl rfl rfl ?_) | ((with_reducible refine g_pick ?_); first | refine lx_pickF (r := (.t _)) rfl rfl rfl rfl rfl rfl ?_) | ((with_reducible refine g_box ?_); first | refine lx_box (r := (.t (.agg _))) (cs := (List.map .t _)) rfl rfl rfl rfl rfl rfl rfl rfl rfl ?_) | ((with_reducible refine g_alloc ?_); first | refine lx_alloc rfl rfl rfl rfl rfl rfl rfl ?_) | ((with_reducible refine g_store ?_); first | refine lx_store_var (r := (.t (.agg _))) rfl rfl rfl rfl rfl rfl rfl rfl rfl rfl ?_) | ((with_reducible refine g_nilCheck ?_); first | refine lx_nilCheck (r := (.ref _ _ _ _)) rfl rfl rfl rfl rfl rfl ?_) | ((with_reducible refine g_unOp ?_); first | refine lx_not rfl rfl rfl rfl rfl ?_) | ((with_reducible refine g_extract ?_); first | refine lx_extract rfl rfl rfl rfl rfl rfl ?_) | ((with_reducible refine g_build ?_); first | refine lx_build (r := (.t (.agg _))) rfl rfl rfl rfl rfl rfl rfl ?_) | ((with_reducible refine g_call ?_); first | refine lx_call (r' := .t (.bool true)) [] rfl rfl hV (ArgsLE.refl _) rfl ⟨rfl, rfl, trivial⟩ rfl rfl rfl rfl rfl rfl rfl rfl rfl rfl ?_ | refine lx_call (r' := .tup [.t (.str es), .t (.int .i64 0)]) [] rfl rfl hE (ArgsLE.refl _) rfl ⟨rfl, rfl, trivial⟩ rfl rfl rfl rfl rfl rfl rfl rfl rfl rfl ?_) | refine c_condN rfl (fun hc => ?_) (fun hc => ?_))
            · exact absurd hc hs
            refine q_ret ?_ (stHas_spec ⟨rfl, rfl, rfl, trivial⟩); refine resT_cell_tmp rfl rfl rfl inferInstance rfl inferInstance rfl ?_ ?_; exact TLe.av (by repeat first | exact TLe.refl _ | exact TLe.nil _ | exact TLe.esl _ | refine TLe.agg ?_ | refine TLs.cons ?_ ?_ | exact TLs.nil); exact AVLE.refl _
        · rw [if_neg (fun h => h0 (congrArg (·.2) h.2.2.2))] at hres
          obtain ⟨f1, f2⟩ := fail hres
          rw [f1, f2, hT]
          refine spec_intro (env0 := [(0, _), (1, _), (2, _), (3, _)]) (st0 := [(_, some _), (_, some _), (_, some _)]) Tryd.func61 rfl rfl rfl rfl ?_
          repeat' (first | (with_reducible refine codeT_seq ?_) | (with_reducible refine codeT_skip ?_) | (with_reducible refine codeT_ret ?_) | (with_reducible refine codeT_regionL ?_) | (with_reducible refine lx_nil ?_) | (with_reducible refine q_then ?_) | (with_reducible refine q_then_ret ?_) | refine c_condT rfl ?_ | refine c_condF rfl ?_ | ((with_reducible refine g_guard ?_); first | refine lx_skip rfl rfl rfl ?_) | ((with_reducible refine g_move ?_); first | refine lx_move (r := (.t _)) rfl rfl rfl rfl rfl ?_ | refine lx_move (r := (.ref _ _ _ _)) rfl rfl rfl rfl rfl ?_ | refine lx_move (r := (.tup _)) rfl rfl rfl rfl rfl ?_) | ((with_reducible refine g_load ?_); first | refine lx_load_var rfl rfl rfl rfl rfl rfl rfl rfl ?_ | refine lx_load_varA (r := (.t (.agg _))) rfl rfl rfl rfl rfl rfl rfl rfl rfl ?_) | ((with_reducible refine g_fieldAddr ?_); first | refine lx_fieldAddr rfl rfl rfl rfl rfl rfl rfl ?_) | ((with_reducible refine g_binOp ?_); first | refine lx_arith rfl rfl rfl rfl rfl rfl rfl ?_ | refine lx_str_ne rfl rfl rfl rfl rfl rfl ?_) | ((with_reducible refine g_assign ?_); first | refine lx_assign (r := (.t _)) rfl rfl rfl rfl rfl ?_) | ((with_reducible refine g_pick ?_); first | refine lx_pickT (r := (.t _)) rfl rfl rfl rfl rfl rfl ?_ | refine lx_pickF (r := (.t _)) rfl rfl rfl rfl rfl rfl ?_) | ((with_reducible refine g_box ?_); first | refine lx_box (r := (.t (.agg _))) (cs := (List.map .t _)) rfl rfl rfl rfl rfl rfl rfl rfl rfl ?_) | ((with_reducible refine g_alloc ?_); first | refine lx_alloc rfl rfl rfl rfl rfl rfl rfl ?_) | ((with_reducible refine g_store ?_); first | refine lx_store_var (r := (.t (.agg _))) rfl rfl rfl rfl rfl rfl rfl rfl rfl rfl ?_) | ((with_reducible refine g_nilCheck ?_); first | refine lx_nilCheck (r := (.ref _ _ _ _)) rfl rfl rfl rfl rfl rfl ?_) | ((with_reducible refine g_unOp ?_); first | refine lx_not rfl rfl rfl rfl rfl ?_) | ((with_reducible refine g_extract ?_); first | refine lx_extract rfl rfl rfl rfl rfl rfl ?_) | ((with_reducible refine g_build ?_); first | refine lx_build (r := (.t (.agg _))) rfl rfl rfl rfl rfl rfl rfl ?_) | ((with_reducible refine g_call ?_); first | refine lx_call (r' := .t (.bool true)) [] rfl rfl hV (ArgsLE.refl _) rfl ⟨rfl, rfl, trivial⟩ rfl rfl rfl rfl rfl rfl rfl rfl rfl rfl ?_ | refine lx_call (r' := .tup [.t (.str es), .t (.int .i64 en)]) [] rfl rfl hE (ArgsLE.refl _) rfl ⟨rfl, rfl, trivial⟩ rfl rfl rfl rfl rfl rfl rfl rfl rfl rfl ?_) | refine c_condN rfl (fun hc => ?_) (fun hc => ?_) | refine lx_splitN rfl (fun hc => ?_) (fun hc => ?_))
          all_goals try (exact absurd ‹en = 0› h0)
          all_goals refine q_ret ?_ (stHas_spec ⟨rfl, rfl, rfl, trivial⟩); refine resT_cell_tmp rfl rfl rfl inferInstance rfl inferInstance rfl ?_ ?_; exact TLe.av (by repeat first | exact TLe.refl _ | exact TLe.nil _ | exact TLe.esl _ | refine TLe.agg ?_ | refine TLs.cons ?_ ?_ | exact TLs.nil); exact AVLE.refl _
    · rw [if_neg (fun h => hrs h.2.1)] at hres
      obtain ⟨f1, f2⟩ := fail hres
      rw [f1, f2, hT]
      refine spec_intro (env0 := [(0, _), (1, _), (2, _), (3, _)]) (st0 := [(_, some _), (_, some _), (_, some _)]) Tryd.func61 rfl rfl rfl rfl ?_
      repeat' (first | (with_reducible refine codeT_seq ?_) | (with_reducible refine codeT_ret ?_) | (with_reducible refine codeT_regionL ?_) | (with_reducible refine lx_nil ?_) | (with_reducible refine q_then ?_) | (with_reducible refine q_then_ret ?_) | refine c_condT rfl ?_ | ((with_reducible refine g_guard ?_); first | refine lx_skip rfl rfl rfl ?_) | ((with_reducible refine g_move ?_); first | refine lx_move (r := (.t _)) rfl rfl rfl rfl rfl ?_ | refine lx_move (r := (.ref _ _ _ _)) rfl rfl rfl rfl rfl ?_) | ((with_reducible refine g_load ?_); first | refine lx_load_var rfl rfl rfl rfl rfl rfl rfl rfl ?_ | refine lx_load_varA (r := (.t (.agg _))) rfl rfl rfl rfl rfl rfl rfl rfl rfl ?_) | ((with_reducible refine g_fieldAddr ?_); first | refine lx_fieldAddr rfl rfl rfl rfl rfl rfl rfl ?_) | ((with_reducible refine g_binOp ?_); first | refine lx_str_ne rfl rfl rfl rfl rfl rfl ?_) | ((with_reducible refine g_assign ?_); first | refine lx_assign (r := (.t _)) rfl rfl rfl rfl rfl ?_) | ((with_reducible refine g_pick ?_); first | refine lx_pickT (r := (.t _)) rfl rfl rfl rfl rfl rfl ?_ | refine lx_pickF (r := (.t _)) rfl rfl rfl rfl rfl rfl ?_) | ((with_reducible refine g_box ?_); first | refine lx_box (r := (.t (.agg _))) (cs := (List.map .t _)) rfl rfl rfl rfl rfl rfl rfl rfl rfl ?_) | ((with_reducible refine g_alloc ?_); first | refine lx_alloc rfl rfl rfl rfl rfl rfl rfl ?_) | ((with_reducible refine g_store ?_); first | refine lx_store_var (r := (.t (.agg _))) rfl rfl rfl rfl rfl rfl rfl rfl rfl rfl ?_) | ((with_reducible refine g_nilCheck ?_); first | refine lx_nilCheck (r := (.ref _ _ _ _)) rfl rfl rfl rfl rfl rfl ?_) | ((with_reducible refine g_build ?_); first | refine lx_build (r := (.t (.agg _))) rfl rfl rfl rfl rfl rfl rfl ?_) | ((with_reducible refine g_call ?_); first | exact absurd ‹_› hrs) | refine lx_splitN rfl (fun hc => ?_) (fun hc => ?_))
      refine q_ret ?_ (stHas_spec ⟨rfl, rfl, rfl, trivial⟩); refine resT_cell_tmp rfl rfl rfl inferInstance rfl inferInstance rfl ?_ ?_; exact TLe.av (by repeat first | exact TLe.refl _ | exact TLe.nil _ | exact TLe.esl _ | refine TLe.agg ?_ | refine TLs.cons ?_ ?_ | exact TLs.nil); exact AVLE.refl _

theorem cDec_read {V : ByteArray → Bool} (s : ByteArray) : cDec V s = if (cRead s).2.bad = false ∧ (cRead s).2.s = eS ∧ (cRead s).1.validB V 8 = true ∧ cEnc V (cRead s).1 = (s, 0) then ((cRead s).1, 0) else (Nd.zero, 4) := rfl
set_option maxHeartbeats 8000000 in
theorem cDec_spec {oF oA : Obj} {V : ByteArray → Bool} (hS : VSpec oF oA V) (s : ByteArray) (hs : s.size ≤ 1000000) : Spec Tryd.prog 38 [.t (.str s)] [(.par 100, .dat (.fix 0 oF)), (.par 101, .dat (.fix 1 oA))] (.tup [.t (cDec V s).1.toT, .t (.int .i64 (cDec V s).2)]) [(.par 100, .dat (.fix 0 oF)), (.par 101, .dat (.fix 1 oA))] := by
  have hR : Spec Tryd.prog 60 [.ref (.par 0) 0 0 0, .t (.int .i64 8)] [(.par 0, Rs.row 82 ⟨s, false⟩)] (.t (cRead s).1.toT) [(.par 0, (cRead s).2.row 82)] := cNode_call 8 (by omega) ⟨s, false⟩ hs
  have hle := cNode_le 1000000 (by omega) 8 ⟨s, false⟩ hs
  have hg := read_size (s := s)
  have hD := cDec_read (V := V) s
  have hF := Finish_spec hS 82 34 s (cRead s).1 hle.2 (cRead s).2 (cEnc V (cRead s).1) (fun h1 h2 h3 => by
    have := hg h1
    exact cEnc_spec hS (cRead s).1 hle.2 this.2 (fun _ => by omega)) (cDec V s) hD
  clear hD hg hle
  generalize cDec V s = res at hF ⊢
  generalize cRead s = y at hR hF
  obtain ⟨x, rs, rb⟩ := y
  obtain ⟨z, e⟩ := res
  have hT := x.toT_full
  have hZ := z.toT_full
  unfold Rs.row at hR hF
  simp only at hR hF ⊢
  rw [hT] at hR hF
  rw [hZ] at hF ⊢
  refine spec_intro (env0 := [(0, _)]) (st0 := [(_, some _), (_, some _)]) Tryd.func38 rfl rfl rfl rfl ?_
  repeat' (first | (with_reducible refine codeT_seq ?_) | (with_reducible refine codeT_ret ?_) | (with_reducible refine codeT_regionL ?_) | ((with_reducible refine codeT_region_drawL ?_ ?_); · rfl) | (with_reducible refine lx_nil ?_) | (with_reducible refine q_then ?_) | ((with_reducible refine q_region_draw ?_ ?_); · rfl) | ((with_reducible refine g_move ?_); first | refine lx_move (r := (.t _)) rfl rfl rfl rfl rfl ?_ | refine lx_move (r := (.ref _ _ _ _)) rfl rfl rfl rfl rfl ?_) | ((with_reducible refine g_load ?_); first | refine lx_load_varA (r := (.t (.agg _))) rfl rfl rfl rfl rfl rfl rfl rfl rfl ?_) | ((with_reducible refine g_fieldAddr ?_); first | refine lx_fieldAddr rfl rfl rfl rfl rfl rfl rfl ?_) | ((with_reducible refine g_assign ?_); first | refine lx_assign (r := (.t _)) rfl rfl rfl rfl rfl ?_ | refine lx_assign (r := (.ref _ _ _ _)) rfl rfl rfl rfl rfl ?_) | ((with_reducible refine g_box ?_); first | refine lx_box (r := (.t (.agg _))) (cs := (List.map .t _)) rfl rfl rfl rfl rfl rfl rfl rfl rfl ?_) | ((with_reducible refine g_alloc ?_); first | refine lx_alloc rfl rfl rfl rfl rfl rfl rfl ?_) | ((with_reducible refine g_store ?_); first | refine lx_store_var (r := (.t (.agg _))) rfl rfl rfl rfl rfl rfl rfl rfl rfl rfl ?_) | ((with_reducible refine g_nilCheck ?_); first | refine lx_nilCheck (r := (.ref _ _ _ _)) rfl rfl rfl rfl rfl rfl ?_) | ((with_reducible refine g_extract ?_); first | refine lx_extract rfl rfl rfl rfl rfl rfl ?_) | ((with_reducible refine g_build ?_); first | refine lx_build (r := (.t (.agg _))) rfl rfl rfl rfl rfl rfl rfl ?_) | ((with_reducible refine g_call ?_); first | refine lx_call (r' := .t (.agg [.int .i64 x.kind, .bool x.bool, .int .i64 x.num, .str x.text, .sl 1 (x.names.map .str), .sl 6 (x.items.map Nd.toT)])) [(.par 0, .loc 9)] rfl rfl hR (ArgsLE.refl _) rfl ⟨rfl, trivial⟩ rfl rfl rfl rfl rfl rfl rfl rfl rfl rfl ?_ | refine lx_call (r' := .tup [.t (.agg [.int .i64 z.kind, .bool z.bool, .int .i64 z.num, .str z.text, .sl 1 (z.names.map .str), .sl 6 (z.items.map Nd.toT)]), .t (.int .i64 e)]) [(.par 0, .loc 9)] rfl rfl hF (ArgsLE.refl _) rfl ⟨rfl, rfl, rfl, trivial⟩ rfl rfl rfl rfl rfl rfl rfl rfl rfl rfl ?_))
  refine q_ret ?_ (stHas_spec ⟨rfl, rfl, trivial⟩); refine resT_cell_tmp rfl rfl rfl inferInstance rfl inferInstance rfl ?_ ?_; exact TLe.av (by repeat first | exact TLe.refl _ | exact TLe.nil _ | exact TLe.esl _ | refine TLe.agg ?_ | refine TLs.cons ?_ ?_ | exact TLs.nil); exact AVLE.refl _
end Go.AL
