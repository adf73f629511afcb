/- What the methods of parse.Reader answer. -/
import Derived.Test.YtjhhjkkacbcmjaaDoorCbo1
import Derived.Test.YtjhhjkkacbcmjaaDoorAl3
import Derived.Test.YtjhhjkkacbcmjaaDoorRed
set_option linter.unusedVariables false
namespace Go.AL
open Go Go.Proofs Go.RowKit

def Rs.row (ty : TypeId) (r : Rs) : Row := .var ty [.t (.str r.s), .t (.bool r.bad)]
set_option maxHeartbeats 2000000 in
theorem Take_spec (ty : TypeId) (r : Rs) (n : Int) (hs : r.s.size ≤ 1000000000) : Spec Tryd.prog 80 [.ref (.par 0) 0 0 0, .t (.int .i64 n)] [(.par 0, r.row ty)] (.t (.str (r.take n).1)) [(.par 0, (r.take n).2.row ty)] := by
  obtain ⟨s, bad⟩ := r
  unfold Rs.row
  simp only at hs ⊢
  by_cases hb : n < 0 ∨ (s.size : Int) < n
  · have e : Rs.take ⟨s, bad⟩ n = (eS, ⟨s, true⟩) := by
      unfold Rs.take; rw [if_pos (.inr hb)]
    rw [e]
    refine spec_intro (env0 := [(0, _), (1, _)]) (st0 := [(_, some _)]) Tryd.func80 rfl rfl rfl rfl ?_
    repeat' (first | (with_reducible refine codeT_seq ?_) | (with_reducible refine codeT_skip ?_) | (with_reducible refine codeT_ret ?_) | (with_reducible refine codeT_regionL ?_) | (with_reducible refine lx_nil ?_) | (with_reducible refine q_then ?_) | (with_reducible refine q_then_ret ?_) | refine c_condT rfl ?_ | ((with_reducible refine g_guard ?_); first | refine lx_skip rfl rfl rfl ?_) | ((with_reducible refine g_move ?_); first | refine lx_move (r := (.t _)) rfl rfl rfl rfl rfl ?_ | refine lx_move (r := (.ref _ _ _ _)) rfl rfl rfl rfl rfl ?_) | ((with_reducible refine g_load ?_); first | refine lx_load_var rfl rfl rfl rfl rfl rfl rfl rfl ?_) | ((with_reducible refine g_fieldAddr ?_); first | refine lx_fieldAddr rfl rfl rfl rfl rfl rfl rfl ?_) | ((with_reducible refine g_binOp ?_); first | refine lx_arith rfl rfl rfl rfl rfl rfl rfl ?_) | ((with_reducible refine g_assign ?_); first | refine lx_assign (r := (.t _)) rfl rfl rfl rfl rfl ?_) | ((with_reducible refine g_pick ?_); first | refine lx_pickT (r := (.t _)) rfl rfl rfl rfl rfl rfl ?_ | refine lx_pickF (r := (.t _)) rfl rfl rfl rfl rfl rfl ?_) | ((with_reducible refine g_store ?_); first | refine lx_store_var (r := (.t _)) rfl rfl rfl rfl rfl rfl rfl rfl rfl rfl ?_) | ((with_reducible refine g_nilCheck ?_); first | refine lx_nilCheck (r := (.ref _ _ _ _)) rfl rfl rfl rfl rfl rfl ?_) | ((with_reducible refine g_slice ?_); first | refine lx_slice_str rfl rfl rfl ⟨_, rfl⟩ rfl rfl rfl ?_ ?_ ?_ ?_ | refine lx_slice_str rfl rfl ⟨_, rfl⟩ rfl rfl rfl rfl ?_ ?_ ?_ ?_) | ((with_reducible refine g_len ?_); first | refine lx_len_str rfl rfl rfl rfl rfl ?_) | refine c_condP rfl (fun hc => ?_) (fun hc => ?_) | refine c_condB rfl (fun hc => ?_) (fun hc => ?_) | refine lx_splitP rfl (fun hc => ?_) (fun hc => ?_))
    all_goals try (exfalso; omega)
    all_goals exact q_ret (resT_oneE rfl rfl rfl) (stHas_spec ⟨rfl, trivial⟩)
  · cases bad with
    | true =>
      have e : Rs.take ⟨s, true⟩ n = (eS, ⟨s, true⟩) := by
        unfold Rs.take; rw [if_pos (.inl rfl)]
      rw [e]
      refine spec_intro (env0 := [(0, _), (1, _)]) (st0 := [(_, some _)]) Tryd.func80 rfl rfl rfl rfl ?_
      repeat' (first | (with_reducible refine codeT_seq ?_) | (with_reducible refine codeT_skip ?_) | (with_reducible refine codeT_ret ?_) | (with_reducible refine codeT_regionL ?_) | (with_reducible refine lx_nil ?_) | (with_reducible refine q_then ?_) | (with_reducible refine q_then_ret ?_) | refine c_condT rfl ?_ | ((with_reducible refine g_guard ?_); first | refine lx_skip rfl rfl rfl ?_) | ((with_reducible refine g_move ?_); first | refine lx_move (r := (.t _)) rfl rfl rfl rfl rfl ?_ | refine lx_move (r := (.ref _ _ _ _)) rfl rfl rfl rfl rfl ?_) | ((with_reducible refine g_load ?_); first | refine lx_load_var rfl rfl rfl rfl rfl rfl rfl rfl ?_) | ((with_reducible refine g_fieldAddr ?_); first | refine lx_fieldAddr rfl rfl rfl rfl rfl rfl rfl ?_) | ((with_reducible refine g_binOp ?_); first | refine lx_arith rfl rfl rfl rfl rfl rfl rfl ?_) | ((with_reducible refine g_assign ?_); first | refine lx_assign (r := (.t _)) rfl rfl rfl rfl rfl ?_) | ((with_reducible refine g_pick ?_); first | refine lx_pickT (r := (.t _)) rfl rfl rfl rfl rfl rfl ?_ | refine lx_pickF (r := (.t _)) rfl rfl rfl rfl rfl rfl ?_) | ((with_reducible refine g_store ?_); first | refine lx_store_var (r := (.t _)) rfl rfl rfl rfl rfl rfl rfl rfl rfl rfl ?_) | ((with_reducible refine g_nilCheck ?_); first | refine lx_nilCheck (r := (.ref _ _ _ _)) rfl rfl rfl rfl rfl rfl ?_) | ((with_reducible refine g_len ?_); first | refine lx_len_str rfl rfl rfl rfl rfl ?_) | refine c_condP rfl (fun hc => ?_) (fun hc => ?_) | refine lx_splitP rfl (fun hc => ?_) (fun hc => ?_))
      all_goals try (exfalso; omega)
      all_goals exact q_ret (resT_oneE rfl rfl rfl) (stHas_spec ⟨rfl, trivial⟩)
    | false =>
      have e : Rs.take ⟨s, false⟩ n = (s.extract 0 n.toNat, ⟨s.extract n.toNat s.size, false⟩) := by
        unfold Rs.take; rw [if_neg (by simp only [Bool.false_eq_true, false_or]; exact hb)]
      rw [e]
      refine spec_intro (env0 := [(0, _), (1, _)]) (st0 := [(_, some _)]) Tryd.func80 rfl rfl rfl rfl ?_
      repeat' (first | (with_reducible refine codeT_seq ?_) | (with_reducible refine codeT_skip ?_) | (with_reducible refine codeT_ret ?_) | (with_reducible refine codeT_regionL ?_) | (with_reducible refine lx_nil ?_) | (with_reducible refine q_then ?_) | (with_reducible refine q_then_ret ?_) | refine c_condT rfl ?_ | refine c_condF rfl ?_ | ((with_reducible refine g_guard ?_); first | refine lx_skip rfl rfl rfl ?_) | ((with_reducible refine g_move ?_); first | refine lx_move (r := (.t _)) rfl rfl rfl rfl rfl ?_ | refine lx_move (r := (.ref _ _ _ _)) rfl rfl rfl rfl rfl ?_) | ((with_reducible refine g_load ?_); first | refine lx_load_var rfl rfl rfl rfl rfl rfl rfl rfl ?_) | ((with_reducible refine g_fieldAddr ?_); first | refine lx_fieldAddr rfl rfl rfl rfl rfl rfl rfl ?_) | ((with_reducible refine g_binOp ?_); first | refine lx_arith rfl rfl rfl rfl rfl rfl rfl ?_) | ((with_reducible refine g_assign ?_); first | refine lx_assign (r := (.t _)) rfl rfl rfl rfl rfl ?_) | ((with_reducible refine g_pick ?_); first | refine lx_pickT (r := (.t _)) rfl rfl rfl rfl rfl rfl ?_ | refine lx_pickF (r := (.t _)) rfl rfl rfl rfl rfl rfl ?_) | ((with_reducible refine g_store ?_); first | refine lx_store_var (r := (.t _)) rfl rfl rfl rfl rfl rfl rfl rfl rfl rfl ?_) | ((with_reducible refine g_nilCheck ?_); first | refine lx_nilCheck (r := (.ref _ _ _ _)) rfl rfl rfl rfl rfl rfl ?_) | ((with_reducible refine g_slice ?_); first | refine lx_slice_str rfl rfl rfl ⟨_, rfl⟩ rfl rfl rfl ?_ ?_ ?_ ?_ | refine lx_slice_str rfl rfl ⟨_, rfl⟩ rfl rfl rfl rfl ?_ ?_ ?_ ?_) | ((with_reducible refine g_len ?_); first | refine lx_len_str rfl rfl rfl rfl rfl ?_) | refine c_condP rfl (fun hc => ?_) (fun hc => ?_) | refine lx_splitP rfl (fun hc => ?_) (fun hc => ?_))
      all_goals try (exfalso; omega)
      all_goals try omega
      exact q_ret (resT_oneE rfl rfl rfl) (stHas_spec ⟨rfl, trivial⟩)

theorem take_size (r : Rs) (n : Int) : (r.take n).2.s.size ≤ r.s.size ∧ (r.take n).1.size ≤ r.s.size := by
  unfold Rs.take
  split
  · exact ⟨Nat.le_refl _, Nat.zero_le _⟩
  · simp only [ByteArray.size_extract]; omega
theorem take_size2 {r : Rs} {n : Int} (h : (r.take n).1 ≠ eS) : ((r.take n).1.size : Int) = n := by
  unfold Rs.take at h ⊢
  split at h
  · exact absurd rfl h
  · rename_i hn
    rw [if_neg hn]
    simp only [not_or, Bool.not_eq_true, Int.not_lt] at hn
    simp only [ByteArray.size_extract]; omega
set_option maxHeartbeats 2000000 in
theorem Byte_spec (ty : TypeId) (r : Rs) (hs : r.s.size ≤ 1000000000) : Spec Tryd.prog 95 [.ref (.par 0) 0 0 0] [(.par 0, r.row ty)] (.t (.int .u8 r.byte.1)) [(.par 0, r.byte.2.row ty)] := by
  have hT := Take_spec ty r 1 hs
  have h1 := take_size2 (r := r) (n := 1)
  unfold Rs.byte
  generalize r.take 1 = p at hT h1 ⊢
  obtain ⟨a, q⟩ := p
  simp only at hT h1 ⊢
  obtain ⟨qs, qb⟩ := q
  obtain ⟨s, bad⟩ := r
  unfold Rs.row at hT ⊢
  simp only at hT hs ⊢
  refine spec_intro (env0 := [(0, _)]) (st0 := [(_, some _)]) Tryd.func95 rfl rfl rfl rfl ?_
  repeat' (first | (with_reducible refine codeT_seq ?_) | (with_reducible refine codeT_skip ?_) | (with_reducible refine codeT_ret ?_) | (with_reducible refine codeT_regionL ?_) | (with_reducible refine lx_nil ?_) | (with_reducible refine q_then ?_) | (with_reducible refine q_then_ret ?_) | ((with_reducible refine g_move ?_); first | refine lx_move (r := (.t _)) rfl rfl rfl rfl rfl ?_ | refine lx_move (r := (.ref _ _ _ _)) rfl rfl rfl rfl rfl ?_) | ((with_reducible refine g_binOp ?_); first | refine lx_str_ne rfl rfl rfl rfl rfl rfl ?_) | ((with_reducible refine g_assign ?_); first | refine lx_assign (r := (.t _)) rfl rfl rfl rfl rfl ?_) | ((with_reducible refine g_index ?_); first | refine lx_index_str rfl rfl rfl rfl rfl rfl ?_ ?_ ?_) | ((with_reducible refine g_call ?_); first | refine lx_call (r' := .t (.str a)) [] rfl rfl hT (ArgsLE.refl _) rfl ⟨rfl, trivial⟩ rfl rfl rfl rfl rfl rfl rfl rfl rfl rfl ?_) | refine c_condN rfl (fun hc => ?_) (fun hc => ?_))
  · exact q_ret (resT_oneE rfl rfl (congrArg (T.int .u8) (by rw [if_pos (show a = eS from hc)]))) (stHas_spec ⟨rfl, trivial⟩)
  · omega
  · have := h1 (show a ≠ eS from hc); omega
  · exact q_ret (resT_oneE rfl rfl (congrArg (T.int .u8) (by rw [if_neg (show ¬ a = eS from hc)]))) (stHas_spec ⟨rfl, trivial⟩)
set_option maxHeartbeats 2000000 in
theorem Fits_spec (ty : TypeId) (r : Rs) (n : Int) (h0 : 0 ≤ n) (h1 : n < 18446744073709551616) (hs : r.s.size ≤ 1000000000) : Spec Tryd.prog 81 [.ref (.par 0) 0 0 0, .t (.int .u64 n)] [(.par 0, r.row ty)] (.t (.int .i64 (r.fits n).1)) [(.par 0, (r.fits n).2.row ty)] := by
  obtain ⟨s, bad⟩ := r
  unfold Rs.fits Rs.row
  simp only at hs ⊢
  have hw : IntKind.u64.wrap (s.size : Int) = s.size := wrapU64 (by omega) (by omega)
  by_cases hc0 : (s.size : Int) < n
  · rw [if_pos hc0]
    refine spec_intro (env0 := [(0, _), (1, _)]) (st0 := [(_, some _)]) Tryd.func81 rfl rfl rfl rfl ?_
    repeat' (first | (with_reducible refine codeT_seq ?_) | (with_reducible refine codeT_skip ?_) | (with_reducible refine codeT_ret ?_) | (with_reducible refine codeT_regionL ?_) | (with_reducible refine lx_nil ?_) | (with_reducible refine q_then ?_) | (with_reducible refine q_then_ret ?_) | ((with_reducible refine g_move ?_); first | refine lx_move (r := (.t _)) rfl rfl rfl rfl rfl ?_ | refine lx_move (r := (.ref _ _ _ _)) rfl rfl rfl rfl rfl ?_) | ((with_reducible refine g_load ?_); first | refine lx_load_var rfl rfl rfl rfl rfl rfl rfl rfl ?_) | ((with_reducible refine g_fieldAddr ?_); first | refine lx_fieldAddr rfl rfl rfl rfl rfl rfl rfl ?_) | ((with_reducible refine g_binOp ?_); first | refine lx_arith rfl rfl rfl rfl rfl rfl rfl ?_) | ((with_reducible refine g_assign ?_); first | refine lx_assign (r := (.t _)) rfl rfl rfl rfl rfl ?_) | ((with_reducible refine g_store ?_); first | refine lx_store_var (r := (.t _)) rfl rfl rfl rfl rfl rfl rfl rfl rfl rfl ?_) | ((with_reducible refine g_nilCheck ?_); first | refine lx_nilCheck (r := (.ref _ _ _ _)) rfl rfl rfl rfl rfl rfl ?_) | ((with_reducible refine g_convert ?_); first | refine lx_conv_int rfl rfl rfl rfl rfl ?_) | ((with_reducible refine g_len ?_); first | refine lx_len_str rfl rfl rfl rfl rfl ?_) | refine c_condP rfl (fun hc => ?_) (fun hc => ?_))
    all_goals try (exfalso; omega)
    exact q_ret (resT_oneE rfl rfl rfl) (stHas_spec ⟨rfl, trivial⟩)
  · rw [if_neg hc0]
    refine spec_intro (env0 := [(0, _), (1, _)]) (st0 := [(_, some _)]) Tryd.func81 rfl rfl rfl rfl ?_
    repeat' (first | (with_reducible refine codeT_seq ?_) | (with_reducible refine codeT_skip ?_) | (with_reducible refine codeT_ret ?_) | (with_reducible refine codeT_regionL ?_) | (with_reducible refine lx_nil ?_) | (with_reducible refine q_then ?_) | (with_reducible refine q_then_ret ?_) | ((with_reducible refine g_move ?_); first | refine lx_move (r := (.t _)) rfl rfl rfl rfl rfl ?_ | refine lx_move (r := (.ref _ _ _ _)) rfl rfl rfl rfl rfl ?_) | ((with_reducible refine g_load ?_); first | refine lx_load_var rfl rfl rfl rfl rfl rfl rfl rfl ?_) | ((with_reducible refine g_fieldAddr ?_); first | refine lx_fieldAddr rfl rfl rfl rfl rfl rfl rfl ?_) | ((with_reducible refine g_binOp ?_); first | refine lx_arith rfl rfl rfl rfl rfl rfl rfl ?_) | ((with_reducible refine g_assign ?_); first | refine lx_assign (r := (.t _)) rfl rfl rfl rfl rfl ?_) | ((with_reducible refine g_store ?_); first | refine lx_store_var (r := (.t _)) rfl rfl rfl rfl rfl rfl rfl rfl rfl rfl ?_) | ((with_reducible refine g_nilCheck ?_); first | refine lx_nilCheck (r := (.ref _ _ _ _)) rfl rfl rfl rfl rfl rfl ?_) | ((with_reducible refine g_convert ?_); first | refine lx_conv_int rfl rfl rfl rfl rfl ?_) | ((with_reducible refine g_len ?_); first | refine lx_len_str rfl rfl rfl rfl rfl ?_) | refine c_condP rfl (fun hc => ?_) (fun hc => ?_))
    all_goals try (exfalso; omega)
    exact q_ret (resT_oneE rfl rfl (congrArg (T.int .i64) (wrap64 (by omega) (by omega)))) (stHas_spec ⟨rfl, trivial⟩)
theorem or64g {v b : Int} (h0 : 0 ≤ v) (h1 : v < 18446744073709551616) (hb0 : 0 ≤ b) (hb : b < 256) : IntKind.u64.wrap ((BitVec.ofInt IntKind.u64.bits (IntKind.u64.wrap (v * 2 ^ min (Int.toNat 8) IntKind.u64.bits)) ||| BitVec.ofInt IntKind.u64.bits (IntKind.u64.wrap b)).toNat : Int) = v * 256 % 18446744073709551616 + b := by
  have e8 : min (Int.toNat 8) IntKind.u64.bits = 8 := by decide
  rw [e8, wrapU64 (n := b) hb0 (by omega)]
  obtain ⟨x, hx⟩ : ∃ x : Nat, x = (v % 72057594037927936).toNat := ⟨_, rfl⟩
  obtain ⟨c, hc⟩ : ∃ c : Nat, c = b.toNat := ⟨_, rfl⟩
  have e1 : IntKind.u64.wrap (v * 2 ^ 8) = ((x * 256 : Nat) : Int) := by
    simp only [IntKind.wrap, IntKind.bits, IntKind.signed, Bool.false_and, Bool.false_eq_true, if_false]
    omega
  rw [e1, show b = (c : Int) by omega]
  have e2 : (BitVec.ofInt IntKind.u64.bits ((x * 256 : Nat) : Int) ||| BitVec.ofInt IntKind.u64.bits (c : Int)).toNat = x * 256 + c := by
    rw [BitVec.toNat_or, BitVec.ofInt_natCast, BitVec.ofInt_natCast, BitVec.toNat_ofNat, BitVec.toNat_ofNat]
    have : IntKind.u64.bits = 64 := rfl
    rw [this, Nat.mod_eq_of_lt (by omega), Nat.mod_eq_of_lt (by omega)]
    have := Nat.shiftLeft_add_eq_or_of_lt (i := 8) (b := c) (by omega) x
    rw [Nat.shiftLeft_eq] at this
    rw [← this]
  rw [e2, wrapU64 (by omega) (by omega)]
  omega
set_option maxHeartbeats 4000000 in
theorem Uint_spec (ty : TypeId) (r : Rs) (k : Int) (hk : k ≤ 8) (hs : r.s.size ≤ 1000000000) : Spec Tryd.prog 106 [.ref (.par 0) 0 0 0, .t (.int .i64 k)] [(.par 0, r.row ty)] (.t (.int .u64 (r.uint k).1)) [(.par 0, (r.uint k).2.row ty)] := by
  have hT := Take_spec ty r k hs
  have hz := (take_size r k).2
  unfold Rs.uint
  generalize r.take k = p at hT hz ⊢
  obtain ⟨a, q⟩ := p
  simp only at hT hz ⊢
  obtain ⟨qs, qb⟩ := q
  obtain ⟨s, bad⟩ := r
  unfold Rs.row at hT ⊢
  simp only at hT hs hz ⊢
  refine spec_intro (env0 := [(0, _), (1, _)]) (st0 := [(_, some _)]) Tryd.func106 rfl rfl rfl rfl ?_
  repeat' (first | (with_reducible refine codeT_seq ?_) | (with_reducible refine codeT_block ?_) | (with_reducible refine codeT_regionL ?_) | (with_reducible refine lx_nil ?_) | (with_reducible refine q_then ?_) | ((with_reducible refine g_move ?_); first | refine lx_move (r := (.t _)) rfl rfl rfl rfl rfl ?_ | refine lx_move (r := (.ref _ _ _ _)) rfl rfl rfl rfl rfl ?_) | ((with_reducible refine g_assign ?_); first | refine lx_assign (r := (.t _)) rfl rfl rfl rfl rfl ?_) | ((with_reducible refine g_convert ?_); first | refine lx_toBytes rfl rfl rfl rfl rfl rfl ?_ ?_) | ((with_reducible refine g_len ?_); first | refine lx_len_rowmap rfl rfl rfl rfl rfl rfl ?_) | ((with_reducible refine g_call ?_); first | refine lx_call (r' := .t (.str a)) [] rfl rfl hT (ArgsLE.refl _) rfl ⟨rfl, trivial⟩ rfl rfl rfl rfl rfl rfl rfl rfl rfl rfl ?_))
  · omega
  refine codeT_ghost (ghost_freezeL (id := .loc 11) rfl rfl rfl) ?_
  refine codeT_ghost (ghost_keep2 [5, 11, 12, 13] [.par 0] rfl rfl) ?_
  have ela : a.data.toList.length = a.size := toList_len a
  unfold bytesT
  generalize a.data.toList = L at ela ⊢
  refine codeT_loop (fun p env st => ∃ (j : Nat) (v : Int), j ≤ L.length ∧ p = L.length - j ∧ v = (L.take j).foldl u64Step 0 ∧ 0 ≤ v ∧ v < 18446744073709551616 ∧
      env = EnvL.get [(5, .t (.int .u64 v)), (11, .t (.sl 1 (L.map u8T))), (12, .t (.int .i64 L.length)), (13, .t (.int .i64 (j : Int)))] ∧ st = StO.get [(.par 0, some (.var ty [.t (.str qs), .t (.bool qb)]))])
    ?_ (n := L.length) ⟨0, 0, by omega, rfl, rfl, by omega, by omega, rfl, rfl⟩
  rintro p env st ⟨j, v, hj, rfl, hv, h0, h1, rfl, rfl⟩
  by_cases hlt : j < L.length
  · repeat' (first | (with_reducible refine codeT_seq ?_) | (with_reducible refine codeT_regionL ?_) | (with_reducible refine lx_nil ?_) | (with_reducible refine q_then ?_) | ((with_reducible refine g_binOp ?_); first | refine lx_arith rfl rfl rfl rfl rfl rfl rfl ?_))
    refine c_condP rfl (fun hc => ?_) (fun hc => absurd (by omega) hc)
    repeat' (first | (with_reducible refine codeT_seq ?_) | (with_reducible refine codeT_block ?_) | (with_reducible refine codeT_skip ?_) | (with_reducible refine codeT_regionL ?_) | (with_reducible refine lx_nil ?_) | (with_reducible refine q_then ?_) | (with_reducible refine q_block ?_) | ((with_reducible refine g_move ?_); first | refine lx_move (r := (.t _)) rfl rfl rfl rfl rfl ?_) | ((with_reducible refine g_load ?_); first | refine lx_load_tp rfl rfl rfl rfl rfl rfl rfl ?_) | ((with_reducible refine g_binOp ?_); first | refine lx_arith rfl rfl rfl rfl rfl rfl rfl ?_ | refine lx_shl rfl rfl rfl rfl rfl rfl (by decide) ?_) | ((with_reducible refine g_assign ?_); first | refine lx_assign (r := (.t _)) rfl rfl rfl rfl rfl ?_) | ((with_reducible refine g_indexAddr ?_); first | refine lx_indexAddr_map rfl rfl rfl rfl rfl rfl ?_ ?_ ?_) | ((with_reducible refine g_convert ?_); first | refine lx_conv_int rfl rfl rfl rfl rfl ?_))
    all_goals try omega
    have hb := (L.getD (j : Int).toNat default).toNat_lt
    have hst : v * 256 % 18446744073709551616 + ((L.getD (j : Int).toNat default).toNat : Int) = (L.take (j + 1)).foldl u64Step 0 := by
      rw [List.take_add_one, List.getElem?_eq_getElem hlt, Option.toList_some, List.foldl_append, ← hv]
      have hg : L.getD (j : Int).toNat default = L[j] := by simp [List.getD_eq_getElem?_getD, hlt]
      rw [hg]; rfl
    rw [or64g h0 h1 (b := ((L.getD (j : Int).toNat default).toNat : Int)) (by omega) (by omega)]
    refine q_loop (n' := L.length - (j + 1)) (by omega) (ghost_keep2 [5, 11, 12, 13] [.par 0] rfl rfl) ⟨j + 1, v * 256 % 18446744073709551616 + ((L.getD (j : Int).toNat default).toNat : Int), by omega, rfl, hst, by omega, by omega, ?_, rfl⟩
    rw [wrap64 (by omega) (by omega)]; rfl
  · repeat' (first | (with_reducible refine codeT_seq ?_) | (with_reducible refine codeT_regionL ?_) | (with_reducible refine lx_nil ?_) | (with_reducible refine q_then ?_) | ((with_reducible refine g_binOp ?_); first | refine lx_arith rfl rfl rfl rfl rfl rfl rfl ?_))
    refine c_condP rfl (fun hc => absurd hc (by omega)) (fun hc => ?_)
    repeat' (first | (with_reducible refine codeT_seq ?_) | (with_reducible refine codeT_ret ?_) | (with_reducible refine codeT_exit ?_) | (with_reducible refine codeT_regionL ?_) | (with_reducible refine lx_nil ?_) | (with_reducible refine q_then ?_) | (with_reducible refine q_then_exit ?_) | ((with_reducible refine q_block_same ?_ ?_); · rfl) | (with_reducible refine q_loop_exit ?_) | ((with_reducible refine g_move ?_); first | refine lx_move (r := (.t _)) rfl rfl rfl rfl rfl ?_) | ((with_reducible refine g_assign ?_); first | refine lx_assign (r := (.t _)) rfl rfl rfl rfl rfl ?_))
    rw [List.take_of_length_le (by omega)] at hv
    exact q_ret (resT_oneE rfl rfl (congrArg (T.int .u64) hv)) (stHas_spec ⟨rfl, trivial⟩)
end Go.AL
/- What cbor.reader's head and name answer. -/
set_option linter.unusedVariables false
namespace Go.AL
open Go Go.Proofs Go.RowKit

end Go.AL
/- What cbor.reader's items answers, given what node answers. -/
set_option linter.unusedVariables false
namespace Go.AL
open Go Go.Proofs Go.RowKit

end Go.AL
/- What cbor.reader's node answers. -/
set_option linter.unusedVariables false
namespace Go.AL
open Go Go.Proofs Go.RowKit

theorem fits_ge {r : Rs} {n : Int} (h : 0 ≤ n) : 0 ≤ (r.fits n).1 := by
  unfold Rs.fits; split
  · simp
  · exact h
end Go.AL
/- What parse.Finish answers, given what the encoding answers, and what cbor.Decode answers. -/
set_option linter.unusedVariables false
namespace Go.AL
open Go Go.Proofs Go.RowKit

set_option maxHeartbeats 8000000 in
theorem Finish_spec {oF oA : Obj} {V : ByteArray → Bool} (hS : VSpec oF oA V) (ty : TypeId) (ef : FuncId) [FnB Tryd.prog ef] (s : ByteArray) (x : Nd) (hx : x.Ok) (r : Rs) (E : ByteArray × Int)
    (hE : r.bad = false → r.s = eS → x.validB V 8 = true → Spec Tryd.prog ef [.t x.toT] [(.par 100, .dat (.fix 0 oF)), (.par 101, .dat (.fix 1 oA))] (.tup [.t (.str E.1), .t (.int .i64 E.2)]) [(.par 100, .dat (.fix 0 oF)), (.par 101, .dat (.fix 1 oA))])
    (res : Nd × Int) (hres : res = if r.bad = false ∧ r.s = eS ∧ x.validB V 8 = true ∧ E = (s, 0) then (x, 0) else (Nd.zero, 4)) :
    Spec Tryd.prog 61 [.t (.str s), .t x.toT, .ref (.par 0) 0 0 0, .t (.fn ef)] [(.par 0, r.row ty), (.par 100, .dat (.fix 0 oF)), (.par 101, .dat (.fix 1 oA))] (.tup [.t res.1.toT, .t (.int .i64 res.2)]) [(.par 0, r.row ty), (.par 100, .dat (.fix 0 oF)), (.par 101, .dat (.fix 1 oA))] := by
  have hV := Valid_spec hS x hx
  have hT := x.toT_full
  obtain ⟨rs, bad⟩ := r
  obtain ⟨es, en⟩ := E
  unfold Rs.row
  simp only at hE hres ⊢
  have fail : res = (Nd.zero, 4) → res.1.toT = .agg [.int .i64 0, .bool false, .int .i64 0, .str ⟨#[]⟩, .sl 1 [], .sl 6 []] ∧ res.2 = 4 := fun h => by rw [h]; exact ⟨zero_toT, rfl⟩
  cases bad with
  | true =>
    rw [if_neg (by simp)] at hres
    obtain ⟨f1, f2⟩ := fail hres
    rw [f1, f2, hT]
    refine spec_intro (env0 := [(0, _), (1, _), (2, _), (3, _)]) (st0 := [(_, some _), (_, some _), (_, some _)]) Tryd.func61 rfl rfl rfl rfl ?_
    repeat' (first | (with_reducible refine codeT_seq ?_) | (with_reducible refine codeT_ret ?_) | (with_reducible refine codeT_regionL ?_) | (with_reducible refine lx_nil ?_) | (with_reducible refine q_then ?_) | (with_reducible refine q_then_ret ?_) | refine c_condT rfl ?_ | ((with_reducible refine g_guard ?_); first | refine lx_skip rfl rfl rfl ?_) | ((with_reducible refine g_move ?_); first | refine lx_move (r := (.t _)) rfl rfl rfl rfl rfl ?_ | refine lx_move (r := (.ref _ _ _ _)) rfl rfl rfl rfl rfl ?_) | ((with_reducible refine g_load ?_); first | refine lx_load_var rfl rfl rfl rfl rfl rfl rfl rfl ?_) | ((with_reducible refine g_fieldAddr ?_); first | refine lx_fieldAddr rfl rfl rfl rfl rfl rfl rfl ?_) | ((with_reducible refine g_assign ?_); first | refine lx_assign (r := (.t _)) rfl rfl rfl rfl rfl ?_) | ((with_reducible refine g_pick ?_); first | refine lx_pickT (r := (.t _)) rfl rfl rfl rfl rfl rfl ?_) | ((with_reducible refine g_box ?_); first | refine lx_box (r := (.t (.agg _))) (cs := (List.map .t _)) rfl rfl rfl rfl rfl rfl rfl rfl rfl ?_) | ((with_reducible refine g_alloc ?_); first | refine lx_alloc rfl rfl rfl rfl rfl rfl rfl ?_) | ((with_reducible refine g_store ?_); first | refine lx_store_var (r := (.t (.agg _))) rfl rfl rfl rfl rfl rfl rfl rfl rfl rfl ?_) | ((with_reducible refine g_nilCheck ?_); first | refine lx_nilCheck (r := (.ref _ _ _ _)) rfl rfl rfl rfl rfl rfl ?_) | ((with_reducible refine g_build ?_); first | refine lx_build (r := (.t (.agg _))) rfl rfl rfl rfl rfl rfl rfl ?_))
    refine q_ret ?_ (stHas_spec ⟨rfl, rfl, rfl, trivial⟩); refine resT_cell_tmp rfl rfl rfl inferInstance rfl inferInstance rfl ?_ ?_; exact TLe.av (by repeat first | exact TLe.refl _ | exact TLe.nil _ | exact TLe.esl _ | refine TLe.agg ?_ | refine TLs.cons ?_ ?_ | exact TLs.nil); exact AVLE.refl _
  | false =>
    by_cases hrs : rs = eS
    · subst hrs
      cases hv : x.validB V 8 with
      | false =>
        rw [hv] at hV hres
        rw [if_neg (by simp)] at hres
        obtain ⟨f1, f2⟩ := fail hres
        rw [hT] at hV
        rw [f1, f2, hT]
        refine spec_intro (env0 := [(0, _), (1, _), (2, _), (3, _)]) (st0 := [(_, some _), (_, some _), (_, some _)]) Tryd.func61 rfl rfl rfl rfl ?_
        repeat' (first | (with_reducible refine codeT_seq ?_) | (with_reducible refine codeT_ret ?_) | (with_reducible refine codeT_regionL ?_) | (with_reducible refine lx_nil ?_) | (with_reducible refine q_then ?_) | (with_reducible refine q_then_ret ?_) | refine c_condT rfl ?_ | ((with_reducible refine g_move ?_); first | refine lx_move (r := (.t _)) rfl rfl rfl rfl rfl ?_ | refine lx_move (r := (.ref _ _ _ _)) rfl rfl rfl rfl rfl ?_) | ((with_reducible refine g_load ?_); first | refine lx_load_var rfl rfl rfl rfl rfl rfl rfl rfl ?_ | refine lx_load_varA (r := (.t (.agg _))) rfl rfl rfl rfl rfl rfl rfl rfl rfl ?_) | ((with_reducible refine g_fieldAddr ?_); first | refine lx_fieldAddr rfl rfl rfl rfl rfl rfl rfl ?_) | ((with_reducible refine g_binOp ?_); first | refine lx_str_ne rfl rfl rfl rfl rfl rfl ?_) | ((with_reducible refine g_assign ?_); first | refine lx_assign (r := (.t _)) rfl rfl rfl rfl rfl ?_) | ((with_reducible refine g_pick ?_); first | refine lx_pickF (r := (.t _)) rfl rfl rfl rfl rfl rfl ?_) | ((with_reducible refine g_box ?_); first | refine lx_box (r := (.t (.agg _))) (cs := (List.map .t _)) rfl rfl rfl rfl rfl rfl rfl rfl rfl ?_) | ((with_reducible refine g_alloc ?_); first | refine lx_alloc rfl rfl rfl rfl rfl rfl rfl ?_) | ((with_reducible refine g_store ?_); first | refine lx_store_var (r := (.t (.agg _))) rfl rfl rfl rfl rfl rfl rfl rfl rfl rfl ?_) | ((with_reducible refine g_nilCheck ?_); first | refine lx_nilCheck (r := (.ref _ _ _ _)) rfl rfl rfl rfl rfl rfl ?_) | ((with_reducible refine g_unOp ?_); first | refine lx_not rfl rfl rfl rfl rfl ?_) | ((with_reducible refine g_build ?_); first | refine lx_build (r := (.t (.agg _))) rfl rfl rfl rfl rfl rfl rfl ?_) | ((with_reducible refine g_call ?_); first | refine lx_call (r' := .t (.bool false)) [] rfl rfl hV (ArgsLE.refl _) rfl ⟨rfl, rfl, trivial⟩ rfl rfl rfl rfl rfl rfl rfl rfl rfl rfl ?_))
        all_goals try (exact absurd rfl hc)
        refine q_ret ?_ (stHas_spec ⟨rfl, rfl, rfl, trivial⟩); refine resT_cell_tmp rfl rfl rfl inferInstance rfl inferInstance rfl ?_ ?_; exact TLe.av (by repeat first | exact TLe.refl _ | exact TLe.nil _ | exact TLe.esl _ | refine TLe.agg ?_ | refine TLs.cons ?_ ?_ | exact TLs.nil); exact AVLE.refl _
      | true =>
        rw [hv] at hV hres
        replace hE := hE rfl rfl hv
        rw [hT] at hV hE
        by_cases h0 : en = 0
        · subst h0
          by_cases hs : es = s
          · subst hs
            rw [if_pos ⟨rfl, rfl, rfl, rfl⟩] at hres
            rw [hres]
            simp only
            rw [hT]
            refine spec_intro (env0 := [(0, _), (1, _), (2, _), (3, _)]) (st0 := [(_, some _), (_, some _), (_, some _)]) Tryd.func61 rfl rfl rfl rfl ?_
            repeat' (first | (with_reducible refine codeT_seq ?_) | (with_reducible refine codeT_skip ?_) | (with_reducible refine codeT_ret ?_) | (with_reducible refine codeT_regionL ?_) | (with_reducible refine lx_nil ?_) | (with_reducible refine q_then ?_) | (with_reducible refine q_then_ret ?_) | refine c_condF rfl ?_ | ((with_reducible refine g_move ?_); first | refine lx_move (r := (.t _)) rfl rfl rfl rfl rfl ?_ | refine lx_move (r := (.ref _ _ _ _)) rfl rfl rfl rfl rfl ?_ | refine lx_move (r := (.tup _)) rfl rfl rfl rfl rfl ?_) | ((with_reducible refine g_load ?_); first | refine lx_load_var rfl rfl rfl rfl rfl rfl rfl rfl ?_ | refine lx_load_varA (r := (.t (.agg _))) rfl rfl rfl rfl rfl rfl rfl rfl rfl ?_) | ((with_reducible refine g_fieldAddr ?_); first | refine lx_fieldAddr rfl rfl rfl rfl rfl rfl rfl ?_) | ((with_reducible refine g_binOp ?_); first | refine lx_arith rfl rfl rfl rfl rfl rfl rfl ?_ | refine lx_str_ne rfl rfl rfl rfl rfl rfl ?_) | ((with_reducible refine g_assign ?_); first | refine lx_assign (r := (.t _)) rfl rfl rfl rfl rfl ?_) | ((with_reducible refine g_pick ?_); first | refine lx_pickF (r := (.t _)) rfl rfl rfl rfl rfl rfl ?_) | ((with_reducible refine g_box ?_); first | refine lx_box (r := (.t (.agg _))) (cs := (List.map .t _)) rfl rfl rfl rfl rfl rfl rfl rfl rfl ?_) | ((with_reducible refine g_alloc ?_); first | refine lx_alloc rfl rfl rfl rfl rfl rfl rfl ?_) | ((with_reducible refine g_store ?_); first | refine lx_store_var (r := (.t (.agg _))) rfl rfl rfl rfl rfl rfl rfl rfl rfl rfl ?_) | ((with_reducible refine g_nilCheck ?_); first | refine lx_nilCheck (r := (.ref _ _ _ _)) rfl rfl rfl rfl rfl rfl ?_) | ((with_reducible refine g_unOp ?_); first | refine lx_not rfl rfl rfl rfl rfl ?_) | ((with_reducible refine g_extract ?_); first | refine lx_extract rfl rfl rfl rfl rfl rfl ?_) | ((with_reducible refine g_build ?_); first | refine lx_build (r := (.t (.agg _))) rfl rfl rfl rfl rfl rfl rfl ?_) | ((with_reducible refine g_call ?_); first | refine lx_call (r' := .t (.bool true)) [] rfl rfl hV (ArgsLE.refl _) rfl ⟨rfl, rfl, trivial⟩ rfl rfl rfl rfl rfl rfl rfl rfl rfl rfl ?_ | refine lx_call (r' := .tup [.t (.str es), .t (.int .i64 0)]) [] rfl rfl hE (ArgsLE.refl _) rfl ⟨rfl, rfl, trivial⟩ rfl rfl rfl rfl rfl rfl rfl rfl rfl rfl ?_) | refine c_condN rfl (fun hc => ?_) (fun hc => ?_))
            · refine q_ret ?_ (stHas_spec ⟨rfl, rfl, rfl, trivial⟩); refine resT_cell_tmp rfl rfl rfl inferInstance rfl inferInstance rfl ?_ ?_; exact TLe.av (by repeat first | exact TLe.refl _ | exact TLe.nil _ | exact TLe.esl _ | refine TLe.agg ?_ | refine TLs.cons ?_ ?_ | exact TLs.nil); exact AVLE.refl _
            all_goals exact absurd rfl hc
          · rw [if_neg (fun h => hs (congrArg (·.1) h.2.2.2))] at hres
            obtain ⟨f1, f2⟩ := fail hres
            rw [f1, f2, hT]
            refine spec_intro (env0 := [(0, _), (1, _), (2, _), (3, _)]) (st0 := [(_, some _), (_, some _), (_, some _)]) Tryd.func61 rfl rfl rfl rfl ?_
            repeat' (first | (with_reducible refine codeT_seq ?_) | (with_reducible refine codeT_skip ?_) | (with_reducible refine codeT_ret ?_) | (with_reducible refine codeT_regionL ?_) | (with_reducible refine lx_nil ?_) | (with_reducible refine q_then ?_) | (with_reducible refine q_then_ret ?_) | refine c_condF rfl ?_ | ((with_reducible refine g_move ?_); first | refine lx_move (r := (.t _)) rfl rfl rfl rfl rfl ?_ | refine lx_move (r := (.ref _ _ _ _)) rfl rfl rfl rfl rfl ?_ | refine lx_move (r := (.tup _)) rfl rfl rfl rfl rfl ?_) | ((with_reducible refine g_load ?_); first | refine lx_load_var rfl rfl rfl rfl rfl rfl rfl rfl ?_ | refine lx_load_varA (r := (.t (.agg _))) rfl rfl rfl rfl rfl rfl rfl rfl rfl ?_) | ((with_reducible refine g_fieldAddr ?_); first | refine lx_fieldAddr rfl rfl rfl rfl rfl rfl rfl ?_) | ((with_reducible refine g_binOp ?_); first | refine lx_arith rfl rfl rfl rfl rfl rfl rfl ?_ | refine lx_str_ne rfl rfl rfl rfl rfl rfl ?_) | ((with_reducible refine g_assign ?_); first | refine lx_assign (r := (.t _)) rfl rfl rfl rfl rfl ?_) | ((with_reducible refine g_pick ?_); first | refine lx_pickF (r := (.t _)) rfl rfl rfl rfl rfl rfl ?_) | ((with_reducible refine g_box ?_); first | refine lx_box (r := (.t (.agg _))) (cs := (List.map .t _)) rfl rfl rfl rfl rfl rfl rfl rfl rfl ?_) | ((with_reducible refine g_alloc ?_); first | refine lx_alloc rfl rfl rfl rfl rfl rfl rfl ?_) | ((with_reducible refine g_store ?_); first | refine lx_store_var (r := (.t (.agg _))) rfl rfl rfl rfl rfl rfl rfl rfl rfl rfl ?_) | ((with_reducible refine g_nilCheck ?_); first | refine lx_nilCheck (r := (.ref _ _ _ _)) rfl rfl rfl rfl rfl rfl ?_) | ((with_reducible refine g_unOp ?_); first | refine lx_not rfl rfl rfl rfl rfl ?_) | ((with_reducible refine g_extract ?_); first | refine lx_extract rfl rfl rfl rfl rfl rfl ?_) | ((with_reducible refine g_build ?_); first | refine lx_build (r := (.t (.agg _))) rfl rfl rfl rfl rfl rfl rfl ?_) | ((with_reducible refine g_call ?_); first | refine lx_call (r' := .t (.bool true)) [] rfl rfl hV (ArgsLE.refl _) rfl ⟨rfl, rfl, trivial⟩ rfl rfl rfl rfl rfl rfl rfl rfl rfl rfl ?_ | refine lx_call (r' := .tup [.t (.str es), .t (.int .i64 0)]) [] rfl rfl hE (ArgsLE.refl _) rfl ⟨rfl, rfl, trivial⟩ rfl rfl rfl rfl rfl rfl rfl rfl rfl rfl ?_) | refine c_condN rfl (fun hc => ?_) (fun hc => ?_))
            · exact absurd hc hs
            refine q_ret ?_ (stHas_spec ⟨rfl, rfl, rfl, trivial⟩); refine resT_cell_tmp rfl rfl rfl inferInstance rfl inferInstance rfl ?_ ?_; exact TLe.av (by repeat first | exact TLe.refl _ | exact TLe.nil _ | exact TLe.esl _ | refine TLe.agg ?_ | refine TLs.cons ?_ ?_ | exact TLs.nil); exact AVLE.refl _
        · rw [if_neg (fun h => h0 (congrArg (·.2) h.2.2.2))] at hres
          obtain ⟨f1, f2⟩ := fail hres
          rw [f1, f2, hT]
          refine spec_intro (env0 := [(0, _), (1, _), (2, _), (3, _)]) (st0 := [(_, some _), (_, some _), (_, some _)]) Tryd.func61 rfl rfl rfl rfl ?_
          repeat' (first | (with_reducible refine codeT_seq ?_) | (with_reducible refine codeT_skip ?_) | (with_reducible refine codeT_ret ?_) | (with_reducible refine codeT_regionL ?_) | (with_reducible refine lx_nil ?_) | (with_reducible refine q_then ?_) | (with_reducible refine q_then_ret ?_) | refine c_condT rfl ?_ | refine c_condF rfl ?_ | ((with_reducible refine g_guard ?_); first | refine lx_skip rfl rfl rfl ?_) | ((with_reducible refine g_move ?_); first | refine lx_move (r := (.t _)) rfl rfl rfl rfl rfl ?_ | refine lx_move (r := (.ref _ _ _ _)) rfl rfl rfl rfl rfl ?_ | refine lx_move (r := (.tup _)) rfl rfl rfl rfl rfl ?_) | ((with_reducible refine g_load ?_); first | refine lx_load_var rfl rfl rfl rfl rfl rfl rfl rfl ?_ | refine lx_load_varA (r := (.t (.agg _))) rfl rfl rfl rfl rfl rfl rfl rfl rfl ?_) | ((with_reducible refine g_fieldAddr ?_); first | refine lx_fieldAddr rfl rfl rfl rfl rfl rfl rfl ?_) | ((with_reducible refine g_binOp ?_); first | refine lx_arith rfl rfl rfl rfl rfl rfl rfl ?_ | refine lx_str_ne rfl rfl rfl rfl rfl rfl ?_) | ((with_reducible refine g_assign ?_); first | refine lx_assign (r := (.t _)) rfl rfl rfl rfl rfl ?_) | ((with_reducible refine g_pick ?_); first | refine lx_pickT (r := (.t _)) rfl rfl rfl rfl rfl rfl ?_ | refine lx_pickF (r := (.t _)) rfl rfl rfl rfl rfl rfl ?_) | ((with_reducible refine g_box ?_); first | refine lx_box (r := (.t (.agg _))) (cs := (List.map .t _)) rfl rfl rfl rfl rfl rfl rfl rfl rfl ?_) | ((with_reducible refine g_alloc ?_); first | refine lx_alloc rfl rfl rfl rfl rfl rfl rfl ?_) | ((with_reducible refine g_store ?_); first | refine lx_store_var (r := (.t (.agg _))) rfl rfl rfl rfl rfl rfl rfl rfl rfl rfl ?_) | ((with_reducible refine g_nilCheck ?_); first | refine lx_nilCheck (r := (.ref _ _ _ _)) rfl rfl rfl rfl rfl rfl ?_) | ((with_reducible refine g_unOp ?_); first | refine lx_not rfl rfl rfl rfl rfl ?_) | ((with_reducible refine g_extract ?_); first | refine lx_extract rfl rfl rfl rfl rfl rfl ?_) | ((with_reducible refine g_build ?_); first | refine lx_build (r := (.t (.agg _))) rfl rfl rfl rfl rfl rfl rfl ?_) | ((with_reducible refine g_call ?_); first | refine lx_call (r' := .t (.bool true)) [] rfl rfl hV (ArgsLE.refl _) rfl ⟨rfl, rfl, trivial⟩ rfl rfl rfl rfl rfl rfl rfl rfl rfl rfl ?_ | refine lx_call (r' := .tup [.t (.str es), .t (.int .i64 en)]) [] rfl rfl hE (ArgsLE.refl _) rfl ⟨rfl, rfl, trivial⟩ rfl rfl rfl rfl rfl rfl rfl rfl rfl rfl ?_) | refine c_condN rfl (fun hc => ?_) (fun hc => ?_) | refine lx_splitN rfl (fun hc => ?_) (fun hc => ?_))
          all_goals try (exact absurd ‹en = 0› h0)
          all_goals refine q_ret ?_ (stHas_spec ⟨rfl, rfl, rfl, trivial⟩); refine resT_cell_tmp rfl rfl rfl inferInstance rfl inferInstance rfl ?_ ?_; exact TLe.av (by repeat first | exact TLe.refl _ | exact TLe.nil _ | exact TLe.esl _ | refine TLe.agg ?_ | refine TLs.cons ?_ ?_ | exact TLs.nil); exact AVLE.refl _
    · rw [if_neg (fun h => hrs h.2.1)] at hres
      obtain ⟨f1, f2⟩ := fail hres
      rw [f1, f2, hT]
      refine spec_intro (env0 := [(0, _), (1, _), (2, _), (3, _)]) (st0 := [(_, some _), (_, some _), (_, some _)]) Tryd.func61 rfl rfl rfl rfl ?_
      repeat' (first | (with_reducible refine codeT_seq ?_) | (with_reducible refine codeT_ret ?_) | (with_reducible refine codeT_regionL ?_) | (with_reducible refine lx_nil ?_) | (with_reducible refine q_then ?_) | (with_reducible refine q_then_ret ?_) | refine c_condT rfl ?_ | ((with_reducible refine g_guard ?_); first | refine lx_skip rfl rfl rfl ?_) | ((with_reducible refine g_move ?_); first | refine lx_move (r := (.t _)) rfl rfl rfl rfl rfl ?_ | refine lx_move (r := (.ref _ _ _ _)) rfl rfl rfl rfl rfl ?_) | ((with_reducible refine g_load ?_); first | refine lx_load_var rfl rfl rfl rfl rfl rfl rfl rfl ?_ | refine lx_load_varA (r := (.t (.agg _))) rfl rfl rfl rfl rfl rfl rfl rfl rfl ?_) | ((with_reducible refine g_fieldAddr ?_); first | refine lx_fieldAddr rfl rfl rfl rfl rfl rfl rfl ?_) | ((with_reducible refine g_binOp ?_); first | refine lx_str_ne rfl rfl rfl rfl rfl rfl ?_) | ((with_reducible refine g_assign ?_); first | refine lx_assign (r := (.t _)) rfl rfl rfl rfl rfl ?_) | ((with_reducible refine g_pick ?_); first | refine lx_pickT (r := (.t _)) rfl rfl rfl rfl rfl rfl ?_ | refine lx_pickF (r := (.t _)) rfl rfl rfl rfl rfl rfl ?_) | ((with_reducible refine g_box ?_); first | refine lx_box (r := (.t (.agg _))) (cs := (List.map .t _)) rfl rfl rfl rfl rfl rfl rfl rfl rfl ?_) | ((with_reducible refine g_alloc ?_); first | refine lx_alloc rfl rfl rfl rfl rfl rfl rfl ?_) | ((with_reducible refine g_store ?_); first | refine lx_store_var (r := (.t (.agg _))) rfl rfl rfl rfl rfl rfl rfl rfl rfl rfl ?_) | ((with_reducible refine g_nilCheck ?_); first | refine lx_nilCheck (r := (.ref _ _ _ _)) rfl rfl rfl rfl rfl rfl ?_) | ((with_reducible refine g_build ?_); first | refine lx_build (r := (.t (.agg _))) rfl rfl rfl rfl rfl rfl rfl ?_) | ((with_reducible refine g_call ?_); first | exact absurd ‹_› hrs) | refine lx_splitN rfl (fun hc => ?_) (fun hc => ?_))
      refine q_ret ?_ (stHas_spec ⟨rfl, rfl, rfl, trivial⟩); refine resT_cell_tmp rfl rfl rfl inferInstance rfl inferInstance rfl ?_ ?_; exact TLe.av (by repeat first | exact TLe.refl _ | exact TLe.nil _ | exact TLe.esl _ | refine TLe.agg ?_ | refine TLs.cons ?_ ?_ | exact TLs.nil); exact AVLE.refl _

end Go.AL
