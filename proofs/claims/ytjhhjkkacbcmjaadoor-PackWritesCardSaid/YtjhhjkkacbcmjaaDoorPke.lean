/- What the document's numbers and texts of the third serialisation answer. -/
import Derived.Test.YtjhhjkkacbcmjaaDoorPkc
import Derived.Test.YtjhhjkkacbcmjaaDoorCbo5
import Derived.Test.YtjhhjkkacbcmjaaDoorCbo2
set_option linter.unusedVariables false
namespace Go.AL
open Go Go.Proofs Go.RowKit

set_option maxHeartbeats 2000000 in
theorem qBig_spec (n : Nat) (hn : n < 18446744073709551616) (k : Nat) (hk1 : 1 ≤ k) (hk : k ≤ 8) : Spec Tryd.prog 93 [.t (.int .u64 (n : Int)), .t (.int .i64 (k : Int))] [] (.t (.str (ofL (bigL k n)))) [] := by
  refine spec_intro (env0 := [(0, _), (1, _)]) (st0 := []) Tryd.func93 rfl rfl rfl rfl ?_
  repeat' (first | (with_reducible refine codeT_seq ?_) | (with_reducible refine codeT_block ?_) | (with_reducible refine codeT_regionL ?_) | (with_reducible refine lx_nil ?_) | (with_reducible refine q_then ?_) | ((with_reducible refine g_move ?_); first | refine lx_move (r := (.t _)) rfl rfl rfl rfl rfl ?_) | ((with_reducible refine g_binOp ?_); first | refine lx_arith rfl rfl rfl rfl rfl rfl rfl ?_) | ((with_reducible refine g_assign ?_); first | refine lx_assign (r := (.t _)) rfl rfl rfl rfl rfl ?_))
  refine codeT_ghost (ghost_nilL 5 (.loc 900) 5 1 rfl rfl rfl) ?_
  refine codeT_ghost (ghost_keep2 [0, 5, 6] [.loc 900] rfl rfl) ?_
  refine codeT_loop (fun p env st => ∃ (c : Nat) (xs : List T), c ≤ 8 ∧ p = c ∧ xs.length + c = k ∧ xs ++ u8L (bigL c n) = u8L (bigL k n) ∧
      env = EnvL.get [(0, .t (.int .u64 (n : Int))), (5, .row (.loc 900)), (6, .t (.int .i64 ((c : Int) - 1)))] ∧ st = StO.get [(.loc 900, some (.slt 5 1 xs))])
    ?_ (n := k) ⟨k, [], hk, rfl, by simp, by simp, ?_, rfl⟩
  rotate_left
  · rw [wrap64 (by omega) (by omega)]; rfl
  rintro p env st ⟨c, xs, hc8, rfl, hlen, hi, rfl, rfl⟩
  repeat' (first | (with_reducible refine codeT_seq ?_) | (with_reducible refine codeT_block ?_) | (with_reducible refine codeT_skip ?_) | (with_reducible refine codeT_ret ?_) | (with_reducible refine codeT_exit ?_) | (with_reducible refine codeT_regionL ?_) | (with_reducible refine lx_nil ?_) | (with_reducible refine q_then ?_) | (with_reducible refine q_then_exit ?_) | (with_reducible refine q_block ?_) | ((with_reducible refine q_block_same ?_ ?_); · rfl) | (with_reducible refine q_loop_exit ?_) | ((with_reducible refine g_move ?_); first | refine lx_move (r := (.t _)) rfl rfl rfl rfl rfl ?_ | refine lx_move (r := (.row _)) rfl rfl rfl rfl rfl ?_) | ((with_reducible refine g_binOp ?_); first | refine lx_arith rfl rfl rfl rfl rfl rfl rfl ?_ | refine lx_shr rfl rfl rfl rfl rfl rfl ?_ ?_) | ((with_reducible refine g_assign ?_); first | refine lx_assign (r := (.t _)) rfl rfl rfl rfl rfl ?_ | refine lx_assign (r := (.row _)) rfl rfl rfl rfl rfl ?_) | ((with_reducible refine g_convert ?_); first | refine lx_conv_int rfl rfl rfl rfl rfl ?_ | refine lx_ofBytes_row rfl rfl rfl rfl rfl rfl ?_ ?_) | ((with_reducible refine g_buildSlice ?_); first | refine lx_buildSlice rfl rfl rfl rfl rfl rfl rfl ?_) | ((with_reducible refine g_append ?_); first | refine lx_append_row rfl rfl rfl rfl rfl rfl rfl rfl rfl rfl ?_ ?_ ?_) | refine c_condP rfl (fun hc => ?_) (fun hc => ?_))
  · rw [wrap64 (by omega) (by omega), wrapU64 (by omega) (by omega)]; omega
  · simp; omega
  · simp; omega
  · obtain ⟨c, rfl⟩ : ∃ c, p = c + 1 := ⟨p - 1, by omega⟩
    refine q_loop (n' := c) (by omega) ((ghost_keep2 [0, 5, 6] [.loc 21] rfl rfl).trans (ghost_renL2 (.loc 21) (.loc 900) rfl rfl rfl rfl)) ⟨c, _, by omega, rfl, ?_, ?_, ?_, rfl⟩
    · simp; omega
    · rw [← hi, List.append_assoc]
      congr 1
      have e : (min (IntKind.u64.wrap (IntKind.i64.wrap (8 * ((c + 1 : Nat) - 1 : Int)))).toNat IntKind.u64.bits) = 8 * c := by
        rw [wrap64 (by omega) (by omega), wrapU64 (by omega) (by omega)]
        have : IntKind.u64.bits = 64 := rfl
        omega
      rw [e, shr_byte]
      rfl
    · rw [wrap64 (by omega) (by omega)]
      rw [show ((c + 1 : Nat) : Int) - 1 - 1 = (c : Int) - 1 by omega]
      rfl
  · obtain rfl : p = 0 := by omega
    simp only [bigL, u8L, List.map_nil, List.append_nil] at hi
    rw [hi]
    exact u8L_isU8 _
  · obtain rfl : p = 0 := by omega
    simp only [bigL, u8L, List.map_nil, List.append_nil] at hi
    subst hi
    exact q_ret (resT_oneE rfl rfl (congrArg T.str (strT_u8L _))) (by simp)
set_option maxHeartbeats 2000000 in
theorem qOne_spec (b : Int) : Spec Tryd.prog 94 [.t (.int .i64 b)] [] (.t (.str (strT [.int .u8 (IntKind.u8.wrap b)]))) [] := by
  refine spec_intro (env0 := [(0, _)]) (st0 := []) Tryd.func94 rfl rfl rfl rfl ?_
  repeat' (first | (with_reducible refine codeT_seq ?_) | (with_reducible refine codeT_ret ?_) | (with_reducible refine codeT_regionL ?_) | (with_reducible refine lx_nil ?_) | (with_reducible refine q_then ?_) | ((with_reducible refine g_move ?_); first | refine lx_move (r := (.t _)) rfl rfl rfl rfl rfl ?_) | ((with_reducible refine g_assign ?_); first | refine lx_assign (r := (.t _)) rfl rfl rfl rfl rfl ?_) | ((with_reducible refine g_convert ?_); first | refine lx_conv_int rfl rfl rfl rfl rfl ?_ | refine lx_ofBytes_row rfl rfl rfl rfl rfl rfl ?_ ?_) | ((with_reducible refine g_buildSlice ?_); first | refine lx_buildSlice rfl rfl rfl rfl rfl rfl rfl ?_))
  all_goals try exact isU8_one _
  exact q_ret (resT_oneE rfl rfl rfl) (by simp)
theorem oneN {b : Nat} (h : b < 256) : strT [T.int .u8 (IntKind.u8.wrap (b : Int))] = ofL [UInt8.ofNat b] := by
  have : IntKind.u8.wrap (b : Int) = ((UInt8.ofNat b).toNat : Int) := by
    rw [wrapU8 (by omega) (by omega), UInt8.toNat_ofNat']; omega
  rw [this]
  exact strT_u8L [UInt8.ofNat b]
theorem oneM (n : Int) : strT [T.int .u8 (IntKind.u8.wrap n)] = ofL [UInt8.ofNat (n % 256).toNat] := by
  have : IntKind.u8.wrap n = ((UInt8.ofNat (n % 256).toNat).toNat : Int) := by
    simp only [IntKind.wrap, IntKind.bits, IntKind.signed, Bool.false_and, Bool.false_eq_true, if_false]
    rw [UInt8.toNat_ofNat']; omega
  rw [this]
  exact strT_u8L [UInt8.ofNat (n % 256).toNat]
theorem ofL_cons (a : UInt8) (l : List UInt8) : ofL [a] ++ ofL l = ofL (a :: l) := ofL_append [a] l
set_option maxHeartbeats 8000000 in
theorem qNum_spec (n : Int) (h0 : -9223372036854775808 ≤ n) (h1 : n ≤ 9223372036854775807) : Spec Tryd.prog 91 [.t (.int .i64 n)] [] (.t (.str (ofL (pNum n)))) [] := by
  have hu : IntKind.u64.wrap n = ((u64n n : Nat) : Int) := by
    unfold u64n
    simp only [IntKind.wrap, IntKind.bits, IntKind.signed, Bool.false_and, Bool.false_eq_true, if_false]
    omega
  have hun : u64n n < 18446744073709551616 := by unfold u64n; omega
  have b0 := qOne_spec n
  rw [oneM] at b0
  have b1 : Spec Tryd.prog 93 [.t (.int .u64 (IntKind.u64.wrap n)), .t (.int .i64 1)] [] (.t (.str (ofL (bigL 1 (u64n n))))) [] := by rw [hu]; exact qBig_spec _ hun 1 (by omega) (by omega)
  have b2 : Spec Tryd.prog 93 [.t (.int .u64 (IntKind.u64.wrap n)), .t (.int .i64 2)] [] (.t (.str (ofL (bigL 2 (u64n n))))) [] := by rw [hu]; exact qBig_spec _ hun 2 (by omega) (by omega)
  have b4 : Spec Tryd.prog 93 [.t (.int .u64 (IntKind.u64.wrap n)), .t (.int .i64 4)] [] (.t (.str (ofL (bigL 4 (u64n n))))) [] := by rw [hu]; exact qBig_spec _ hun 4 (by omega) (by omega)
  have b8 : Spec Tryd.prog 93 [.t (.int .u64 (IntKind.u64.wrap n)), .t (.int .i64 8)] [] (.t (.str (ofL (bigL 8 (u64n n))))) [] := by rw [hu]; exact qBig_spec _ hun 8 (by omega) (by omega)
  have hR : ofL (pNum n) = if -32 ≤ n ∧ n < 128 then ofL [UInt8.ofNat (n % 256).toNat] else if 0 < n ∧ n < 256 then ⟨#[204]⟩ ++ ofL (bigL 1 (u64n n)) else if 0 < n ∧ n < 65536 then ⟨#[205]⟩ ++ ofL (bigL 2 (u64n n)) else if 0 < n ∧ n < 4294967296 then ⟨#[206]⟩ ++ ofL (bigL 4 (u64n n)) else if 0 < n then ⟨#[207]⟩ ++ ofL (bigL 8 (u64n n)) else if -128 ≤ n then ⟨#[208]⟩ ++ ofL (bigL 1 (u64n n)) else if -32768 ≤ n then ⟨#[209]⟩ ++ ofL (bigL 2 (u64n n)) else if -2147483648 ≤ n then ⟨#[210]⟩ ++ ofL (bigL 4 (u64n n)) else ⟨#[211]⟩ ++ ofL (bigL 8 (u64n n)) := by
    have e (a : UInt8) (l : List UInt8) : (⟨#[a]⟩ : ByteArray) ++ ofL l = ofL (a :: l) := ofL_cons a l
    simp only [e]
    unfold pNum
    repeat' split
    all_goals first | rfl | (exfalso; omega)
  have z (k : Nat) : (ofL (bigL k (u64n n))).size = k := by rw [ofL_size, bigL_len]
  have z1 := z 1
  have z2 := z 2
  have z4 := z 4
  have z8 := z 8
  clear z
  generalize ofL (bigL 1 (u64n n)) = B1 at *
  generalize ofL (bigL 2 (u64n n)) = B2 at *
  generalize ofL (bigL 4 (u64n n)) = B4 at *
  generalize ofL (bigL 8 (u64n n)) = B8 at *
  generalize ofL [UInt8.ofNat (n % 256).toNat] = B0 at *
  generalize ofL (pNum n) = R at hR ⊢
  refine spec_intro (env0 := [(0, _)]) (st0 := []) Tryd.func91 rfl rfl rfl rfl ?_
  repeat' (first | (with_reducible refine codeT_seq ?_) | (with_reducible refine codeT_block ?_) | (with_reducible refine codeT_skip ?_) | (with_reducible refine codeT_ret ?_) | (with_reducible refine codeT_regionL ?_) | (with_reducible refine lx_nil ?_) | (with_reducible refine q_then ?_) | (with_reducible refine q_then_ret ?_) | (with_reducible refine q_block ?_) | (with_reducible refine q_block_ret ?_) | refine c_condF rfl ?_ | ((with_reducible refine g_guard ?_); first | refine lx_skip rfl rfl rfl ?_) | ((with_reducible refine g_move ?_); first | refine lx_move (r := (.t _)) rfl rfl rfl rfl rfl ?_) | ((with_reducible refine g_binOp ?_); first | refine lx_arith rfl rfl rfl rfl rfl rfl rfl ?_ | refine lx_concat rfl rfl rfl rfl rfl rfl ?_ ?_) | ((with_reducible refine g_assign ?_); first | refine lx_assign (r := (.t _)) rfl rfl rfl rfl rfl ?_) | ((with_reducible refine g_pick ?_); first | refine lx_pickT (r := (.t _)) rfl rfl rfl rfl rfl rfl ?_ | refine lx_pickF (r := (.t _)) rfl rfl rfl rfl rfl rfl ?_) | ((with_reducible refine g_convert ?_); first | refine lx_conv_int rfl rfl rfl rfl rfl ?_) | ((with_reducible refine g_call ?_); first | refine lx_callT rfl rfl b0 rfl rfl (ArgsLE.refl _) rfl rfl rfl rfl rfl ?_ | refine lx_callT rfl rfl b1 rfl rfl (ArgsLE.refl _) rfl rfl rfl rfl rfl ?_ | refine lx_callT rfl rfl b2 rfl rfl (ArgsLE.refl _) rfl rfl rfl rfl rfl ?_ | refine lx_callT rfl rfl b4 rfl rfl (ArgsLE.refl _) rfl rfl rfl rfl rfl ?_ | refine lx_callT rfl rfl b8 rfl rfl (ArgsLE.refl _) rfl rfl rfl rfl rfl ?_) | refine c_condP rfl (fun hc => ?_) (fun hc => ?_) | refine lx_splitP rfl (fun hc => ?_) (fun hc => ?_))
  all_goals try (show (1 : Nat) + _ ≤ _; omega)
  all_goals try (exfalso; omega)
  all_goals (refine q_ret (resT_oneE rfl rfl (congrArg T.str ?_)) (by simp); rw [hR]; repeat (first | rw [if_pos (by omega)] | rw [if_neg (by omega)]))
set_option maxHeartbeats 8000000 in
theorem qText_spec (s : ByteArray) (hs : s.size < 4294967296) : Spec Tryd.prog 92 [.t (.str s)] [] (.t (.str (ofL (pTx s)))) [] := by
  have hu : IntKind.u64.wrap (s.size : Int) = ((s.size : Nat) : Int) := wrapU64 (by omega) (by omega)
  have b0 := qOne_spec (IntKind.i64.wrap (160 + (s.size : Int)))
  have b1 : Spec Tryd.prog 93 [.t (.int .u64 (IntKind.u64.wrap (s.size : Int))), .t (.int .i64 1)] [] (.t (.str (ofL (bigL 1 s.size)))) [] := by rw [hu]; exact qBig_spec _ (by omega) 1 (by omega) (by omega)
  have b2 : Spec Tryd.prog 93 [.t (.int .u64 (IntKind.u64.wrap (s.size : Int))), .t (.int .i64 2)] [] (.t (.str (ofL (bigL 2 s.size)))) [] := by rw [hu]; exact qBig_spec _ (by omega) 2 (by omega) (by omega)
  have b4 : Spec Tryd.prog 93 [.t (.int .u64 (IntKind.u64.wrap (s.size : Int))), .t (.int .i64 4)] [] (.t (.str (ofL (bigL 4 s.size)))) [] := by rw [hu]; exact qBig_spec _ (by omega) 4 (by omega) (by omega)
  have hR : ofL (pTx s) = if s.size < 32 then strT [.int .u8 (IntKind.u8.wrap (IntKind.i64.wrap (160 + (s.size : Int))))] ++ s else if s.size < 256 then ⟨#[217]⟩ ++ ofL (bigL 1 s.size) ++ s else if s.size < 65536 then ⟨#[218]⟩ ++ ofL (bigL 2 s.size) ++ s else ⟨#[219]⟩ ++ ofL (bigL 4 s.size) ++ s := by
    have e (a : UInt8) (l : List UInt8) : (⟨#[a]⟩ : ByteArray) ++ ofL l = ofL (a :: l) := ofL_cons a l
    have e0 : ofL (pTx s) = ofL (pTh s.size) ++ s := by unfold pTx; rw [← ofL_append, ofL_of]
    rw [e0]
    simp only [e]
    unfold pTh
    repeat' split
    · rw [wrap64 (by omega) (by omega), show (160 + (s.size : Int)) = ((160 + s.size : Nat) : Int) by omega, oneN (by omega)]
    all_goals first | rfl | (exfalso; omega)
  have z (k : Nat) : (ofL (bigL k s.size)).size = k := by rw [ofL_size, bigL_len]
  have z1 := z 1
  have z2 := z 2
  have z4 := z 4
  clear z
  have z0 := strT_len [.int .u8 (IntKind.u8.wrap (IntKind.i64.wrap (160 + (s.size : Int))))]
  generalize ofL (bigL 1 s.size) = B1 at *
  generalize ofL (bigL 2 s.size) = B2 at *
  generalize ofL (bigL 4 s.size) = B4 at *
  generalize strT [.int .u8 (IntKind.u8.wrap (IntKind.i64.wrap (160 + (s.size : Int))))] = B0 at *
  generalize ofL (pTx s) = R at hR ⊢
  refine spec_intro (env0 := [(0, _)]) (st0 := []) Tryd.func92 rfl rfl rfl rfl ?_
  repeat' (first | refine c_condP rfl (fun hc => ?_) (fun hc => ?_) | (with_reducible refine codeT_seq ?_) | (with_reducible refine codeT_block ?_) | (with_reducible refine codeT_skip ?_) | (with_reducible refine codeT_ret ?_) | (with_reducible refine codeT_regionL ?_) | (with_reducible refine lx_nil ?_) | (with_reducible refine q_then ?_) | (with_reducible refine q_then_ret ?_) | (with_reducible refine q_block ?_) | (with_reducible refine q_block_ret ?_) | ((with_reducible refine g_move ?_); first | refine lx_move (r := (.t _)) rfl rfl rfl rfl rfl ?_) | ((with_reducible refine g_binOp ?_); first | refine lx_arith rfl rfl rfl rfl rfl rfl rfl ?_ | refine lx_concat rfl rfl rfl rfl rfl rfl ?_ ?_) | ((with_reducible refine g_assign ?_); first | refine lx_assign (r := (.t _)) rfl rfl rfl rfl rfl ?_) | ((with_reducible refine g_convert ?_); first | refine lx_conv_int rfl rfl rfl rfl rfl ?_) | ((with_reducible refine g_len ?_); first | refine lx_len_str rfl rfl rfl rfl rfl ?_) | ((with_reducible refine g_call ?_); first | refine lx_callT rfl rfl b0 rfl rfl (ArgsLE.refl _) rfl rfl rfl rfl rfl ?_ | refine lx_callT rfl rfl b1 rfl rfl (ArgsLE.refl _) rfl rfl rfl rfl rfl ?_ | refine lx_callT rfl rfl b2 rfl rfl (ArgsLE.refl _) rfl rfl rfl rfl rfl ?_ | refine lx_callT rfl rfl b4 rfl rfl (ArgsLE.refl _) rfl rfl rfl rfl rfl ?_))
  all_goals try (show (1 : Nat) + _ ≤ _; omega)
  all_goals try (rw [ByteArray.size_append]; show (1 : Nat) + _ + _ ≤ _; omega)
  all_goals try (rw [z0]; show (1 : Nat) + _ ≤ _; omega)
  all_goals try (exfalso; omega)
  all_goals (refine q_ret (resT_oneE rfl rfl (congrArg T.str ?_)) (by simp); rw [hR]; repeat (first | rw [if_pos (by omega)] | rw [if_neg (by omega)]))
end Go.AL
/- What the document's Write and Encode of the third serialisation answer. -/
set_option linter.unusedVariables false
namespace Go.AL
open Go Go.Proofs Go.RowKit

theorem cn_str (few many n : Nat) (hn : n ≤ 256) (hf : few + n < 256 ∨ 16 ≤ n) : ofL (pCn few many n) = if n < 16 then strT [.int .u8 (IntKind.u8.wrap (IntKind.i64.wrap ((few : Int) + (n : Int))))] else ofL (UInt8.ofNat many :: bigL 2 n) := by
  unfold pCn
  split
  · rw [wrap64 (by omega) (by omega), show ((few : Int) + (n : Int)) = ((few + n : Nat) : Int) by omega, oneN (by omega)]
  · rfl
set_option maxHeartbeats 8000000 in
theorem qWrite_seq (k : Int) (hk45 : k = 4 ∨ k = 5) (b : Bool) (n : Int) (t : ByteArray) (ns : List ByteArray) (is : List Nd) (hlen : is.length ≤ 256) (hk : k = 5 → ns.length = is.length)
    (hns : ∀ s ∈ ns, s.size ≤ 65536) (hb : (pCn (pFew k) (pMany k) is.length).length + (preP k ns is is.length).length ≤ 50000000)
    (IH : ∀ i, i < is.length → (is.getD i default).pb.length ≤ 50000000 → Spec Tryd.prog 65 [.t (is.getD i default).toT] [] (.t (.str (ofL (is.getD i default).pb))) []) :
    Spec Tryd.prog 65 [.t (.agg [.int .i64 k, .bool b, .int .i64 n, .str t, .sl 1 (ns.map .str), .sl 6 (is.map Nd.toT)])] [] (.t (.str (ofL (pCn (pFew k) (pMany k) is.length ++ preP k ns is is.length)))) [] := by
  have hu : IntKind.u64.wrap (is.length : Int) = ((is.length : Nat) : Int) := wrapU64 (by omega) (by omega)
  have b2 : Spec Tryd.prog 93 [.t (.int .u64 (IntKind.u64.wrap (is.length : Int))), .t (.int .i64 2)] [] (.t (.str (ofL (bigL 2 is.length)))) [] := by rw [hu]; exact qBig_spec _ (by omega) 2 (by omega) (by omega)
  have z2 : (ofL (bigL 2 is.length)).size = 2 := by rw [ofL_size, bigL_len]
  have o4 := qOne_spec (IntKind.i64.wrap (144 + (is.length : Int)))
  have o5 := qOne_spec (IntKind.i64.wrap (128 + (is.length : Int)))
  have h4 := cn_str 144 220 is.length hlen (by omega)
  have h5 := cn_str 128 222 is.length hlen (by omega)
  have hmono := fun i j (hij : i ≤ j) (hj : j ≤ is.length) => preP_mono (k := k) hk hij hj
  have e1 (a : UInt8) : (⟨#[a]⟩ : ByteArray) ++ ofL (bigL 2 is.length) = ofL (a :: bigL 2 is.length) := ofL_cons a _
  rw [← show (⟨#[220]⟩ : ByteArray) ++ ofL (bigL 2 is.length) = ofL (UInt8.ofNat 220 :: bigL 2 is.length) from e1 _] at h4
  rw [← show (⟨#[222]⟩ : ByteArray) ++ ofL (bigL 2 is.length) = ofL (UInt8.ofNat 222 :: bigL 2 is.length) from e1 _] at h5
  clear e1
  generalize ofL (bigL 2 is.length) = B2 at *
  obtain rfl | rfl := hk45
  · rw [show pFew 4 = 144 from rfl, show pMany 4 = 220 from rfl] at *
    obtain ⟨H0, hH0⟩ : ∃ H, H = pCn 144 220 is.length := ⟨_, rfl⟩
    rw [← hH0] at h4 hb ⊢
    have ha : (is.length : Int) < 16 → strT [.int .u8 (IntKind.u8.wrap (IntKind.i64.wrap (144 + (is.length : Int))))] = ofL H0 := fun h => by rw [h4, if_pos (by omega)]; rfl
    have hb' : ¬ (is.length : Int) < 16 → (⟨#[220]⟩ : ByteArray) ++ B2 = ofL H0 := fun h => by rw [h4, if_neg (by omega)]
    refine spec_intro (env0 := [(0, _)]) (st0 := []) Tryd.func65 rfl rfl rfl rfl ?_
    repeat' (first | (with_reducible refine codeT_seq ?_) | (with_reducible refine codeT_block ?_) | (with_reducible refine codeT_skip ?_) | (with_reducible refine codeT_regionL ?_) | (with_reducible refine lx_nil ?_) | (with_reducible refine q_then ?_) | (with_reducible refine q_block ?_) | refine c_condT rfl ?_ | refine c_condF rfl ?_ | ((with_reducible refine g_move ?_); first | refine lx_move (r := (.t _)) rfl rfl rfl rfl rfl ?_) | ((with_reducible refine g_load ?_); first | refine lx_load_var rfl rfl rfl rfl rfl rfl rfl rfl ?_) | ((with_reducible refine g_fieldAddr ?_); first | refine lx_fieldAddr rfl rfl rfl rfl rfl rfl rfl ?_) | ((with_reducible refine g_binOp ?_); first | refine lx_arith rfl rfl rfl rfl rfl rfl rfl ?_ | refine lx_concat rfl rfl rfl rfl rfl rfl ?_ ?_) | ((with_reducible refine g_assign ?_); first | refine lx_assign (r := (.t _)) rfl rfl rfl rfl rfl ?_) | ((with_reducible refine g_box ?_); first | refine lx_box (r := (.t (.agg _))) (cs := (List.map .t _)) rfl rfl rfl rfl rfl rfl rfl rfl rfl ?_) | ((with_reducible refine g_convert ?_); first | refine lx_conv_int rfl rfl rfl rfl rfl ?_) | ((with_reducible refine g_len ?_); first | refine lx_len_map rfl rfl rfl rfl rfl ?_) | ((with_reducible refine g_call ?_); first | refine lx_callT rfl rfl b2 rfl rfl (ArgsLE.refl _) rfl rfl rfl rfl rfl ?_ | refine lx_callT rfl rfl o4 rfl rfl (ArgsLE.refl _) rfl rfl rfl rfl rfl ?_) | refine c_condP rfl (fun hc => ?_) (fun hc => ?_))
    · show 1 + _ ≤ _; omega
    all_goals first | rw [ha hc] | rw [hb' hc]
    all_goals (clear ha hb' h4 hc)
    all_goals (refine codeT_ghost (ghost_keep2 [1, 4, 49, 50, 51] [.loc 1] rfl rfl) ?_)
    all_goals
     refine codeT_loop (fun p env st => ∃ (j : Nat) (S : ByteArray), j ≤ is.length ∧ p = is.length - j ∧ S = ofL (H0 ++ preP 4 ns is j) ∧
        env = EnvL.get [(1, .ref (.loc 1) 0 0 0), (4, .t (.str S)), (49, .t (.sl 6 (is.map Nd.toT))), (50, .t (.int .i64 is.length)), (51, .t (.int .i64 (j : Int)))] ∧
        st = StO.get [(.loc 1, some (.var 26 [.t (.int .i64 4), .t (.bool b), .t (.int .i64 n), .t (.str t), .t (.sl 1 (ns.map .str)), .t (.sl 6 (is.map Nd.toT))]))])
      ?_ (n := is.length) ⟨0, ofL H0, by omega, rfl, by simp [preP, Nd.pbs, Nd.pbm], rfl, rfl⟩
    all_goals
      rintro p env st ⟨j, S, hj, rfl, hS, rfl, rfl⟩
      by_cases hlt : j < is.length
      · have hle := hmono (j + 1) is.length (by omega) (by omega)
        rw [preP_list (by decide) hlt, List.length_append] at hle
        have hP := IH j hlt (by omega)
        have hsz : S.size = H0.length + (preP 4 ns is j).length := by rw [hS, ofL_size, List.length_append]
        have hT := (is.getD j default).toT_full
        rw [hT] at hP
        have hw : ofL (H0 ++ preP 4 ns is (j + 1)) = S ++ ofL (is.getD j default).pb := by
          rw [preP_list (by decide) hlt, hS, ofL_append, List.append_assoc]
        obtain ⟨W, hW⟩ : ∃ W, W = ofL (is.getD j default).pb := ⟨_, rfl⟩
        have hWs : W.size = (is.getD j default).pb.length := by rw [hW, ofL_size]
        rw [← hW] at hP hw
        have hg : is.getD (j : Int).toNat default = is.getD j default := rfl
        repeat' (first | (with_reducible refine codeT_seq ?_) | (with_reducible refine codeT_block ?_) | (with_reducible refine codeT_skip ?_) | (with_reducible refine codeT_ret ?_) | (with_reducible refine codeT_exit ?_) | (with_reducible refine codeT_regionL ?_) | (with_reducible refine lx_nil ?_) | (with_reducible refine q_then ?_) | (with_reducible refine q_then_exit ?_) | (with_reducible refine q_block ?_) | ((with_reducible refine q_block_same ?_ ?_); · rfl) | (with_reducible refine q_loop_exit ?_) | refine c_condF rfl ?_ | refine lx_load_tpAE rfl rfl hT rfl rfl rfl rfl rfl rfl ?_ | ((with_reducible refine g_move ?_); first | refine lx_move (r := (.t _)) rfl rfl rfl rfl rfl ?_) | ((with_reducible refine g_load ?_); first | refine lx_load_var rfl rfl rfl rfl rfl rfl rfl rfl ?_ | refine lx_load_varA (r := (.t (.agg _))) rfl rfl rfl rfl rfl rfl rfl rfl rfl ?_) | ((with_reducible refine g_fieldAddr ?_); first | refine lx_fieldAddr rfl rfl rfl rfl rfl rfl rfl ?_) | ((with_reducible refine g_binOp ?_); first | refine lx_arith rfl rfl rfl rfl rfl rfl rfl ?_ | refine lx_concat rfl rfl rfl rfl rfl rfl ?_ ?_) | ((with_reducible refine g_assign ?_); first | refine lx_assign (r := (.t _)) rfl rfl rfl rfl rfl ?_) | ((with_reducible refine g_alloc ?_); first | refine lx_alloc rfl rfl rfl rfl rfl rfl rfl ?_) | ((with_reducible refine g_store ?_); first | refine lx_store_var (r := (.t (.agg _))) rfl rfl rfl rfl rfl rfl rfl rfl rfl rfl ?_) | ((with_reducible refine g_indexAddr ?_); first | refine lx_indexAddr_map rfl rfl rfl rfl rfl rfl ?_ ?_ ?_) | ((with_reducible refine g_call ?_); first | refine lx_callT rfl rfl hP rfl rfl (ArgsLE.refl _) rfl rfl rfl rfl rfl ?_) | refine c_condP rfl (fun hc => ?_) (fun hc => ?_))
        all_goals try omega
        all_goals try (simp only [ByteArray.size_append] at *; omega)
        all_goals try (exfalso; omega)
        exact q_loop (n' := is.length - (j + 1)) (by omega) (ghost_keep2 [1, 4, 49, 50, 51] [.loc 1] rfl rfl) ⟨j + 1, _, by omega, rfl, hw.symm, by rw [wrap64 (by omega) (by omega)]; rfl, rfl⟩
      · repeat' (first | (with_reducible refine codeT_seq ?_) | (with_reducible refine codeT_block ?_) | (with_reducible refine codeT_skip ?_) | (with_reducible refine codeT_ret ?_) | (with_reducible refine codeT_exit ?_) | (with_reducible refine codeT_regionL ?_) | (with_reducible refine lx_nil ?_) | (with_reducible refine q_then ?_) | (with_reducible refine q_then_exit ?_) | ((with_reducible refine q_block_same ?_ ?_); · rfl) | (with_reducible refine q_loop_exit ?_) | ((with_reducible refine g_move ?_); first | refine lx_move (r := (.t _)) rfl rfl rfl rfl rfl ?_) | ((with_reducible refine g_binOp ?_); first | refine lx_arith rfl rfl rfl rfl rfl rfl rfl ?_) | ((with_reducible refine g_assign ?_); first | refine lx_assign (r := (.t _)) rfl rfl rfl rfl rfl ?_) | ((with_reducible refine g_indexAddr ?_); first | refine lx_indexAddr_map rfl rfl rfl rfl rfl rfl ?_ ?_ ?_) | refine c_condP rfl (fun hc => ?_) (fun hc => ?_))
        all_goals try (exfalso; omega)
        obtain rfl : j = is.length := by omega
        exact q_ret (resT_oneE rfl rfl (congrArg T.str hS)) (by simp)
  · rw [show pFew 5 = 128 from rfl, show pMany 5 = 222 from rfl] at *
    obtain ⟨H0, hH0⟩ : ∃ H, H = pCn 128 222 is.length := ⟨_, rfl⟩
    rw [← hH0] at h5 hb ⊢
    have ha : (is.length : Int) < 16 → strT [.int .u8 (IntKind.u8.wrap (IntKind.i64.wrap (128 + (is.length : Int))))] = ofL H0 := fun h => by rw [h5, if_pos (by omega)]; rfl
    have hb' : ¬ (is.length : Int) < 16 → (⟨#[222]⟩ : ByteArray) ++ B2 = ofL H0 := fun h => by rw [h5, if_neg (by omega)]
    refine spec_intro (env0 := [(0, _)]) (st0 := []) Tryd.func65 rfl rfl rfl rfl ?_
    repeat' (first | (with_reducible refine codeT_seq ?_) | (with_reducible refine codeT_block ?_) | (with_reducible refine codeT_skip ?_) | (with_reducible refine codeT_regionL ?_) | (with_reducible refine lx_nil ?_) | (with_reducible refine q_then ?_) | (with_reducible refine q_block ?_) | refine c_condF rfl ?_ | ((with_reducible refine g_move ?_); first | refine lx_move (r := (.t _)) rfl rfl rfl rfl rfl ?_) | ((with_reducible refine g_load ?_); first | refine lx_load_var rfl rfl rfl rfl rfl rfl rfl rfl ?_) | ((with_reducible refine g_fieldAddr ?_); first | refine lx_fieldAddr rfl rfl rfl rfl rfl rfl rfl ?_) | ((with_reducible refine g_binOp ?_); first | refine lx_arith rfl rfl rfl rfl rfl rfl rfl ?_ | refine lx_concat rfl rfl rfl rfl rfl rfl ?_ ?_) | ((with_reducible refine g_assign ?_); first | refine lx_assign (r := (.t _)) rfl rfl rfl rfl rfl ?_) | ((with_reducible refine g_box ?_); first | refine lx_box (r := (.t (.agg _))) (cs := (List.map .t _)) rfl rfl rfl rfl rfl rfl rfl rfl rfl ?_) | ((with_reducible refine g_convert ?_); first | refine lx_conv_int rfl rfl rfl rfl rfl ?_) | ((with_reducible refine g_len ?_); first | refine lx_len_map rfl rfl rfl rfl rfl ?_) | ((with_reducible refine g_call ?_); first | refine lx_callT rfl rfl b2 rfl rfl (ArgsLE.refl _) rfl rfl rfl rfl rfl ?_ | refine lx_callT rfl rfl o5 rfl rfl (ArgsLE.refl _) rfl rfl rfl rfl rfl ?_) | refine c_condP rfl (fun hc => ?_) (fun hc => ?_))
    · show 1 + _ ≤ _; omega
    all_goals first | rw [ha hc] | rw [hb' hc]
    all_goals (clear ha hb' h5 hc)
    all_goals (refine codeT_ghost (ghost_keep2 [1, 4, 49, 50, 51] [.loc 1] rfl rfl) ?_)
    all_goals
     refine codeT_loop (fun p env st => ∃ (j : Nat) (S : ByteArray), j ≤ is.length ∧ p = is.length - j ∧ S = ofL (H0 ++ preP 5 ns is j) ∧
        env = EnvL.get [(1, .ref (.loc 1) 0 0 0), (4, .t (.str S)), (49, .t (.sl 6 (is.map Nd.toT))), (50, .t (.int .i64 is.length)), (51, .t (.int .i64 (j : Int)))] ∧
        st = StO.get [(.loc 1, some (.var 26 [.t (.int .i64 5), .t (.bool b), .t (.int .i64 n), .t (.str t), .t (.sl 1 (ns.map .str)), .t (.sl 6 (is.map Nd.toT))]))])
      ?_ (n := is.length) ⟨0, ofL H0, by omega, rfl, by simp [preP, Nd.pbs, Nd.pbm], rfl, rfl⟩
    all_goals
      rintro p env st ⟨j, S, hj, rfl, hS, rfl, rfl⟩
      by_cases hlt : j < is.length
      · have hle := hmono (j + 1) is.length (by omega) (by omega)
        have hl5 := hk rfl
        rw [preP_map hl5 hlt, List.length_append, List.length_append] at hle
        have hP := IH j hlt (by omega)
        have hsz : S.size = H0.length + (preP 5 ns is j).length := by rw [hS, ofL_size, List.length_append]
        have hT := (is.getD j default).toT_full
        rw [hT] at hP
        have hsn : (ns.getD j default).size ≤ 65536 := hns _ (by rw [List.getD_eq_getElem?_getD, List.getElem?_eq_getElem (by omega)]; simp)
        have hw : ofL (H0 ++ preP 5 ns is (j + 1)) = S ++ ofL (pTx (ns.getD j default)) ++ ofL (is.getD j default).pb := by
          rw [preP_map hl5 hlt, hS, ofL_append, ofL_append]
          simp only [List.append_assoc]
        obtain ⟨W, hW⟩ : ∃ W, W = ofL (is.getD j default).pb := ⟨_, rfl⟩
        have hWs : W.size = (is.getD j default).pb.length := by rw [hW, ofL_size]
        rw [← hW] at hP hw
        have hH3 := qText_spec (ns.getD (j : Int).toNat default) (by show (ns.getD j default).size < _; omega)
        have hgn : (ns.getD (j : Int).toNat default) = ns.getD j default := rfl
        rw [← hgn] at hw hle
        obtain ⟨H3, hH3e⟩ : ∃ H, H = ofL (pTx (ns.getD (j : Int).toNat default)) := ⟨_, rfl⟩
        have hH3s : H3.size = (pTx (ns.getD (j : Int).toNat default)).length := by rw [hH3e, ofL_size]
        rw [← hH3e] at hH3 hw
        repeat' (first | (with_reducible refine codeT_seq ?_) | (with_reducible refine codeT_block ?_) | (with_reducible refine codeT_skip ?_) | (with_reducible refine codeT_ret ?_) | (with_reducible refine codeT_exit ?_) | (with_reducible refine codeT_regionL ?_) | (with_reducible refine lx_nil ?_) | (with_reducible refine q_then ?_) | (with_reducible refine q_then_exit ?_) | (with_reducible refine q_block ?_) | ((with_reducible refine q_block_same ?_ ?_); · rfl) | (with_reducible refine q_loop_exit ?_) | refine c_condT rfl ?_ | refine lx_load_tpAE rfl rfl hT rfl rfl rfl rfl rfl rfl ?_ | ((with_reducible refine g_move ?_); first | refine lx_move (r := (.t _)) rfl rfl rfl rfl rfl ?_) | ((with_reducible refine g_load ?_); first | refine lx_load_var rfl rfl rfl rfl rfl rfl rfl rfl ?_ | refine lx_load_varA (r := (.t (.agg _))) rfl rfl rfl rfl rfl rfl rfl rfl rfl ?_ | refine lx_load_tp rfl rfl rfl rfl rfl rfl rfl ?_) | ((with_reducible refine g_fieldAddr ?_); first | refine lx_fieldAddr rfl rfl rfl rfl rfl rfl rfl ?_) | ((with_reducible refine g_binOp ?_); first | refine lx_arith rfl rfl rfl rfl rfl rfl rfl ?_ | refine lx_concat rfl rfl rfl rfl rfl rfl ?_ ?_) | ((with_reducible refine g_assign ?_); first | refine lx_assign (r := (.t _)) rfl rfl rfl rfl rfl ?_) | ((with_reducible refine g_alloc ?_); first | refine lx_alloc rfl rfl rfl rfl rfl rfl rfl ?_) | ((with_reducible refine g_store ?_); first | refine lx_store_var (r := (.t (.agg _))) rfl rfl rfl rfl rfl rfl rfl rfl rfl rfl ?_) | ((with_reducible refine g_indexAddr ?_); first | refine lx_indexAddr_map rfl rfl rfl rfl rfl rfl ?_ ?_ ?_) | ((with_reducible refine g_call ?_); first | refine lx_callT rfl rfl hP rfl rfl (ArgsLE.refl _) rfl rfl rfl rfl rfl ?_ | refine lx_callT rfl rfl hH3 rfl rfl (ArgsLE.refl _) rfl rfl rfl rfl rfl ?_) | refine c_condP rfl (fun hc => ?_) (fun hc => ?_))
        all_goals try omega
        all_goals try (simp only [ByteArray.size_append] at *; omega)
        all_goals try (exfalso; omega)
        exact q_loop (n' := is.length - (j + 1)) (by omega) (ghost_keep2 [1, 4, 49, 50, 51] [.loc 1] rfl rfl) ⟨j + 1, _, by omega, rfl, hw.symm, by rw [wrap64 (by omega) (by omega)]; rfl, rfl⟩
      · repeat' (first | (with_reducible refine codeT_seq ?_) | (with_reducible refine codeT_block ?_) | (with_reducible refine codeT_skip ?_) | (with_reducible refine codeT_ret ?_) | (with_reducible refine codeT_exit ?_) | (with_reducible refine codeT_regionL ?_) | (with_reducible refine lx_nil ?_) | (with_reducible refine q_then ?_) | (with_reducible refine q_then_exit ?_) | ((with_reducible refine q_block_same ?_ ?_); · rfl) | (with_reducible refine q_loop_exit ?_) | ((with_reducible refine g_move ?_); first | refine lx_move (r := (.t _)) rfl rfl rfl rfl rfl ?_) | ((with_reducible refine g_binOp ?_); first | refine lx_arith rfl rfl rfl rfl rfl rfl rfl ?_) | ((with_reducible refine g_assign ?_); first | refine lx_assign (r := (.t _)) rfl rfl rfl rfl rfl ?_) | ((with_reducible refine g_indexAddr ?_); first | refine lx_indexAddr_map rfl rfl rfl rfl rfl rfl ?_ ?_ ?_) | refine c_condP rfl (fun hc => ?_) (fun hc => ?_))
        all_goals try (exfalso; omega)
        obtain rfl : j = is.length := by omega
        exact q_ret (resT_oneE rfl rfl (congrArg T.str hS)) (by simp)
theorem sP0 : (⟨#[192]⟩ : ByteArray) = ofL [192] := rfl
theorem sP2 : (⟨#[194]⟩ : ByteArray) = ofL [194] := rfl
theorem sP3 : (⟨#[195]⟩ : ByteArray) = ofL [195] := rfl
set_option maxHeartbeats 8000000 in
theorem qWrite_spec {V : ByteArray → Bool} : ∀ (x : Nd) (e : Int), x.validB V e = true → x.In → x.pb.length ≤ 50000000 →
    Spec Tryd.prog 65 [.t x.toT] [] (.t (.str (ofL x.pb))) []
  | .mk k b n t ns is, e, hv, hin, hb => by
    rw [valid_mk] at hv
    obtain ⟨h1, h2, h3, h4, h5, h6, h7, h8⟩ := hv
    cases hin with
    | mk i1 i2 i3 =>
    rw [Nd.toT_eq]
    have hk : k = 0 ∨ k = 1 ∨ k = 2 ∨ k = 3 ∨ (k = 4 ∨ k = 5) := by omega
    rcases hk with rfl | rfl | rfl | rfl | hk
    · rw [show (Nd.mk 0 b n t ns is).pb = [192] by simp [Nd.pb], ← sP0]
      refine spec_intro (env0 := [(0, _)]) (st0 := []) Tryd.func65 rfl rfl rfl rfl ?_
      repeat' (first | (with_reducible refine codeT_seq ?_) | (with_reducible refine codeT_block ?_) | (with_reducible refine codeT_ret ?_) | (with_reducible refine codeT_regionL ?_) | (with_reducible refine lx_nil ?_) | (with_reducible refine q_then ?_) | (with_reducible refine q_then_ret ?_) | (with_reducible refine q_block_ret ?_) | refine c_condT rfl ?_ | ((with_reducible refine g_load ?_); first | refine lx_load_var rfl rfl rfl rfl rfl rfl rfl rfl ?_) | ((with_reducible refine g_fieldAddr ?_); first | refine lx_fieldAddr rfl rfl rfl rfl rfl rfl rfl ?_) | ((with_reducible refine g_binOp ?_); first | refine lx_arith rfl rfl rfl rfl rfl rfl rfl ?_) | ((with_reducible refine g_assign ?_); first | refine lx_assign (r := (.t _)) rfl rfl rfl rfl rfl ?_) | ((with_reducible refine g_box ?_); first | refine lx_box (r := (.t (.agg _))) (cs := (List.map .t _)) rfl rfl rfl rfl rfl rfl rfl rfl rfl ?_) | ((with_reducible refine g_len ?_); first | refine lx_len_map rfl rfl rfl rfl rfl ?_))
      exact q_ret (resT_oneE rfl rfl rfl) (by simp)
    · cases b with
      | true =>
        rw [show (Nd.mk 1 true n t ns is).pb = [195] by simp [Nd.pb], ← sP3]
        refine spec_intro (env0 := [(0, _)]) (st0 := []) Tryd.func65 rfl rfl rfl rfl ?_
        repeat' (first | (with_reducible refine codeT_seq ?_) | (with_reducible refine codeT_block ?_) | (with_reducible refine codeT_ret ?_) | (with_reducible refine codeT_regionL ?_) | (with_reducible refine lx_nil ?_) | (with_reducible refine q_then ?_) | (with_reducible refine q_then_ret ?_) | (with_reducible refine q_block_ret ?_) | refine c_condT rfl ?_ | refine c_condF rfl ?_ | ((with_reducible refine g_load ?_); first | refine lx_load_var rfl rfl rfl rfl rfl rfl rfl rfl ?_) | ((with_reducible refine g_fieldAddr ?_); first | refine lx_fieldAddr rfl rfl rfl rfl rfl rfl rfl ?_) | ((with_reducible refine g_binOp ?_); first | refine lx_arith rfl rfl rfl rfl rfl rfl rfl ?_) | ((with_reducible refine g_assign ?_); first | refine lx_assign (r := (.t _)) rfl rfl rfl rfl rfl ?_) | ((with_reducible refine g_box ?_); first | refine lx_box (r := (.t (.agg _))) (cs := (List.map .t _)) rfl rfl rfl rfl rfl rfl rfl rfl rfl ?_) | ((with_reducible refine g_len ?_); first | refine lx_len_map rfl rfl rfl rfl rfl ?_))
        exact q_ret (resT_oneE rfl rfl rfl) (by simp)
      | false =>
        rw [show (Nd.mk 1 false n t ns is).pb = [194] by simp [Nd.pb], ← sP2]
        refine spec_intro (env0 := [(0, _)]) (st0 := []) Tryd.func65 rfl rfl rfl rfl ?_
        repeat' (first | (with_reducible refine codeT_seq ?_) | (with_reducible refine codeT_block ?_) | (with_reducible refine codeT_skip ?_) | (with_reducible refine codeT_ret ?_) | (with_reducible refine codeT_regionL ?_) | (with_reducible refine lx_nil ?_) | (with_reducible refine q_then ?_) | (with_reducible refine q_then_ret ?_) | (with_reducible refine q_block_ret ?_) | refine c_condT rfl ?_ | refine c_condF rfl ?_ | ((with_reducible refine g_load ?_); first | refine lx_load_var rfl rfl rfl rfl rfl rfl rfl rfl ?_) | ((with_reducible refine g_fieldAddr ?_); first | refine lx_fieldAddr rfl rfl rfl rfl rfl rfl rfl ?_) | ((with_reducible refine g_binOp ?_); first | refine lx_arith rfl rfl rfl rfl rfl rfl rfl ?_) | ((with_reducible refine g_assign ?_); first | refine lx_assign (r := (.t _)) rfl rfl rfl rfl rfl ?_) | ((with_reducible refine g_box ?_); first | refine lx_box (r := (.t (.agg _))) (cs := (List.map .t _)) rfl rfl rfl rfl rfl rfl rfl rfl rfl ?_) | ((with_reducible refine g_len ?_); first | refine lx_len_map rfl rfl rfl rfl rfl ?_))
        exact q_ret (resT_oneE rfl rfl rfl) (by simp)
    · have ec : (Nd.mk 2 b n t ns is).pb = pNum n := by simp [Nd.pb]
      rw [ec]
      have hH := qNum_spec n i1 i2
      generalize ofL (pNum n) = R at hH ⊢
      refine spec_intro (env0 := [(0, _)]) (st0 := []) Tryd.func65 rfl rfl rfl rfl ?_
      repeat' (first | (with_reducible refine codeT_seq ?_) | (with_reducible refine codeT_block ?_) | (with_reducible refine codeT_ret ?_) | (with_reducible refine codeT_regionL ?_) | (with_reducible refine lx_nil ?_) | (with_reducible refine q_then ?_) | (with_reducible refine q_then_ret ?_) | (with_reducible refine q_block_ret ?_) | refine c_condT rfl ?_ | refine c_condF rfl ?_ | ((with_reducible refine g_load ?_); first | refine lx_load_var rfl rfl rfl rfl rfl rfl rfl rfl ?_) | ((with_reducible refine g_fieldAddr ?_); first | refine lx_fieldAddr rfl rfl rfl rfl rfl rfl rfl ?_) | ((with_reducible refine g_binOp ?_); first | refine lx_arith rfl rfl rfl rfl rfl rfl rfl ?_) | ((with_reducible refine g_assign ?_); first | refine lx_assign (r := (.t _)) rfl rfl rfl rfl rfl ?_) | ((with_reducible refine g_box ?_); first | refine lx_box (r := (.t (.agg _))) (cs := (List.map .t _)) rfl rfl rfl rfl rfl rfl rfl rfl rfl ?_) | ((with_reducible refine g_len ?_); first | refine lx_len_map rfl rfl rfl rfl rfl ?_) | ((with_reducible refine g_call ?_); first | refine lx_callT rfl rfl hH rfl rfl (ArgsLE.refl _) rfl rfl rfl rfl rfl ?_))
      exact q_ret (resT_oneE rfl rfl rfl) (by simp)
    · have ec : (Nd.mk 3 b n t ns is).pb = pTx t := by simp [Nd.pb]
      have ht : t.size ≤ 65536 := by
        simp only [textB, Bool.and_eq_true, decide_eq_true_eq] at h5; omega
      rw [ec]
      have hH := qText_spec t (by omega)
      generalize ofL (pTx t) = R at hH ⊢
      refine spec_intro (env0 := [(0, _)]) (st0 := []) Tryd.func65 rfl rfl rfl rfl ?_
      repeat' (first | (with_reducible refine codeT_seq ?_) | (with_reducible refine codeT_block ?_) | (with_reducible refine codeT_ret ?_) | (with_reducible refine codeT_regionL ?_) | (with_reducible refine lx_nil ?_) | (with_reducible refine q_then ?_) | (with_reducible refine q_then_ret ?_) | (with_reducible refine q_block_ret ?_) | refine c_condT rfl ?_ | refine c_condF rfl ?_ | ((with_reducible refine g_load ?_); first | refine lx_load_var rfl rfl rfl rfl rfl rfl rfl rfl ?_) | ((with_reducible refine g_fieldAddr ?_); first | refine lx_fieldAddr rfl rfl rfl rfl rfl rfl rfl ?_) | ((with_reducible refine g_binOp ?_); first | refine lx_arith rfl rfl rfl rfl rfl rfl rfl ?_) | ((with_reducible refine g_assign ?_); first | refine lx_assign (r := (.t _)) rfl rfl rfl rfl rfl ?_) | ((with_reducible refine g_box ?_); first | refine lx_box (r := (.t (.agg _))) (cs := (List.map .t _)) rfl rfl rfl rfl rfl rfl rfl rfl rfl ?_) | ((with_reducible refine g_len ?_); first | refine lx_len_map rfl rfl rfl rfl rfl ?_) | ((with_reducible refine g_call ?_); first | refine lx_callT rfl rfl hH rfl rfl (ArgsLE.refl _) rfl rfl rfl rfl rfl ?_))
      exact q_ret (resT_oneE rfl rfl rfl) (by simp)
    · have hl : k = 5 → ns.length = is.length := fun h => by have := (h7 h).2; omega
      have ec : (Nd.mk k b n t ns is).pb = pCn (pFew k) (pMany k) is.length ++ preP k ns is is.length := by
        have e1 : is.take is.length = is := List.take_length
        rcases hk with rfl | rfl
        · simp [Nd.pb, preP, pFew, pMany]
        · have e2 : ns.take is.length = ns := by rw [← (h7 rfl).2]; exact List.take_length
          simp [Nd.pb, preP, e2, pFew, pMany]
      rw [ec] at hb ⊢
      rw [List.length_append] at hb
      refine qWrite_seq k hk b n t ns is (by omega) hl (fun s hs => ?_) (by omega) fun i hi hb' => ?_
      · by_cases h : k = 5
        · have := ((namesOk_iff (textB V) ns []).1 (h7 h).1).2 s hs
          have := this.2
          simp only [textB, Bool.and_eq_true, decide_eq_true_eq] at this; omega
        · have hz : ns.length = 0 := by
            simp only [Nd.fieldsOK, Bool.and_eq_true, Bool.or_eq_true, decide_eq_true_eq] at h4
            have := h4.2; omega
          rw [List.eq_nil_of_length_eq_zero hz] at hs; cases hs
      · have hm : is.getD i default ∈ is := by rw [List.getD_eq_getElem?_getD, List.getElem?_eq_getElem hi]; exact List.getElem_mem _
        exact qWrite_spec (is.getD i default) (e - 1) (h8 _ hm) (i3 _ hm) hb'
termination_by x => SizeOf.sizeOf x
decreasing_by
  have := List.sizeOf_lt_of_mem hm
  simp only [Nd.mk.sizeOf_spec]
  omega

set_option maxHeartbeats 4000000 in
theorem qEnc_spec {oF oA : Obj} {V : ByteArray → Bool} (hS : VSpec oF oA V) (x : Nd) (hx : x.Ok) (hin : x.In) (hsz : x.validB V 8 = true → x.pb.length ≤ 49999999) : Spec Tryd.prog 44 [.t x.toT] [(.par 100, .dat (.fix 0 oF)), (.par 101, .dat (.fix 1 oA))] (.tup [.t (.str (gEnc pkC V x).1), .t (.int .i64 (gEnc pkC V x).2)]) [(.par 100, .dat (.fix 0 oF)), (.par 101, .dat (.fix 1 oA))] := by
  have hV := rValid_spec hS x hx
  have hT := x.toT_full
  unfold gEnc
  show Spec Tryd.prog _ _ _ (.tup [.t (.str (if x.validB V 8 = true then (if 65536 < x.pb.length then (eS, 3) else (ofL x.pb, 0)) else (eS, 1) : ByteArray × Int).1), .t (.int .i64 (if x.validB V 8 = true then (if 65536 < x.pb.length then (eS, 3) else (ofL x.pb, 0)) else (eS, 1) : ByteArray × Int).2)]) _
  cases hv : x.validB V 8 with
  | false =>
    rw [hv] at hV
    rw [hT] at hV ⊢
    refine spec_intro (env0 := [(0, _)]) (st0 := [(_, some _), (_, some _)]) Tryd.func44 rfl rfl rfl rfl ?_
    repeat' (first | (with_reducible refine codeT_seq ?_) | (with_reducible refine codeT_ret ?_) | (with_reducible refine codeT_regionL ?_) | (with_reducible refine lx_nil ?_) | (with_reducible refine q_then ?_) | (with_reducible refine q_then_ret ?_) | refine c_condT rfl ?_ | ((with_reducible refine g_load ?_); first | refine lx_load_varA (r := (.t (.agg _))) rfl rfl rfl rfl rfl rfl rfl rfl rfl ?_) | ((with_reducible refine g_assign ?_); first | refine lx_assign (r := (.t _)) rfl rfl rfl rfl rfl ?_) | ((with_reducible refine g_box ?_); first | refine lx_box (r := (.t (.agg _))) (cs := (List.map .t _)) rfl rfl rfl rfl rfl rfl rfl rfl rfl ?_) | ((with_reducible refine g_unOp ?_); first | refine lx_not rfl rfl rfl rfl rfl ?_) | ((with_reducible refine g_call ?_); first | refine lx_call (r' := .t (.bool false)) [] rfl rfl hV (ArgsLE.refl _) rfl ⟨rfl, rfl, trivial⟩ rfl rfl rfl rfl rfl rfl rfl rfl rfl rfl ?_))
    exact q_ret (resT_twoE rfl rfl rfl rfl rfl) (stHas_spec ⟨rfl, rfl, trivial⟩)
  | true =>
    have hP := qWrite_spec x 8 hv hin (by have := hsz hv; omega)
    rw [hv] at hV
    have hlen : (ofL x.pb).size = x.pb.length := ofL_size _
    generalize ofL x.pb = W at hP hlen ⊢
    rw [hT] at hV hP ⊢
    refine spec_intro (env0 := [(0, _)]) (st0 := [(_, some _), (_, some _)]) Tryd.func44 rfl rfl rfl rfl ?_
    repeat' (first | (with_reducible refine codeT_seq ?_) | (with_reducible refine codeT_skip ?_) | (with_reducible refine codeT_ret ?_) | (with_reducible refine codeT_regionL ?_) | (with_reducible refine lx_nil ?_) | (with_reducible refine q_then ?_) | (with_reducible refine q_then_ret ?_) | refine c_condF rfl ?_ | ((with_reducible refine g_move ?_); first | refine lx_move (r := (.t _)) rfl rfl rfl rfl rfl ?_) | ((with_reducible refine g_load ?_); first | refine lx_load_varA (r := (.t (.agg _))) rfl rfl rfl rfl rfl rfl rfl rfl rfl ?_) | ((with_reducible refine g_binOp ?_); first | refine lx_arith rfl rfl rfl rfl rfl rfl rfl ?_) | ((with_reducible refine g_assign ?_); first | refine lx_assign (r := (.t _)) rfl rfl rfl rfl rfl ?_) | ((with_reducible refine g_box ?_); first | refine lx_box (r := (.t (.agg _))) (cs := (List.map .t _)) rfl rfl rfl rfl rfl rfl rfl rfl rfl ?_) | ((with_reducible refine g_unOp ?_); first | refine lx_not rfl rfl rfl rfl rfl ?_) | ((with_reducible refine g_len ?_); first | refine lx_len_str rfl rfl rfl rfl rfl ?_) | ((with_reducible refine g_call ?_); first | refine lx_call (r' := .t (.bool true)) [] rfl rfl hV (ArgsLE.refl _) rfl ⟨rfl, rfl, trivial⟩ rfl rfl rfl rfl rfl rfl rfl rfl rfl rfl ?_ | refine lx_callT rfl rfl hP rfl rfl (ArgsLE.refl _) rfl rfl rfl rfl rfl ?_) | refine c_condP rfl (fun hc => ?_) (fun hc => ?_))
    · exact q_ret (resT_twoE rfl rfl rfl (by rw [if_pos rfl, if_pos (by omega)]; rfl) (by rw [if_pos rfl, if_pos (by omega)])) (stHas_spec ⟨rfl, rfl, trivial⟩)
    · exact q_ret (resT_twoE rfl rfl rfl (by rw [if_pos rfl, if_neg (by omega)]) (by rw [if_pos rfl, if_neg (by omega)])) (stHas_spec ⟨rfl, rfl, trivial⟩)
end Go.AL
/- That the law PackWrites is true, as a contract. -/
set_option linter.unusedVariables false
namespace Go.AL
open Go Go.Proofs Go.RowKit

/-- What a law asks of a node that it writes. -/
structure Enc2 (V : ByteArray → Bool) (x : Nd) : Prop where
  ok : x.Ok
  inn : x.In
  sz : x.validB V 8 = true → x.pb.length ≤ 49999999
set_option maxHeartbeats 16000000 in
theorem PackWrites_spec {oF oA : Obj} {V : ByteArray → Bool} (hS : VSpec oF oA V) (hV : VOk V) (l : List Int) (raw : Nd) (okR : raw.Ok) (inR : raw.In) : Spec Tryd.prog 11 [.t (.sl 1 (l.map (T.int .i64))), .t raw.toT] [(.par 100, .dat (.fix 0 oF)), (.par 101, .dat (.fix 1 oA))] (.t (.bool true)) [(.par 100, .dat (.fix 0 oF)), (.par 101, .dat (.fix 1 oA))] := by
  have hA := awake8_spec hS hV
  have hL := Light_spec l
  by_cases hl : (l.length : Int) ≤ 500
  · rw [decide_eq_true hl] at hL
    have rT := raw.toT_full
    rw [rT]
    by_cases hg : raw.items.length ≤ 8 ∧ raw.text.size ≤ 3000
    · refine spec_intro (env0 := [(0, _), (1, _)]) (st0 := [(_, some _), (_, some _)]) Tryd.func11 rfl rfl rfl rfl ?_
      repeat' (first | (with_reducible refine codeT_seq ?_) | (with_reducible refine codeT_block ?_) | (with_reducible refine codeT_skip ?_) | (with_reducible refine codeT_regionL ?_) | (with_reducible refine lx_nil ?_) | (with_reducible refine q_then ?_) | refine c_condT rfl ?_ | ((with_reducible refine g_guard ?_); first | refine lx_skip rfl rfl rfl ?_) | ((with_reducible refine g_move ?_); first | refine lx_move (r := (.t _)) rfl rfl rfl rfl rfl ?_) | ((with_reducible refine g_load ?_); first | refine lx_load_var rfl rfl rfl rfl rfl rfl rfl rfl ?_) | ((with_reducible refine g_fieldAddr ?_); first | refine lx_fieldAddr rfl rfl rfl rfl rfl rfl rfl ?_) | ((with_reducible refine g_binOp ?_); first | refine lx_arith rfl rfl rfl rfl rfl rfl rfl ?_) | ((with_reducible refine g_assign ?_); first | refine lx_assign (r := (.t _)) rfl rfl rfl rfl rfl ?_) | ((with_reducible refine g_pick ?_); first | refine lx_pickT (r := (.t _)) rfl rfl rfl rfl rfl rfl ?_ | refine lx_pickF (r := (.t _)) rfl rfl rfl rfl rfl rfl ?_) | ((with_reducible refine g_box ?_); first | refine lx_box (r := (.t (.agg _))) (cs := (List.map .t _)) rfl rfl rfl rfl rfl rfl rfl rfl rfl ?_) | ((with_reducible refine g_unOp ?_); first | refine lx_not rfl rfl rfl rfl rfl ?_) | ((with_reducible refine g_len ?_); first | refine lx_len_map rfl rfl rfl rfl rfl ?_ | refine lx_len_str rfl rfl rfl rfl rfl ?_) | ((with_reducible refine g_call ?_); first | exact absurd hg.1 (by omega) | refine lx_callT rfl rfl hL rfl rfl (ArgsLE.refl _) rfl rfl rfl rfl rfl ?_) | refine c_condP rfl (fun hc => ?_) (fun hc => ?_) | refine lx_splitP rfl (fun hc => ?_) (fun hc => ?_))
      all_goals try (exfalso; omega)
      refine codeT_ghost (ghost_keep2 [0, 3, 31, 32, 33] [.loc 3, .par 100, .par 101] rfl rfl) ?_
      refine codeT_loop (fun p env st => ∃ (j : Nat), j ≤ raw.items.length ∧ p = raw.items.length - j ∧ (∀ i, i < j → (raw.items.getD i default).items = []) ∧
          env = EnvL.get [(0, .t (.sl 1 (l.map (T.int .i64)))), (3, .ref (.loc 3) 0 0 0), (31, .t (.sl 6 (raw.items.map Nd.toT))), (32, .t (.int .i64 raw.items.length)), (33, .t (.int .i64 (j : Int)))] ∧
          st = StO.get [(.loc 3, some (.var 26 [.t (.int .i64 raw.kind), .t (.bool raw.bool), .t (.int .i64 raw.num), .t (.str raw.text), .t (.sl 1 (raw.names.map .str)), .t (.sl 6 (raw.items.map Nd.toT))])), (.par 100, some (.dat (.fix 0 oF))), (.par 101, some (.dat (.fix 1 oA)))])
        ?_ (n := raw.items.length) ⟨0, by omega, rfl, fun i hi => by omega, rfl, rfl⟩
      rintro p env st ⟨j, hj, rfl, hno, rfl, rfl⟩
      by_cases hlt : j < raw.items.length
      · have eI := (raw.items.getD (j : Int).toNat default).toT_full
        have hgI : raw.items.getD (j : Int).toNat default = raw.items.getD j default := rfl
        repeat' (first | (with_reducible refine codeT_seq ?_) | (with_reducible refine codeT_block ?_) | (with_reducible refine codeT_skip ?_) | (with_reducible refine codeT_ret ?_) | (with_reducible refine codeT_exit ?_) | (with_reducible refine codeT_regionL ?_) | (with_reducible refine lx_nil ?_) | (with_reducible refine q_then ?_) | (with_reducible refine q_then_exit ?_) | (with_reducible refine q_then_ret ?_) | (with_reducible refine q_block ?_) | (with_reducible refine q_block_ret ?_) | ((with_reducible refine q_block_same ?_ ?_); · rfl) | (with_reducible refine q_loop_exit ?_) | (with_reducible refine q_loop_ret ?_) | refine lx_load_tpAE rfl rfl eI rfl rfl rfl rfl rfl rfl ?_ | ((with_reducible refine g_move ?_); first | refine lx_move (r := (.t _)) rfl rfl rfl rfl rfl ?_) | ((with_reducible refine g_load ?_); first | refine lx_load_var rfl rfl rfl rfl rfl rfl rfl rfl ?_) | ((with_reducible refine g_fieldAddr ?_); first | refine lx_fieldAddr rfl rfl rfl rfl rfl rfl rfl ?_) | ((with_reducible refine g_binOp ?_); first | refine lx_arith rfl rfl rfl rfl rfl rfl rfl ?_) | ((with_reducible refine g_assign ?_); first | refine lx_assign (r := (.t _)) rfl rfl rfl rfl rfl ?_) | ((with_reducible refine g_alloc ?_); first | refine lx_alloc rfl rfl rfl rfl rfl rfl rfl ?_) | ((with_reducible refine g_store ?_); first | refine lx_store_var (r := (.t (.agg _))) rfl rfl rfl rfl rfl rfl rfl rfl rfl rfl ?_) | ((with_reducible refine g_indexAddr ?_); first | refine lx_indexAddr_map rfl rfl rfl rfl rfl rfl ?_ ?_ ?_) | ((with_reducible refine g_len ?_); first | refine lx_len_map rfl rfl rfl rfl rfl ?_) | ((with_reducible refine g_call ?_); first | refine lx_call (r' := .t (.bool true)) [] rfl rfl hA (ArgsLE.refl _) rfl ⟨rfl, rfl, trivial⟩ rfl rfl rfl rfl rfl rfl rfl rfl rfl rfl ?_) | refine c_condP rfl (fun hc => ?_) (fun hc => ?_))
        all_goals try omega
        · exact q_ret (resT_oneE rfl rfl rfl) (stHas_spec ⟨rfl, rfl, trivial⟩)
        · refine q_loop (n' := raw.items.length - (j + 1)) (by omega) (ghost_keep2 [0, 3, 31, 32, 33] [.loc 3, .par 100, .par 101] rfl rfl) ⟨j + 1, by omega, rfl, fun i hi => ?_, by rw [wrap64 (by omega) (by omega)]; rfl, rfl⟩
          rcases Nat.lt_or_ge i j with h | h
          · exact hno i h
          · obtain rfl : i = j := by omega
            rw [hgI] at hc
            exact List.eq_nil_of_length_eq_zero (by omega)
      · repeat' (first | (with_reducible refine codeT_seq ?_) | (with_reducible refine codeT_regionL ?_) | (with_reducible refine lx_nil ?_) | (with_reducible refine q_then ?_) | ((with_reducible refine g_binOp ?_); first | refine lx_arith rfl rfl rfl rfl rfl rfl rfl ?_))
        refine c_condP rfl (fun hc => absurd hc (by omega)) (fun hc => ?_)
        have hflat : ∀ y ∈ raw.items, y.items = [] := fun y hy => by
          obtain ⟨i, hi, rfl⟩ := List.getElem_of_mem hy
          have := hno i (by omega)
          rwa [List.getD_eq_getElem?_getD, List.getElem?_eq_getElem hi] at this
        have hR := Roll_spec l
        have hd0 : (Dc.mk l 0).l = l := rfl
        have hX1 := kNode_spec 4 (by omega) (Dc.mk l 0) (by rw [hd0]; omega)
        have eX1 : (kNode 4 (Dc.mk l 0)).2.l = l := by rw [kNode_l]
        have vX1 := kNode_ok hV 4 (Dc.mk l 0) 8 (by omega) (by omega)
        have cX1 := kNode_cb 4 (Dc.mk l 0)
        generalize kNode 4 (Dc.mk l 0) = q1 at hX1 eX1 vX1 cX1
        obtain ⟨x1, d1⟩ := q1
        simp only at hX1 eX1 vX1 cX1
        have hX2 := kMap_spec 3 (by omega) d1 (by rw [eX1]; omega)
        have eX2 : (kMap 3 d1).2.l = l := by rw [kMap_l, eX1]
        have vX2 := kMap_ok hV 3 d1 8 (by omega) (by omega)
        have cX2 := kMap_cb 3 d1
        generalize kMap 3 d1 = q2 at hX2 eX2 vX2 cX2
        obtain ⟨x2, d2⟩ := q2
        simp only at hX2 eX2 vX2 cX2
        have hN1 := Next_spec d2 9 (by omega) (by rw [eX2]; omega)
        have rN1 := d2.next_lt 9 (by omega)
        have eN1 : (d2.next 9).2.l = l := by rw [Dc.next_l, eX2]
        generalize d2.next 9 = q3 at hN1 rN1 eN1
        obtain ⟨a3, d3⟩ := q3
        simp only at hN1 rN1 eN1
        have hN2 := Next_spec d3 2 (by omega) (by rw [eN1]; omega)
        have rN2 := d3.next_lt 2 (by omega)
        generalize d3.next 2 = q4 at hN2 rN2
        obtain ⟨a4, d4⟩ := q4
        simp only at hN2 rN2
        have E1 : Enc2 V x1 := ⟨Nd.ok_of_valid x1 8 vX1, cX1.2, fun _ => Nat.le_trans (pb_le _) (Nat.le_trans (Nat.mul_le_mul_left 3 cX1.1) (by decide))⟩
        have E2 : Enc2 V x2 := ⟨Nd.ok_of_valid x2 8 vX2, cX2.2, fun _ => Nat.le_trans (pb_le _) (Nat.le_trans (Nat.mul_le_mul_left 3 cX2.1) (by decide))⟩
        have E3 : Enc2 V raw := ⟨okR, inR, fun hv => Nat.le_trans (pb_le _) (Nat.le_trans (Nat.mul_le_mul_left 3 (flat2_cb hv hg.1 hflat)) (by decide))⟩
        obtain ⟨x4, hx4⟩ : ∃ x4, x4 = Nd.mk (a3 - 1) false a4 eS [] [] := ⟨_, rfl⟩
        have E4 : Enc2 V x4 := ⟨by rw [hx4]; exact .mk (by simp) (by simp) (by simp), by rw [hx4]; exact .mk (by omega) (by omega) (by simp), fun hv => Nat.le_trans (pb_le _) (Nat.le_trans (Nat.mul_le_mul_left 3 (flat_cb hv (by rw [hx4]; rfl))) (by decide))⟩
        have hX1 := hX1.res x1.toT_full
        have hX2 := hX2.res x2.toT_full
        clear vX1 cX1 vX2 cX2 hno
        repeat' (first | (with_reducible refine codeT_seq ?_) | (with_reducible refine codeT_block ?_) | (with_reducible refine codeT_exit ?_) | (with_reducible refine codeT_regionL ?_) | ((with_reducible refine codeT_region_drawL ?_ ?_); · rfl) | (with_reducible refine lx_nil ?_) | (with_reducible refine q_then ?_) | (with_reducible refine q_then_exit ?_) | ((with_reducible refine q_block_same ?_ ?_); · rfl) | (with_reducible refine q_loop_exit ?_) | ((with_reducible refine q_region_draw ?_ ?_); · rfl) | ((with_reducible refine g_move ?_); first | refine lx_move (r := (.t _)) rfl rfl rfl rfl rfl ?_ | refine lx_move (r := (.ref _ _ _ _)) rfl rfl rfl rfl rfl ?_) | ((with_reducible refine g_load ?_); first | refine lx_load_varA (r := (.t (.agg _))) rfl rfl rfl rfl rfl rfl rfl rfl rfl ?_) | ((with_reducible refine g_binOp ?_); first | refine lx_arith rfl rfl rfl rfl rfl rfl rfl ?_) | ((with_reducible refine g_assign ?_); first | refine lx_assign (r := (.ref _ _ _ _)) rfl rfl rfl rfl rfl ?_) | ((with_reducible refine g_buildSlice ?_); first | refine lx_buildSlice rfl rfl rfl rfl rfl rfl rfl ?_) | ((with_reducible refine g_build ?_); first | refine lx_build (r := (.t (.agg _))) rfl rfl rfl rfl rfl rfl rfl ?_) | ((with_reducible refine g_len ?_); first | refine lx_len_row rfl rfl rfl rfl rfl rfl ?_) | ((with_reducible refine g_call ?_); first | refine lx_call (r' := .ref (.loc 900) 0 0 0) [(.res 0, .loc 900)] rfl rfl hR (ArgsLE.refl _) rfl trivial rfl rfl rfl rfl rfl rfl rfl rfl rfl rfl ?_ | refine lx_call (r' := .t (.agg [_, _, _, _, _, _])) [(.par 0, .loc 900)] rfl rfl hX1 (ArgsLE.refl _) rfl ⟨rfl, trivial⟩ rfl rfl rfl rfl rfl rfl rfl rfl rfl rfl ?_ | refine lx_call (r' := .t (.agg [_, _, _, _, _, _])) [(.par 0, .loc 900)] rfl rfl hX2 (ArgsLE.refl _) rfl ⟨rfl, trivial⟩ rfl rfl rfl rfl rfl rfl rfl rfl rfl rfl ?_ | refine lx_call (r' := .t (.int .i64 a3)) [(.par 0, .loc 900)] rfl rfl hN1 (ArgsLE.refl _) rfl ⟨rfl, trivial⟩ rfl rfl rfl rfl rfl rfl rfl rfl rfl rfl ?_ | refine lx_call (r' := .t (.int .i64 a4)) [(.par 0, .loc 900)] rfl rfl hN2 (ArgsLE.refl _) rfl ⟨rfl, trivial⟩ rfl rfl rfl rfl rfl rfl rfl rfl rfl rfl ?_))
        have hLx : ∀ x ∈ [x1, x2, raw, x4], Enc2 V x := by
          intro x hx
          simp only [List.mem_cons, List.not_mem_nil, or_false] at hx
          rcases hx with rfl | rfl | rfl | rfl
          · exact E1
          · exact E2
          · exact E3
          · exact E4
        have hle : TLe (.sl 6 [.agg [.int .i64 x1.kind, .bool x1.bool, .int .i64 x1.num, .str x1.text, .sl 1 (x1.names.map .str), .sl 6 (x1.items.map Nd.toT)], .agg [.int .i64 x2.kind, .bool x2.bool, .int .i64 x2.num, .str x2.text, .sl 1 (x2.names.map .str), .sl 6 (x2.items.map Nd.toT)], .agg [.int .i64 raw.kind, .bool raw.bool, .int .i64 raw.num, .str raw.text, .sl 1 (raw.names.map .str), .sl 6 (raw.items.map Nd.toT)], .agg [.int .i64 (IntKind.i64.wrap (a3 - 1)), .bool false, .int .i64 a4, .str ⟨#[]⟩, .nilsl, .nilsl]]) (.sl 6 ([x1, x2, raw, x4].map Nd.toT)) := by
          have e4 : x4.toT = .agg [.int .i64 (a3 - 1), .bool false, .int .i64 a4, .str ⟨#[]⟩, .sl 1 [], .sl 6 []] := by rw [hx4, Nd.toT_eq]; rfl
          rw [wrap64 (by omega) (by omega)]
          simp only [List.map_cons, List.map_nil]
          rw [← x1.toT_full, ← x2.toT_full, ← raw.toT_full, e4]
          exact .sl (.cons (.refl _) (.cons (.refl _) (.cons (.refl _) (.cons (by repeat first | exact TLe.refl _ | exact TLe.nil _ | exact TLe.esl _ | refine TLe.agg ?_ | refine TLs.cons ?_ ?_ | exact TLs.nil) .nil))))
        refine codeT_ghost (ghost_keep2 [56, 57, 58] [.loc 56, .par 100, .par 101] rfl rfl) ?_
        refine codeT_ghost (ghost_freezeL (id := .loc 56) rfl rfl rfl) ?_
        refine codeT_ghost (ghost_le 56 rfl hle rfl) ?_
        obtain ⟨L, hLe⟩ : ∃ L, L = [x1, x2, raw, x4] := ⟨_, rfl⟩
        have hL4 : L.length = 4 := by rw [hLe]; rfl
        rw [← hLe] at hLx ⊢
        refine codeT_ghost (ghost_keep2 [56, 57, 58] [.par 100, .par 101] rfl rfl) ?_
        refine codeT_loop (fun p env st => ∃ (j : Nat), j ≤ 4 ∧ p = 4 - j ∧
            env = EnvL.get [(56, .t (.sl 6 (L.map Nd.toT))), (57, .t (.int .i64 4)), (58, .t (.int .i64 (j : Int)))] ∧ st = StO.get [(.par 100, some (.dat (.fix 0 oF))), (.par 101, some (.dat (.fix 1 oA)))])
          ?_ (n := 4) ⟨0, by omega, rfl, rfl, rfl⟩
        clear hX1 hX2 hN1 hN2 hle hc hlt hj hR hL
        rintro p env st ⟨j, hj, rfl, rfl, rfl⟩
        by_cases hlt : j < 4
        · have eI := (L.getD (j : Int).toNat default).toT_full
          have hm : L.getD (j : Int).toNat default ∈ L := by
            rw [List.getD_eq_getElem?_getD, List.getElem?_eq_getElem (by omega)]; exact List.getElem_mem _
          have hE := hLx _ hm
          have hC1 := pEnc_spec hS _ hE.ok hE.inn hE.sz
          have hC2 := qEnc_spec hS _ hE.ok hE.inn hE.sz
          generalize (gEnc pkC V (L.getD (j : Int).toNat default)).1 = w1 at hC1 hC2
          generalize (gEnc pkC V (L.getD (j : Int).toNat default)).2 = w2 at hC1 hC2
          rw [eI] at hC1 hC2
          repeat' (first | (with_reducible refine codeT_seq ?_) | (with_reducible refine codeT_regionL ?_) | (with_reducible refine lx_nil ?_) | (with_reducible refine q_then ?_) | ((with_reducible refine g_binOp ?_); first | refine lx_arith rfl rfl rfl rfl rfl rfl rfl ?_))
          refine c_condP rfl (fun hc => ?_) (fun hc => absurd (by omega) hc)
          repeat' (first | (with_reducible refine codeT_seq ?_) | (with_reducible refine codeT_block ?_) | (with_reducible refine codeT_skip ?_) | (with_reducible refine codeT_regionL ?_) | (with_reducible refine lx_nil ?_) | (with_reducible refine q_then ?_) | refine lx_load_tpAE rfl rfl eI rfl rfl rfl rfl rfl rfl ?_ | ((with_reducible refine g_move ?_); first | refine lx_move (r := (.t _)) rfl rfl rfl rfl rfl ?_ | refine lx_move (r := (.tup _)) rfl rfl rfl rfl rfl ?_) | ((with_reducible refine g_load ?_); first | refine lx_load_varA (r := (.t (.agg _))) rfl rfl rfl rfl rfl rfl rfl rfl rfl ?_) | ((with_reducible refine g_binOp ?_); first | refine lx_str_ne rfl rfl rfl rfl rfl rfl ?_) | ((with_reducible refine g_assign ?_); first | refine lx_assign (r := (.t _)) rfl rfl rfl rfl rfl ?_) | ((with_reducible refine g_alloc ?_); first | refine lx_alloc rfl rfl rfl rfl rfl rfl rfl ?_) | ((with_reducible refine g_store ?_); first | refine lx_store_var (r := (.t (.agg _))) rfl rfl rfl rfl rfl rfl rfl rfl rfl rfl ?_) | ((with_reducible refine g_indexAddr ?_); first | refine lx_indexAddr_map rfl rfl rfl rfl rfl rfl ?_ ?_ ?_) | ((with_reducible refine g_extract ?_); first | refine lx_extract rfl rfl rfl rfl rfl rfl ?_) | ((with_reducible refine g_call ?_); first | refine lx_call (r' := .tup [.t (.str w1), .t (.int .i64 w2)]) [] rfl rfl hC1 (ArgsLE.refl _) rfl ⟨rfl, rfl, trivial⟩ rfl rfl rfl rfl rfl rfl rfl rfl rfl rfl ?_ | refine lx_call (r' := .tup [.t (.str w1), .t (.int .i64 w2)]) [] rfl rfl hC2 (ArgsLE.refl _) rfl ⟨rfl, rfl, trivial⟩ rfl rfl rfl rfl rfl rfl rfl rfl rfl rfl ?_))
          · omega
          · omega
          refine lx_splitN rfl (fun hx => ?_) (fun hx => absurd rfl hx)
          repeat' (first | (with_reducible refine lx_nil ?_) | (with_reducible refine q_then ?_) | ((with_reducible refine g_move ?_); first | refine lx_move (r := (.t _)) rfl rfl rfl rfl rfl ?_) | ((with_reducible refine g_binOp ?_); first | refine lx_arith rfl rfl rfl rfl rfl rfl rfl ?_) | ((with_reducible refine g_pick ?_); first | refine lx_pickF (r := (.t _)) rfl rfl rfl rfl rfl rfl ?_))
          refine c_condN rfl (fun hx => ?_) (fun hx => absurd rfl hx)
          repeat' (first | (with_reducible refine codeT_skip ?_) | (with_reducible refine codeT_regionL ?_) | (with_reducible refine lx_nil ?_) | (with_reducible refine q_then ?_) | (with_reducible refine q_block ?_) | ((with_reducible refine g_move ?_); first | refine lx_move (r := (.t _)) rfl rfl rfl rfl rfl ?_) | ((with_reducible refine g_binOp ?_); first | refine lx_arith rfl rfl rfl rfl rfl rfl rfl ?_))
          exact q_loop (n' := 4 - (j + 1)) (by omega) (ghost_keep2 [56, 57, 58] [.par 100, .par 101] rfl rfl) ⟨j + 1, by omega, rfl, by rw [wrap64 (by omega) (by omega)]; rfl, rfl⟩
        · repeat' (first | (with_reducible refine codeT_seq ?_) | (with_reducible refine codeT_regionL ?_) | (with_reducible refine lx_nil ?_) | (with_reducible refine q_then ?_) | ((with_reducible refine g_binOp ?_); first | refine lx_arith rfl rfl rfl rfl rfl rfl rfl ?_))
          refine c_condP rfl (fun hc => absurd hc (by omega)) (fun hc => ?_)
          repeat' (first | (with_reducible refine codeT_seq ?_) | (with_reducible refine codeT_ret ?_) | (with_reducible refine codeT_exit ?_) | (with_reducible refine codeT_regionL ?_) | (with_reducible refine lx_nil ?_) | (with_reducible refine q_then ?_) | (with_reducible refine q_then_exit ?_) | ((with_reducible refine q_block_same ?_ ?_); · rfl) | (with_reducible refine q_loop_exit ?_) | ((with_reducible refine g_assign ?_); first | refine lx_assign (r := (.t _)) rfl rfl rfl rfl rfl ?_) | ((with_reducible refine g_call ?_); first | refine lx_call (r' := .t (.bool true)) [] rfl rfl hA (ArgsLE.refl _) rfl ⟨rfl, rfl, trivial⟩ rfl rfl rfl rfl rfl rfl rfl rfl rfl rfl ?_))
          exact q_ret (resT_oneE rfl rfl rfl) (stHas_spec ⟨rfl, rfl, trivial⟩)
    · refine spec_intro (env0 := [(0, _), (1, _)]) (st0 := [(_, some _), (_, some _)]) Tryd.func11 rfl rfl rfl rfl ?_
      repeat' (first | (with_reducible refine codeT_seq ?_) | (with_reducible refine codeT_block ?_) | (with_reducible refine codeT_skip ?_) | (with_reducible refine codeT_ret ?_) | (with_reducible refine codeT_regionL ?_) | (with_reducible refine lx_nil ?_) | (with_reducible refine q_then ?_) | (with_reducible refine q_then_ret ?_) | refine c_condT rfl ?_ | ((with_reducible refine g_guard ?_); first | refine lx_skip rfl rfl rfl ?_) | ((with_reducible refine g_move ?_); first | refine lx_move (r := (.t _)) rfl rfl rfl rfl rfl ?_) | ((with_reducible refine g_load ?_); first | refine lx_load_var rfl rfl rfl rfl rfl rfl rfl rfl ?_) | ((with_reducible refine g_fieldAddr ?_); first | refine lx_fieldAddr rfl rfl rfl rfl rfl rfl rfl ?_) | ((with_reducible refine g_binOp ?_); first | refine lx_arith rfl rfl rfl rfl rfl rfl rfl ?_) | ((with_reducible refine g_assign ?_); first | refine lx_assign (r := (.t _)) rfl rfl rfl rfl rfl ?_) | ((with_reducible refine g_pick ?_); first | refine lx_pickT (r := (.t _)) rfl rfl rfl rfl rfl rfl ?_ | refine lx_pickF (r := (.t _)) rfl rfl rfl rfl rfl rfl ?_) | ((with_reducible refine g_box ?_); first | refine lx_box (r := (.t (.agg _))) (cs := (List.map .t _)) rfl rfl rfl rfl rfl rfl rfl rfl rfl ?_) | ((with_reducible refine g_unOp ?_); first | refine lx_not rfl rfl rfl rfl rfl ?_) | ((with_reducible refine g_len ?_); first | refine lx_len_map rfl rfl rfl rfl rfl ?_ | refine lx_len_str rfl rfl rfl rfl rfl ?_) | ((with_reducible refine g_call ?_); first | refine lx_callT rfl rfl hL rfl rfl (ArgsLE.refl _) rfl rfl rfl rfl rfl ?_ | refine lx_call (r' := .t (.bool true)) [] rfl rfl hA (ArgsLE.refl _) rfl ⟨rfl, rfl, trivial⟩ rfl rfl rfl rfl rfl rfl rfl rfl rfl rfl ?_) | refine c_condP rfl (fun hc => ?_) (fun hc => ?_) | refine lx_splitP rfl (fun hc => ?_) (fun hc => ?_))
      all_goals try (exfalso; omega)
      all_goals exact q_ret (resT_oneE rfl rfl rfl) (stHas_spec ⟨rfl, rfl, trivial⟩)
  · rw [decide_eq_false hl] at hL
    have rT := raw.toT_full
    rw [rT]
    refine spec_intro (env0 := [(0, _), (1, _)]) (st0 := [(_, some _), (_, some _)]) Tryd.func11 rfl rfl rfl rfl ?_
    repeat' (first | (with_reducible refine codeT_seq ?_) | (with_reducible refine codeT_ret ?_) | (with_reducible refine codeT_regionL ?_) | (with_reducible refine lx_nil ?_) | (with_reducible refine q_then ?_) | (with_reducible refine q_then_ret ?_) | refine c_condT rfl ?_ | ((with_reducible refine g_guard ?_); first | refine lx_skip rfl rfl rfl ?_) | ((with_reducible refine g_move ?_); first | refine lx_move (r := (.t _)) rfl rfl rfl rfl rfl ?_) | ((with_reducible refine g_assign ?_); first | refine lx_assign (r := (.t _)) rfl rfl rfl rfl rfl ?_) | ((with_reducible refine g_pick ?_); first | refine lx_pickT (r := (.t _)) rfl rfl rfl rfl rfl rfl ?_) | ((with_reducible refine g_box ?_); first | refine lx_box (r := (.t (.agg _))) (cs := (List.map .t _)) rfl rfl rfl rfl rfl rfl rfl rfl rfl ?_) | ((with_reducible refine g_unOp ?_); first | refine lx_not rfl rfl rfl rfl rfl ?_) | ((with_reducible refine g_call ?_); first | refine lx_callT rfl rfl hL rfl rfl (ArgsLE.refl _) rfl rfl rfl rfl rfl ?_ | refine lx_call (r' := .t (.bool true)) [] rfl rfl hA (ArgsLE.refl _) rfl ⟨rfl, rfl, trivial⟩ rfl rfl rfl rfl rfl rfl rfl rfl rfl rfl ?_))
    exact q_ret (resT_oneE rfl rfl rfl) (stHas_spec ⟨rfl, rfl, trivial⟩)
end Go.AL
