/- That the law PackOnce is true, as a contract. -/
import Derived.Test.YtjhhjkkacbcmjaaDoorPkd
import Derived.Test.YtjhhjkkacbcmjaaDoorCbo5
import Derived.Test.YtjhhjkkacbcmjaaDoorPkc
import Derived.Test.YtjhhjkkacbcmjaaDoorCbo2
import Derived.Test.YtjhhjkkacbcmjaaDoorPks
import Derived.Test.YtjhhjkkacbcmjaaDoorCbo6
set_option linter.unusedVariables false
namespace Go.AL
open Go Go.Proofs Go.RowKit

/-- What a reader of the bytes makes: nothing, or a valid node with these bytes. -/
theorem pDec_two {V : ByteArray → Bool} (s : ByteArray) : gDec pkC V s = (Nd.zero, 4) ∨ ∃ x : Nd, gDec pkC V s = (x, 0) ∧ x.validB V 8 = true ∧ x.In ∧ x.Ok ∧ (pkC.E x).length ≤ 65536 ∧ s = ofL (pkC.E x) := by
  by_cases h : gGood pkC V s
  · obtain ⟨x, h1, h2, h3, rfl⟩ := gDec_iff (C := pkC).1 h
    exact .inr ⟨x, gDec_back (C := pkC) h1 h2 h3, h1, h2, Nd.ok_of_valid x 8 h1, h3, rfl⟩
  · exact .inl (gDec_zero (C := pkC) h)
end Go.AL
/- What the document's numbers and texts of the third serialisation answer. -/
set_option linter.unusedVariables false
namespace Go.AL
open Go Go.Proofs Go.RowKit

set_option maxHeartbeats 2000000 in
theorem qBig_spec (n : Nat) (hn : n < 18446744073709551616) (k : Nat) (hk1 : 1 ≤ k) (hk : k ≤ 8) : Spec Tryd.prog 93 [.t (.int .u64 (n : Int)), .t (.int .i64 (k : Int))] [] (.t (.str (ofL (bigL k n)))) [] := by
  refine spec_intro (env0 := [(0, _), (1, _)]) (st0 := []) Tryd.func93 rfl rfl rfl rfl ?_
  repeat' (first | (with_reducible refine codeT_seq ?_) | (with_reducible refine codeT_block ?_) | (with_reducible refine codeT_regionL ?_) | (with_reducible refine lx_nil ?_) | (with_reducible refine q_then ?_) | ((with_reducible refine g_move ?_); first | refine lx_move (r := (.t _)) rfl rfl rfl rfl rfl ?_) | ((with_reducible refine g_binOp ?_); first | refine lx_arith rfl rfl rfl rfl rfl rfl rfl ?_) | ((with_reducible refine g_assign ?_); first | refine lx_assign (r := (.t _)) rfl rfl rfl rfl rfl ?_))
  refine codeT_ghost (ghost_nilL 5 (.loc 900) 5 1 rfl rfl rfl) ?_
  refine codeT_ghost (ghost_keep2 [0, 5, 6] [.loc 900] rfl rfl) ?_
  refine codeT_loop (fun p env st => ∃ (c : Nat) (xs : List T), c ≤ 8 ∧ p = c ∧ xs.length + c = k ∧ xs ++ u8L (bigL c n) = u8L (bigL k n) ∧
      env = EnvL.get [(0, .t (.int .u64 (n : Int))), (5, .row (.loc 900)), (6, .t (.int .i64 ((c : Int) - 1)))] ∧ st = StO.get [(.loc 900, some (.slt 5 1 xs))])
    ?_ (n := k) ⟨k, [], hk, rfl, by simp, by simp, ?_, rfl⟩
  rotate_left
  · rw [wrap64 (by omega) (by omega)]; rfl
  rintro p env st ⟨c, xs, hc8, rfl, hlen, hi, rfl, rfl⟩
  repeat' (first | (with_reducible refine codeT_seq ?_) | (with_reducible refine codeT_block ?_) | (with_reducible refine codeT_skip ?_) | (with_reducible refine codeT_ret ?_) | (with_reducible refine codeT_exit ?_) | (with_reducible refine codeT_regionL ?_) | (with_reducible refine lx_nil ?_) | (with_reducible refine q_then ?_) | (with_reducible refine q_then_exit ?_) | (with_reducible refine q_block ?_) | ((with_reducible refine q_block_same ?_ ?_); · rfl) | (with_reducible refine q_loop_exit ?_) | ((with_reducible refine g_move ?_); first | refine lx_move (r := (.t _)) rfl rfl rfl rfl rfl ?_ | refine lx_move (r := (.row _)) rfl rfl rfl rfl rfl ?_) | ((with_reducible refine g_binOp ?_); first | refine lx_arith rfl rfl rfl rfl rfl rfl rfl ?_ | refine lx_shr rfl rfl rfl rfl rfl rfl ?_ ?_) | ((with_reducible refine g_assign ?_); first | refine lx_assign (r := (.t _)) rfl rfl rfl rfl rfl ?_ | refine lx_assign (r := (.row _)) rfl rfl rfl rfl rfl ?_) | ((with_reducible refine g_convert ?_); first | refine lx_conv_int rfl rfl rfl rfl rfl ?_ | refine lx_ofBytes_row rfl rfl rfl rfl rfl rfl ?_ ?_) | ((with_reducible refine g_buildSlice ?_); first | refine lx_buildSlice rfl rfl rfl rfl rfl rfl rfl ?_) | ((with_reducible refine g_append ?_); first | refine lx_append_row rfl rfl rfl rfl rfl rfl rfl rfl rfl rfl ?_ ?_ ?_) | refine c_condP rfl (fun hc => ?_) (fun hc => ?_))
  · rw [wrap64 (by omega) (by omega), wrapU64 (by omega) (by omega)]; omega
  · simp; omega
  · simp; omega
  · obtain ⟨c, rfl⟩ : ∃ c, p = c + 1 := ⟨p - 1, by omega⟩
    refine q_loop (n' := c) (by omega) ((ghost_keep2 [0, 5, 6] [.loc 21] rfl rfl).trans (ghost_renL2 (.loc 21) (.loc 900) rfl rfl rfl rfl)) ⟨c, _, by omega, rfl, ?_, ?_, ?_, rfl⟩
    · simp; omega
    · rw [← hi, List.append_assoc]
      congr 1
      have e : (min (IntKind.u64.wrap (IntKind.i64.wrap (8 * ((c + 1 : Nat) - 1 : Int)))).toNat IntKind.u64.bits) = 8 * c := by
        rw [wrap64 (by omega) (by omega), wrapU64 (by omega) (by omega)]
        have : IntKind.u64.bits = 64 := rfl
        omega
      rw [e, shr_byte]
      rfl
    · rw [wrap64 (by omega) (by omega)]
      rw [show ((c + 1 : Nat) : Int) - 1 - 1 = (c : Int) - 1 by omega]
      rfl
  · obtain rfl : p = 0 := by omega
    simp only [bigL, u8L, List.map_nil, List.append_nil] at hi
    rw [hi]
    exact u8L_isU8 _
  · obtain rfl : p = 0 := by omega
    simp only [bigL, u8L, List.map_nil, List.append_nil] at hi
    subst hi
    exact q_ret (resT_oneE rfl rfl (congrArg T.str (strT_u8L _))) (by simp)
set_option maxHeartbeats 2000000 in
theorem qOne_spec (b : Int) : Spec Tryd.prog 94 [.t (.int .i64 b)] [] (.t (.str (strT [.int .u8 (IntKind.u8.wrap b)]))) [] := by
  refine spec_intro (env0 := [(0, _)]) (st0 := []) Tryd.func94 rfl rfl rfl rfl ?_
  repeat' (first | (with_reducible refine codeT_seq ?_) | (with_reducible refine codeT_ret ?_) | (with_reducible refine codeT_regionL ?_) | (with_reducible refine lx_nil ?_) | (with_reducible refine q_then ?_) | ((with_reducible refine g_move ?_); first | refine lx_move (r := (.t _)) rfl rfl rfl rfl rfl ?_) | ((with_reducible refine g_assign ?_); first | refine lx_assign (r := (.t _)) rfl rfl rfl rfl rfl ?_) | ((with_reducible refine g_convert ?_); first | refine lx_conv_int rfl rfl rfl rfl rfl ?_ | refine lx_ofBytes_row rfl rfl rfl rfl rfl rfl ?_ ?_) | ((with_reducible refine g_buildSlice ?_); first | refine lx_buildSlice rfl rfl rfl rfl rfl rfl rfl ?_))
  all_goals try exact isU8_one _
  exact q_ret (resT_oneE rfl rfl rfl) (by simp)
theorem oneN {b : Nat} (h : b < 256) : strT [T.int .u8 (IntKind.u8.wrap (b : Int))] = ofL [UInt8.ofNat b] := by
  have : IntKind.u8.wrap (b : Int) = ((UInt8.ofNat b).toNat : Int) := by
    rw [wrapU8 (by omega) (by omega), UInt8.toNat_ofNat']; omega
  rw [this]
  exact strT_u8L [UInt8.ofNat b]
theorem oneM (n : Int) : strT [T.int .u8 (IntKind.u8.wrap n)] = ofL [UInt8.ofNat (n % 256).toNat] := by
  have : IntKind.u8.wrap n = ((UInt8.ofNat (n % 256).toNat).toNat : Int) := by
    simp only [IntKind.wrap, IntKind.bits, IntKind.signed, Bool.false_and, Bool.false_eq_true, if_false]
    rw [UInt8.toNat_ofNat']; omega
  rw [this]
  exact strT_u8L [UInt8.ofNat (n % 256).toNat]
theorem ofL_cons (a : UInt8) (l : List UInt8) : ofL [a] ++ ofL l = ofL (a :: l) := ofL_append [a] l
set_option maxHeartbeats 8000000 in
theorem qNum_spec (n : Int) (h0 : -9223372036854775808 ≤ n) (h1 : n ≤ 9223372036854775807) : Spec Tryd.prog 91 [.t (.int .i64 n)] [] (.t (.str (ofL (pNum n)))) [] := by
  have hu : IntKind.u64.wrap n = ((u64n n : Nat) : Int) := by
    unfold u64n
    simp only [IntKind.wrap, IntKind.bits, IntKind.signed, Bool.false_and, Bool.false_eq_true, if_false]
    omega
  have hun : u64n n < 18446744073709551616 := by unfold u64n; omega
  have b0 := qOne_spec n
  rw [oneM] at b0
  have b1 : Spec Tryd.prog 93 [.t (.int .u64 (IntKind.u64.wrap n)), .t (.int .i64 1)] [] (.t (.str (ofL (bigL 1 (u64n n))))) [] := by rw [hu]; exact qBig_spec _ hun 1 (by omega) (by omega)
  have b2 : Spec Tryd.prog 93 [.t (.int .u64 (IntKind.u64.wrap n)), .t (.int .i64 2)] [] (.t (.str (ofL (bigL 2 (u64n n))))) [] := by rw [hu]; exact qBig_spec _ hun 2 (by omega) (by omega)
  have b4 : Spec Tryd.prog 93 [.t (.int .u64 (IntKind.u64.wrap n)), .t (.int .i64 4)] [] (.t (.str (ofL (bigL 4 (u64n n))))) [] := by rw [hu]; exact qBig_spec _ hun 4 (by omega) (by omega)
  have b8 : Spec Tryd.prog 93 [.t (.int .u64 (IntKind.u64.wrap n)), .t (.int .i64 8)] [] (.t (.str (ofL (bigL 8 (u64n n))))) [] := by rw [hu]; exact qBig_spec _ hun 8 (by omega) (by omega)
  have hR : ofL (pNum n) = if -32 ≤ n ∧ n < 128 then ofL [UInt8.ofNat (n % 256).toNat] else if 0 < n ∧ n < 256 then ⟨#[204]⟩ ++ ofL (bigL 1 (u64n n)) else if 0 < n ∧ n < 65536 then ⟨#[205]⟩ ++ ofL (bigL 2 (u64n n)) else if 0 < n ∧ n < 4294967296 then ⟨#[206]⟩ ++ ofL (bigL 4 (u64n n)) else if 0 < n then ⟨#[207]⟩ ++ ofL (bigL 8 (u64n n)) else if -128 ≤ n then ⟨#[208]⟩ ++ ofL (bigL 1 (u64n n)) else if -32768 ≤ n then ⟨#[209]⟩ ++ ofL (bigL 2 (u64n n)) else if -2147483648 ≤ n then ⟨#[210]⟩ ++ ofL (bigL 4 (u64n n)) else ⟨#[211]⟩ ++ ofL (bigL 8 (u64n n)) := by
    have e (a : UInt8) (l : List UInt8) : (⟨#[a]⟩ : ByteArray) ++ ofL l = ofL (a :: l) := ofL_cons a l
    simp only [e]
    unfold pNum
    repeat' split
    all_goals first | rfl | (exfalso; omega)
  have z (k : Nat) : (ofL (bigL k (u64n n))).size = k := by rw [ofL_size, bigL_len]
  have z1 := z 1
  have z2 := z 2
  have z4 := z 4
  have z8 := z 8
  clear z
  generalize ofL (bigL 1 (u64n n)) = B1 at *
  generalize ofL (bigL 2 (u64n n)) = B2 at *
  generalize ofL (bigL 4 (u64n n)) = B4 at *
  generalize ofL (bigL 8 (u64n n)) = B8 at *
  generalize ofL [UInt8.ofNat (n % 256).toNat] = B0 at *
  generalize ofL (pNum n) = R at hR ⊢
  refine spec_intro (env0 := [(0, _)]) (st0 := []) Tryd.func91 rfl rfl rfl rfl ?_
  repeat' (first | (with_reducible refine codeT_seq ?_) | (with_reducible refine codeT_block ?_) | (with_reducible refine codeT_skip ?_) | (with_reducible refine codeT_ret ?_) | (with_reducible refine codeT_regionL ?_) | (with_reducible refine lx_nil ?_) | (with_reducible refine q_then ?_) | (with_reducible refine q_then_ret ?_) | (with_reducible refine q_block ?_) | (with_reducible refine q_block_ret ?_) | refine c_condF rfl ?_ | ((with_reducible refine g_guard ?_); first | refine lx_skip rfl rfl rfl ?_) | ((with_reducible refine g_move ?_); first | refine lx_move (r := (.t _)) rfl rfl rfl rfl rfl ?_) | ((with_reducible refine g_binOp ?_); first | refine lx_arith rfl rfl rfl rfl rfl rfl rfl ?_ | refine lx_concat rfl rfl rfl rfl rfl rfl ?_ ?_) | ((with_reducible refine g_assign ?_); first | refine lx_assign (r := (.t _)) rfl rfl rfl rfl rfl ?_) | ((with_reducible refine g_pick ?_); first | refine lx_pickT (r := (.t _)) rfl rfl rfl rfl rfl rfl ?_ | refine lx_pickF (r := (.t _)) rfl rfl rfl rfl rfl rfl ?_) | ((with_reducible refine g_convert ?_); first | refine lx_conv_int rfl rfl rfl rfl rfl ?_) | ((with_reducible refine g_call ?_); first | refine lx_callT rfl rfl b0 rfl rfl (ArgsLE.refl _) rfl rfl rfl rfl rfl ?_ | refine lx_callT rfl rfl b1 rfl rfl (ArgsLE.refl _) rfl rfl rfl rfl rfl ?_ | refine lx_callT rfl rfl b2 rfl rfl (ArgsLE.refl _) rfl rfl rfl rfl rfl ?_ | refine lx_callT rfl rfl b4 rfl rfl (ArgsLE.refl _) rfl rfl rfl rfl rfl ?_ | refine lx_callT rfl rfl b8 rfl rfl (ArgsLE.refl _) rfl rfl rfl rfl rfl ?_) | refine c_condP rfl (fun hc => ?_) (fun hc => ?_) | refine lx_splitP rfl (fun hc => ?_) (fun hc => ?_))
  all_goals try (show (1 : Nat) + _ ≤ _; omega)
  all_goals try (exfalso; omega)
  all_goals (refine q_ret (resT_oneE rfl rfl (congrArg T.str ?_)) (by simp); rw [hR]; repeat (first | rw [if_pos (by omega)] | rw [if_neg (by omega)]))
set_option maxHeartbeats 8000000 in
theorem qText_spec (s : ByteArray) (hs : s.size < 4294967296) : Spec Tryd.prog 92 [.t (.str s)] [] (.t (.str (ofL (pTx s)))) [] := by
  have hu : IntKind.u64.wrap (s.size : Int) = ((s.size : Nat) : Int) := wrapU64 (by omega) (by omega)
  have b0 := qOne_spec (IntKind.i64.wrap (160 + (s.size : Int)))
  have b1 : Spec Tryd.prog 93 [.t (.int .u64 (IntKind.u64.wrap (s.size : Int))), .t (.int .i64 1)] [] (.t (.str (ofL (bigL 1 s.size)))) [] := by rw [hu]; exact qBig_spec _ (by omega) 1 (by omega) (by omega)
  have b2 : Spec Tryd.prog 93 [.t (.int .u64 (IntKind.u64.wrap (s.size : Int))), .t (.int .i64 2)] [] (.t (.str (ofL (bigL 2 s.size)))) [] := by rw [hu]; exact qBig_spec _ (by omega) 2 (by omega) (by omega)
  have b4 : Spec Tryd.prog 93 [.t (.int .u64 (IntKind.u64.wrap (s.size : Int))), .t (.int .i64 4)] [] (.t (.str (ofL (bigL 4 s.size)))) [] := by rw [hu]; exact qBig_spec _ (by omega) 4 (by omega) (by omega)
  have hR : ofL (pTx s) = if s.size < 32 then strT [.int .u8 (IntKind.u8.wrap (IntKind.i64.wrap (160 + (s.size : Int))))] ++ s else if s.size < 256 then ⟨#[217]⟩ ++ ofL (bigL 1 s.size) ++ s else if s.size < 65536 then ⟨#[218]⟩ ++ ofL (bigL 2 s.size) ++ s else ⟨#[219]⟩ ++ ofL (bigL 4 s.size) ++ s := by
    have e (a : UInt8) (l : List UInt8) : (⟨#[a]⟩ : ByteArray) ++ ofL l = ofL (a :: l) := ofL_cons a l
    have e0 : ofL (pTx s) = ofL (pTh s.size) ++ s := by unfold pTx; rw [← ofL_append, ofL_of]
    rw [e0]
    simp only [e]
    unfold pTh
    repeat' split
    · rw [wrap64 (by omega) (by omega), show (160 + (s.size : Int)) = ((160 + s.size : Nat) : Int) by omega, oneN (by omega)]
    all_goals first | rfl | (exfalso; omega)
  have z (k : Nat) : (ofL (bigL k s.size)).size = k := by rw [ofL_size, bigL_len]
  have z1 := z 1
  have z2 := z 2
  have z4 := z 4
  clear z
  have z0 := strT_len [.int .u8 (IntKind.u8.wrap (IntKind.i64.wrap (160 + (s.size : Int))))]
  generalize ofL (bigL 1 s.size) = B1 at *
  generalize ofL (bigL 2 s.size) = B2 at *
  generalize ofL (bigL 4 s.size) = B4 at *
  generalize strT [.int .u8 (IntKind.u8.wrap (IntKind.i64.wrap (160 + (s.size : Int))))] = B0 at *
  generalize ofL (pTx s) = R at hR ⊢
  refine spec_intro (env0 := [(0, _)]) (st0 := []) Tryd.func92 rfl rfl rfl rfl ?_
  repeat' (first | refine c_condP rfl (fun hc => ?_) (fun hc => ?_) | (with_reducible refine codeT_seq ?_) | (with_reducible refine codeT_block ?_) | (with_reducible refine codeT_skip ?_) | (with_reducible refine codeT_ret ?_) | (with_reducible refine codeT_regionL ?_) | (with_reducible refine lx_nil ?_) | (with_reducible refine q_then ?_) | (with_reducible refine q_then_ret ?_) | (with_reducible refine q_block ?_) | (with_reducible refine q_block_ret ?_) | ((with_reducible refine g_move ?_); first | refine lx_move (r := (.t _)) rfl rfl rfl rfl rfl ?_) | ((with_reducible refine g_binOp ?_); first | refine lx_arith rfl rfl rfl rfl rfl rfl rfl ?_ | refine lx_concat rfl rfl rfl rfl rfl rfl ?_ ?_) | ((with_reducible refine g_assign ?_); first | refine lx_assign (r := (.t _)) rfl rfl rfl rfl rfl ?_) | ((with_reducible refine g_convert ?_); first | refine lx_conv_int rfl rfl rfl rfl rfl ?_) | ((with_reducible refine g_len ?_); first | refine lx_len_str rfl rfl rfl rfl rfl ?_) | ((with_reducible refine g_call ?_); first | refine lx_callT rfl rfl b0 rfl rfl (ArgsLE.refl _) rfl rfl rfl rfl rfl ?_ | refine lx_callT rfl rfl b1 rfl rfl (ArgsLE.refl _) rfl rfl rfl rfl rfl ?_ | refine lx_callT rfl rfl b2 rfl rfl (ArgsLE.refl _) rfl rfl rfl rfl rfl ?_ | refine lx_callT rfl rfl b4 rfl rfl (ArgsLE.refl _) rfl rfl rfl rfl rfl ?_))
  all_goals try (show (1 : Nat) + _ ≤ _; omega)
  all_goals try (rw [ByteArray.size_append]; show (1 : Nat) + _ + _ ≤ _; omega)
  all_goals try (rw [z0]; show (1 : Nat) + _ ≤ _; omega)
  all_goals try (exfalso; omega)
  all_goals (refine q_ret (resT_oneE rfl rfl (congrArg T.str ?_)) (by simp); rw [hR]; repeat (first | rw [if_pos (by omega)] | rw [if_neg (by omega)]))
end Go.AL
/- What the document's Write and Encode of the third serialisation answer. -/
set_option linter.unusedVariables false
namespace Go.AL
open Go Go.Proofs Go.RowKit

theorem cn_str (few many n : Nat) (hn : n ≤ 256) (hf : few + n < 256 ∨ 16 ≤ n) : ofL (pCn few many n) = if n < 16 then strT [.int .u8 (IntKind.u8.wrap (IntKind.i64.wrap ((few : Int) + (n : Int))))] else ofL (UInt8.ofNat many :: bigL 2 n) := by
  unfold pCn
  split
  · rw [wrap64 (by omega) (by omega), show ((few : Int) + (n : Int)) = ((few + n : Nat) : Int) by omega, oneN (by omega)]
  · rfl
set_option maxHeartbeats 8000000 in
theorem qWrite_seq (k : Int) (hk45 : k = 4 ∨ k = 5) (b : Bool) (n : Int) (t : ByteArray) (ns : List ByteArray) (is : List Nd) (hlen : is.length ≤ 256) (hk : k = 5 → ns.length = is.length)
    (hns : ∀ s ∈ ns, s.size ≤ 65536) (hb : (pCn (pFew k) (pMany k) is.length).length + (preP k ns is is.length).length ≤ 50000000)
    (IH : ∀ i, i < is.length → (is.getD i default).pb.length ≤ 50000000 → Spec Tryd.prog 65 [.t (is.getD i default).toT] [] (.t (.str (ofL (is.getD i default).pb))) []) :
    Spec Tryd.prog 65 [.t (.agg [.int .i64 k, .bool b, .int .i64 n, .str t, .sl 1 (ns.map .str), .sl 6 (is.map Nd.toT)])] [] (.t (.str (ofL (pCn (pFew k) (pMany k) is.length ++ preP k ns is is.length)))) [] := by
  have hu : IntKind.u64.wrap (is.length : Int) = ((is.length : Nat) : Int) := wrapU64 (by omega) (by omega)
  have b2 : Spec Tryd.prog 93 [.t (.int .u64 (IntKind.u64.wrap (is.length : Int))), .t (.int .i64 2)] [] (.t (.str (ofL (bigL 2 is.length)))) [] := by rw [hu]; exact qBig_spec _ (by omega) 2 (by omega) (by omega)
  have z2 : (ofL (bigL 2 is.length)).size = 2 := by rw [ofL_size, bigL_len]
  have o4 := qOne_spec (IntKind.i64.wrap (144 + (is.length : Int)))
  have o5 := qOne_spec (IntKind.i64.wrap (128 + (is.length : Int)))
  have h4 := cn_str 144 220 is.length hlen (by omega)
  have h5 := cn_str 128 222 is.length hlen (by omega)
  have hmono := fun i j (hij : i ≤ j) (hj : j ≤ is.length) => preP_mono (k := k) hk hij hj
  have e1 (a : UInt8) : (⟨#[a]⟩ : ByteArray) ++ ofL (bigL 2 is.length) = ofL (a :: bigL 2 is.length) := ofL_cons a _
  rw [← show (⟨#[220]⟩ : ByteArray) ++ ofL (bigL 2 is.length) = ofL (UInt8.ofNat 220 :: bigL 2 is.length) from e1 _] at h4
  rw [← show (⟨#[222]⟩ : ByteArray) ++ ofL (bigL 2 is.length) = ofL (UInt8.ofNat 222 :: bigL 2 is.length) from e1 _] at h5
  clear e1
  generalize ofL (bigL 2 is.length) = B2 at *
  obtain rfl | rfl := hk45
  · rw [show pFew 4 = 144 from rfl, show pMany 4 = 220 from rfl] at *
    obtain ⟨H0, hH0⟩ : ∃ H, H = pCn 144 220 is.length := ⟨_, rfl⟩
    rw [← hH0] at h4 hb ⊢
    have ha : (is.length : Int) < 16 → strT [.int .u8 (IntKind.u8.wrap (IntKind.i64.wrap (144 + (is.length : Int))))] = ofL H0 := fun h => by rw [h4, if_pos (by omega)]; rfl
    have hb' : ¬ (is.length : Int) < 16 → (⟨#[220]⟩ : ByteArray) ++ B2 = ofL H0 := fun h => by rw [h4, if_neg (by omega)]
    refine spec_intro (env0 := [(0, _)]) (st0 := []) Tryd.func65 rfl rfl rfl rfl ?_
    repeat' (first | (with_reducible refine codeT_seq ?_) | (with_reducible refine codeT_block ?_) | (with_reducible refine codeT_skip ?_) | (with_reducible refine codeT_regionL ?_) | (with_reducible refine lx_nil ?_) | (with_reducible refine q_then ?_) | (with_reducible refine q_block ?_) | refine c_condT rfl ?_ | refine c_condF rfl ?_ | ((with_reducible refine g_move ?_); first | refine lx_move (r := (.t _)) rfl rfl rfl rfl rfl ?_) | ((with_reducible refine g_load ?_); first | refine lx_load_var rfl rfl rfl rfl rfl rfl rfl rfl ?_) | ((with_reducible refine g_fieldAddr ?_); first | refine lx_fieldAddr rfl rfl rfl rfl rfl rfl rfl ?_) | ((with_reducible refine g_binOp ?_); first | refine lx_arith rfl rfl rfl rfl rfl rfl rfl ?_ | refine lx_concat rfl rfl rfl rfl rfl rfl ?_ ?_) | ((with_reducible refine g_assign ?_); first | refine lx_assign (r := (.t _)) rfl rfl rfl rfl rfl ?_) | ((with_reducible refine g_box ?_); first | refine lx_box (r := (.t (.agg _))) (cs := (List.map .t _)) rfl rfl rfl rfl rfl rfl rfl rfl rfl ?_) | ((with_reducible refine g_convert ?_); first | refine lx_conv_int rfl rfl rfl rfl rfl ?_) | ((with_reducible refine g_len ?_); first | refine lx_len_map rfl rfl rfl rfl rfl ?_) | ((with_reducible refine g_call ?_); first | refine lx_callT rfl rfl b2 rfl rfl (ArgsLE.refl _) rfl rfl rfl rfl rfl ?_ | refine lx_callT rfl rfl o4 rfl rfl (ArgsLE.refl _) rfl rfl rfl rfl rfl ?_) | refine c_condP rfl (fun hc => ?_) (fun hc => ?_))
    · show 1 + _ ≤ _; omega
    all_goals first | rw [ha hc] | rw [hb' hc]
    all_goals (clear ha hb' h4 hc)
    all_goals (refine codeT_ghost (ghost_keep2 [1, 4, 49, 50, 51] [.loc 1] rfl rfl) ?_)
    all_goals
     refine codeT_loop (fun p env st => ∃ (j : Nat) (S : ByteArray), j ≤ is.length ∧ p = is.length - j ∧ S = ofL (H0 ++ preP 4 ns is j) ∧
        env = EnvL.get [(1, .ref (.loc 1) 0 0 0), (4, .t (.str S)), (49, .t (.sl 6 (is.map Nd.toT))), (50, .t (.int .i64 is.length)), (51, .t (.int .i64 (j : Int)))] ∧
        st = StO.get [(.loc 1, some (.var 26 [.t (.int .i64 4), .t (.bool b), .t (.int .i64 n), .t (.str t), .t (.sl 1 (ns.map .str)), .t (.sl 6 (is.map Nd.toT))]))])
      ?_ (n := is.length) ⟨0, ofL H0, by omega, rfl, by simp [preP, Nd.pbs, Nd.pbm], rfl, rfl⟩
    all_goals
      rintro p env st ⟨j, S, hj, rfl, hS, rfl, rfl⟩
      by_cases hlt : j < is.length
      · have hle := hmono (j + 1) is.length (by omega) (by omega)
        rw [preP_list (by decide) hlt, List.length_append] at hle
        have hP := IH j hlt (by omega)
        have hsz : S.size = H0.length + (preP 4 ns is j).length := by rw [hS, ofL_size, List.length_append]
        have hT := (is.getD j default).toT_full
        rw [hT] at hP
        have hw : ofL (H0 ++ preP 4 ns is (j + 1)) = S ++ ofL (is.getD j default).pb := by
          rw [preP_list (by decide) hlt, hS, ofL_append, List.append_assoc]
        obtain ⟨W, hW⟩ : ∃ W, W = ofL (is.getD j default).pb := ⟨_, rfl⟩
        have hWs : W.size = (is.getD j default).pb.length := by rw [hW, ofL_size]
        rw [← hW] at hP hw
        have hg : is.getD (j : Int).toNat default = is.getD j default := rfl
        repeat' (first | (with_reducible refine codeT_seq ?_) | (with_reducible refine codeT_block ?_) | (with_reducible refine codeT_skip ?_) | (with_reducible refine codeT_ret ?_) | (with_reducible refine codeT_exit ?_) | (with_reducible refine codeT_regionL ?_) | (with_reducible refine lx_nil ?_) | (with_reducible refine q_then ?_) | (with_reducible refine q_then_exit ?_) | (with_reducible refine q_block ?_) | ((with_reducible refine q_block_same ?_ ?_); · rfl) | (with_reducible refine q_loop_exit ?_) | refine c_condF rfl ?_ | refine lx_load_tpAE rfl rfl hT rfl rfl rfl rfl rfl rfl ?_ | ((with_reducible refine g_move ?_); first | refine lx_move (r := (.t _)) rfl rfl rfl rfl rfl ?_) | ((with_reducible refine g_load ?_); first | refine lx_load_var rfl rfl rfl rfl rfl rfl rfl rfl ?_ | refine lx_load_varA (r := (.t (.agg _))) rfl rfl rfl rfl rfl rfl rfl rfl rfl ?_) | ((with_reducible refine g_fieldAddr ?_); first | refine lx_fieldAddr rfl rfl rfl rfl rfl rfl rfl ?_) | ((with_reducible refine g_binOp ?_); first | refine lx_arith rfl rfl rfl rfl rfl rfl rfl ?_ | refine lx_concat rfl rfl rfl rfl rfl rfl ?_ ?_) | ((with_reducible refine g_assign ?_); first | refine lx_assign (r := (.t _)) rfl rfl rfl rfl rfl ?_) | ((with_reducible refine g_alloc ?_); first | refine lx_alloc rfl rfl rfl rfl rfl rfl rfl ?_) | ((with_reducible refine g_store ?_); first | refine lx_store_var (r := (.t (.agg _))) rfl rfl rfl rfl rfl rfl rfl rfl rfl rfl ?_) | ((with_reducible refine g_indexAddr ?_); first | refine lx_indexAddr_map rfl rfl rfl rfl rfl rfl ?_ ?_ ?_) | ((with_reducible refine g_call ?_); first | refine lx_callT rfl rfl hP rfl rfl (ArgsLE.refl _) rfl rfl rfl rfl rfl ?_) | refine c_condP rfl (fun hc => ?_) (fun hc => ?_))
        all_goals try omega
        all_goals try (simp only [ByteArray.size_append] at *; omega)
        all_goals try (exfalso; omega)
        exact q_loop (n' := is.length - (j + 1)) (by omega) (ghost_keep2 [1, 4, 49, 50, 51] [.loc 1] rfl rfl) ⟨j + 1, _, by omega, rfl, hw.symm, by rw [wrap64 (by omega) (by omega)]; rfl, rfl⟩
      · repeat' (first | (with_reducible refine codeT_seq ?_) | (with_reducible refine codeT_block ?_) | (with_reducible refine codeT_skip ?_) | (with_reducible refine codeT_ret ?_) | (with_reducible refine codeT_exit ?_) | (with_reducible refine codeT_regionL ?_) | (with_reducible refine lx_nil ?_) | (with_reducible refine q_then ?_) | (with_reducible refine q_then_exit ?_) | ((with_reducible refine q_block_same ?_ ?_); · rfl) | (with_reducible refine q_loop_exit ?_) | ((with_reducible refine g_move ?_); first | refine lx_move (r := (.t _)) rfl rfl rfl rfl rfl ?_) | ((with_reducible refine g_binOp ?_); first | refine lx_arith rfl rfl rfl rfl rfl rfl rfl ?_) | ((with_reducible refine g_assign ?_); first | refine lx_assign (r := (.t _)) rfl rfl rfl rfl rfl ?_) | ((with_reducible refine g_indexAddr ?_); first | refine lx_indexAddr_map rfl rfl rfl rfl rfl rfl ?_ ?_ ?_) | refine c_condP rfl (fun hc => ?_) (fun hc => ?_))
        all_goals try (exfalso; omega)
        obtain rfl : j = is.length := by omega
        exact q_ret (resT_oneE rfl rfl (congrArg T.str hS)) (by simp)
  · rw [show pFew 5 = 128 from rfl, show pMany 5 = 222 from rfl] at *
    obtain ⟨H0, hH0⟩ : ∃ H, H = pCn 128 222 is.length := ⟨_, rfl⟩
    rw [← hH0] at h5 hb ⊢
    have ha : (is.length : Int) < 16 → strT [.int .u8 (IntKind.u8.wrap (IntKind.i64.wrap (128 + (is.length : Int))))] = ofL H0 := fun h => by rw [h5, if_pos (by omega)]; rfl
    have hb' : ¬ (is.length : Int) < 16 → (⟨#[222]⟩ : ByteArray) ++ B2 = ofL H0 := fun h => by rw [h5, if_neg (by omega)]
    refine spec_intro (env0 := [(0, _)]) (st0 := []) Tryd.func65 rfl rfl rfl rfl ?_
    repeat' (first | (with_reducible refine codeT_seq ?_) | (with_reducible refine codeT_block ?_) | (with_reducible refine codeT_skip ?_) | (with_reducible refine codeT_regionL ?_) | (with_reducible refine lx_nil ?_) | (with_reducible refine q_then ?_) | (with_reducible refine q_block ?_) | refine c_condF rfl ?_ | ((with_reducible refine g_move ?_); first | refine lx_move (r := (.t _)) rfl rfl rfl rfl rfl ?_) | ((with_reducible refine g_load ?_); first | refine lx_load_var rfl rfl rfl rfl rfl rfl rfl rfl ?_) | ((with_reducible refine g_fieldAddr ?_); first | refine lx_fieldAddr rfl rfl rfl rfl rfl rfl rfl ?_) | ((with_reducible refine g_binOp ?_); first | refine lx_arith rfl rfl rfl rfl rfl rfl rfl ?_ | refine lx_concat rfl rfl rfl rfl rfl rfl ?_ ?_) | ((with_reducible refine g_assign ?_); first | refine lx_assign (r := (.t _)) rfl rfl rfl rfl rfl ?_) | ((with_reducible refine g_box ?_); first | refine lx_box (r := (.t (.agg _))) (cs := (List.map .t _)) rfl rfl rfl rfl rfl rfl rfl rfl rfl ?_) | ((with_reducible refine g_convert ?_); first | refine lx_conv_int rfl rfl rfl rfl rfl ?_) | ((with_reducible refine g_len ?_); first | refine lx_len_map rfl rfl rfl rfl rfl ?_) | ((with_reducible refine g_call ?_); first | refine lx_callT rfl rfl b2 rfl rfl (ArgsLE.refl _) rfl rfl rfl rfl rfl ?_ | refine lx_callT rfl rfl o5 rfl rfl (ArgsLE.refl _) rfl rfl rfl rfl rfl ?_) | refine c_condP rfl (fun hc => ?_) (fun hc => ?_))
    · show 1 + _ ≤ _; omega
    all_goals first | rw [ha hc] | rw [hb' hc]
    all_goals (clear ha hb' h5 hc)
    all_goals (refine codeT_ghost (ghost_keep2 [1, 4, 49, 50, 51] [.loc 1] rfl rfl) ?_)
    all_goals
     refine codeT_loop (fun p env st => ∃ (j : Nat) (S : ByteArray), j ≤ is.length ∧ p = is.length - j ∧ S = ofL (H0 ++ preP 5 ns is j) ∧
        env = EnvL.get [(1, .ref (.loc 1) 0 0 0), (4, .t (.str S)), (49, .t (.sl 6 (is.map Nd.toT))), (50, .t (.int .i64 is.length)), (51, .t (.int .i64 (j : Int)))] ∧
        st = StO.get [(.loc 1, some (.var 26 [.t (.int .i64 5), .t (.bool b), .t (.int .i64 n), .t (.str t), .t (.sl 1 (ns.map .str)), .t (.sl 6 (is.map Nd.toT))]))])
      ?_ (n := is.length) ⟨0, ofL H0, by omega, rfl, by simp [preP, Nd.pbs, Nd.pbm], rfl, rfl⟩
    all_goals
      rintro p env st ⟨j, S, hj, rfl, hS, rfl, rfl⟩
      by_cases hlt : j < is.length
      · have hle := hmono (j + 1) is.length (by omega) (by omega)
        have hl5 := hk rfl
        rw [preP_map hl5 hlt, List.length_append, List.length_append] at hle
        have hP := IH j hlt (by omega)
        have hsz : S.size = H0.length + (preP 5 ns is j).length := by rw [hS, ofL_size, List.length_append]
        have hT := (is.getD j default).toT_full
        rw [hT] at hP
        have hsn : (ns.getD j default).size ≤ 65536 := hns _ (by rw [List.getD_eq_getElem?_getD, List.getElem?_eq_getElem (by omega)]; simp)
        have hw : ofL (H0 ++ preP 5 ns is (j + 1)) = S ++ ofL (pTx (ns.getD j default)) ++ ofL (is.getD j default).pb := by
          rw [preP_map hl5 hlt, hS, ofL_append, ofL_append]
          simp only [List.append_assoc]
        obtain ⟨W, hW⟩ : ∃ W, W = ofL (is.getD j default).pb := ⟨_, rfl⟩
        have hWs : W.size = (is.getD j default).pb.length := by rw [hW, ofL_size]
        rw [← hW] at hP hw
        have hH3 := qText_spec (ns.getD (j : Int).toNat default) (by show (ns.getD j default).size < _; omega)
        have hgn : (ns.getD (j : Int).toNat default) = ns.getD j default := rfl
        rw [← hgn] at hw hle
        obtain ⟨H3, hH3e⟩ : ∃ H, H = ofL (pTx (ns.getD (j : Int).toNat default)) := ⟨_, rfl⟩
        have hH3s : H3.size = (pTx (ns.getD (j : Int).toNat default)).length := by rw [hH3e, ofL_size]
        rw [← hH3e] at hH3 hw
        repeat' (first | (with_reducible refine codeT_seq ?_) | (with_reducible refine codeT_block ?_) | (with_reducible refine codeT_skip ?_) | (with_reducible refine codeT_ret ?_) | (with_reducible refine codeT_exit ?_) | (with_reducible refine codeT_regionL ?_) | (with_reducible refine lx_nil ?_) | (with_reducible refine q_then ?_) | (with_reducible refine q_then_exit ?_) | (with_reducible refine q_block ?_) | ((with_reducible refine q_block_same ?_ ?_); · rfl) | (with_reducible refine q_loop_exit ?_) | refine c_condT rfl ?_ | refine lx_load_tpAE rfl rfl hT rfl rfl rfl rfl rfl rfl ?_ | ((with_reducible refine g_move ?_); first | refine lx_move (r := (.t _)) rfl rfl rfl rfl rfl ?_) | ((with_reducible refine g_load ?_); first | refine lx_load_var rfl rfl rfl rfl rfl rfl rfl rfl ?_ | refine lx_load_varA (r := (.t (.agg _))) rfl rfl rfl rfl rfl rfl rfl rfl rfl ?_ | refine lx_load_tp rfl rfl rfl rfl rfl rfl rfl ?_) | ((with_reducible refine g_fieldAddr ?_); first | refine lx_fieldAddr rfl rfl rfl rfl rfl rfl rfl ?_) | ((with_reducible refine g_binOp ?_); first | refine lx_arith rfl rfl rfl rfl rfl rfl rfl ?_ | refine lx_concat rfl rfl rfl rfl rfl rfl ?_ ?_) | ((with_reducible refine g_assign ?_); first | refine lx_assign (r := (.t _)) rfl rfl rfl rfl rfl ?_) | ((with_reducible refine g_alloc ?_); first | refine lx_alloc rfl rfl rfl rfl rfl rfl rfl ?_) | ((with_reducible refine g_store ?_); first | refine lx_store_var (r := (.t (.agg _))) rfl rfl rfl rfl rfl rfl rfl rfl rfl rfl ?_) | ((with_reducible refine g_indexAddr ?_); first | refine lx_indexAddr_map rfl rfl rfl rfl rfl rfl ?_ ?_ ?_) | ((with_reducible refine g_call ?_); first | refine lx_callT rfl rfl hP rfl rfl (ArgsLE.refl _) rfl rfl rfl rfl rfl ?_ | refine lx_callT rfl rfl hH3 rfl rfl (ArgsLE.refl _) rfl rfl rfl rfl rfl ?_) | refine c_condP rfl (fun hc => ?_) (fun hc => ?_))
        all_goals try omega
        all_goals try (simp only [ByteArray.size_append] at *; omega)
        all_goals try (exfalso; omega)
        exact q_loop (n' := is.length - (j + 1)) (by omega) (ghost_keep2 [1, 4, 49, 50, 51] [.loc 1] rfl rfl) ⟨j + 1, _, by omega, rfl, hw.symm, by rw [wrap64 (by omega) (by omega)]; rfl, rfl⟩
      · repeat' (first | (with_reducible refine codeT_seq ?_) | (with_reducible refine codeT_block ?_) | (with_reducible refine codeT_skip ?_) | (with_reducible refine codeT_ret ?_) | (with_reducible refine codeT_exit ?_) | (with_reducible refine codeT_regionL ?_) | (with_reducible refine lx_nil ?_) | (with_reducible refine q_then ?_) | (with_reducible refine q_then_exit ?_) | ((with_reducible refine q_block_same ?_ ?_); · rfl) | (with_reducible refine q_loop_exit ?_) | ((with_reducible refine g_move ?_); first | refine lx_move (r := (.t _)) rfl rfl rfl rfl rfl ?_) | ((with_reducible refine g_binOp ?_); first | refine lx_arith rfl rfl rfl rfl rfl rfl rfl ?_) | ((with_reducible refine g_assign ?_); first | refine lx_assign (r := (.t _)) rfl rfl rfl rfl rfl ?_) | ((with_reducible refine g_indexAddr ?_); first | refine lx_indexAddr_map rfl rfl rfl rfl rfl rfl ?_ ?_ ?_) | refine c_condP rfl (fun hc => ?_) (fun hc => ?_))
        all_goals try (exfalso; omega)
        obtain rfl : j = is.length := by omega
        exact q_ret (resT_oneE rfl rfl (congrArg T.str hS)) (by simp)
theorem sP0 : (⟨#[192]⟩ : ByteArray) = ofL [192] := rfl
theorem sP2 : (⟨#[194]⟩ : ByteArray) = ofL [194] := rfl
theorem sP3 : (⟨#[195]⟩ : ByteArray) = ofL [195] := rfl
set_option maxHeartbeats 8000000 in
theorem qWrite_spec {V : ByteArray → Bool} : ∀ (x : Nd) (e : Int), x.validB V e = true → x.In → x.pb.length ≤ 50000000 →
    Spec Tryd.prog 65 [.t x.toT] [] (.t (.str (ofL x.pb))) []
  | .mk k b n t ns is, e, hv, hin, hb => by
    rw [valid_mk] at hv
    obtain ⟨h1, h2, h3, h4, h5, h6, h7, h8⟩ := hv
    cases hin with
    | mk i1 i2 i3 =>
    rw [Nd.toT_eq]
    have hk : k = 0 ∨ k = 1 ∨ k = 2 ∨ k = 3 ∨ (k = 4 ∨ k = 5) := by omega
    rcases hk with rfl | rfl | rfl | rfl | hk
    · rw [show (Nd.mk 0 b n t ns is).pb = [192] by simp [Nd.pb], ← sP0]
      refine spec_intro (env0 := [(0, _)]) (st0 := []) Tryd.func65 rfl rfl rfl rfl ?_
      repeat' (first | (with_reducible refine codeT_seq ?_) | (with_reducible refine codeT_block ?_) | (with_reducible refine codeT_ret ?_) | (with_reducible refine codeT_regionL ?_) | (with_reducible refine lx_nil ?_) | (with_reducible refine q_then ?_) | (with_reducible refine q_then_ret ?_) | (with_reducible refine q_block_ret ?_) | refine c_condT rfl ?_ | ((with_reducible refine g_load ?_); first | refine lx_load_var rfl rfl rfl rfl rfl rfl rfl rfl ?_) | ((with_reducible refine g_fieldAddr ?_); first | refine lx_fieldAddr rfl rfl rfl rfl rfl rfl rfl ?_) | ((with_reducible refine g_binOp ?_); first | refine lx_arith rfl rfl rfl rfl rfl rfl rfl ?_) | ((with_reducible refine g_assign ?_); first | refine lx_assign (r := (.t _)) rfl rfl rfl rfl rfl ?_) | ((with_reducible refine g_box ?_); first | refine lx_box (r := (.t (.agg _))) (cs := (List.map .t _)) rfl rfl rfl rfl rfl rfl rfl rfl rfl ?_) | ((with_reducible refine g_len ?_); first | refine lx_len_map rfl rfl rfl rfl rfl ?_))
      exact q_ret (resT_oneE rfl rfl rfl) (by simp)
    · cases b with
      | true =>
        rw [show (Nd.mk 1 true n t ns is).pb = [195] by simp [Nd.pb], ← sP3]
        refine spec_intro (env0 := [(0, _)]) (st0 := []) Tryd.func65 rfl rfl rfl rfl ?_
        repeat' (first | (with_reducible refine codeT_seq ?_) | (with_reducible refine codeT_block ?_) | (with_reducible refine codeT_ret ?_) | (with_reducible refine codeT_regionL ?_) | (with_reducible refine lx_nil ?_) | (with_reducible refine q_then ?_) | (with_reducible refine q_then_ret ?_) | (with_reducible refine q_block_ret ?_) | refine c_condT rfl ?_ | refine c_condF rfl ?_ | ((with_reducible refine g_load ?_); first | refine lx_load_var rfl rfl rfl rfl rfl rfl rfl rfl ?_) | ((with_reducible refine g_fieldAddr ?_); first | refine lx_fieldAddr rfl rfl rfl rfl rfl rfl rfl ?_) | ((with_reducible refine g_binOp ?_); first | refine lx_arith rfl rfl rfl rfl rfl rfl rfl ?_) | ((with_reducible refine g_assign ?_); first | refine lx_assign (r := (.t _)) rfl rfl rfl rfl rfl ?_) | ((with_reducible refine g_box ?_); first | refine lx_box (r := (.t (.agg _))) (cs := (List.map .t _)) rfl rfl rfl rfl rfl rfl rfl rfl rfl ?_) | ((with_reducible refine g_len ?_); first | refine lx_len_map rfl rfl rfl rfl rfl ?_))
        exact q_ret (resT_oneE rfl rfl rfl) (by simp)
      | false =>
        rw [show (Nd.mk 1 false n t ns is).pb = [194] by simp [Nd.pb], ← sP2]
        refine spec_intro (env0 := [(0, _)]) (st0 := []) Tryd.func65 rfl rfl rfl rfl ?_
        repeat' (first | (with_reducible refine codeT_seq ?_) | (with_reducible refine codeT_block ?_) | (with_reducible refine codeT_skip ?_) | (with_reducible refine codeT_ret ?_) | (with_reducible refine codeT_regionL ?_) | (with_reducible refine lx_nil ?_) | (with_reducible refine q_then ?_) | (with_reducible refine q_then_ret ?_) | (with_reducible refine q_block_ret ?_) | refine c_condT rfl ?_ | refine c_condF rfl ?_ | ((with_reducible refine g_load ?_); first | refine lx_load_var rfl rfl rfl rfl rfl rfl rfl rfl ?_) | ((with_reducible refine g_fieldAddr ?_); first | refine lx_fieldAddr rfl rfl rfl rfl rfl rfl rfl ?_) | ((with_reducible refine g_binOp ?_); first | refine lx_arith rfl rfl rfl rfl rfl rfl rfl ?_) | ((with_reducible refine g_assign ?_); first | refine lx_assign (r := (.t _)) rfl rfl rfl rfl rfl ?_) | ((with_reducible refine g_box ?_); first | refine lx_box (r := (.t (.agg _))) (cs := (List.map .t _)) rfl rfl rfl rfl rfl rfl rfl rfl rfl ?_) | ((with_reducible refine g_len ?_); first | refine lx_len_map rfl rfl rfl rfl rfl ?_))
        exact q_ret (resT_oneE rfl rfl rfl) (by simp)
    · have ec : (Nd.mk 2 b n t ns is).pb = pNum n := by simp [Nd.pb]
      rw [ec]
      have hH := qNum_spec n i1 i2
      generalize ofL (pNum n) = R at hH ⊢
      refine spec_intro (env0 := [(0, _)]) (st0 := []) Tryd.func65 rfl rfl rfl rfl ?_
      repeat' (first | (with_reducible refine codeT_seq ?_) | (with_reducible refine codeT_block ?_) | (with_reducible refine codeT_ret ?_) | (with_reducible refine codeT_regionL ?_) | (with_reducible refine lx_nil ?_) | (with_reducible refine q_then ?_) | (with_reducible refine q_then_ret ?_) | (with_reducible refine q_block_ret ?_) | refine c_condT rfl ?_ | refine c_condF rfl ?_ | ((with_reducible refine g_load ?_); first | refine lx_load_var rfl rfl rfl rfl rfl rfl rfl rfl ?_) | ((with_reducible refine g_fieldAddr ?_); first | refine lx_fieldAddr rfl rfl rfl rfl rfl rfl rfl ?_) | ((with_reducible refine g_binOp ?_); first | refine lx_arith rfl rfl rfl rfl rfl rfl rfl ?_) | ((with_reducible refine g_assign ?_); first | refine lx_assign (r := (.t _)) rfl rfl rfl rfl rfl ?_) | ((with_reducible refine g_box ?_); first | refine lx_box (r := (.t (.agg _))) (cs := (List.map .t _)) rfl rfl rfl rfl rfl rfl rfl rfl rfl ?_) | ((with_reducible refine g_len ?_); first | refine lx_len_map rfl rfl rfl rfl rfl ?_) | ((with_reducible refine g_call ?_); first | refine lx_callT rfl rfl hH rfl rfl (ArgsLE.refl _) rfl rfl rfl rfl rfl ?_))
      exact q_ret (resT_oneE rfl rfl rfl) (by simp)
    · have ec : (Nd.mk 3 b n t ns is).pb = pTx t := by simp [Nd.pb]
      have ht : t.size ≤ 65536 := by
        simp only [textB, Bool.and_eq_true, decide_eq_true_eq] at h5; omega
      rw [ec]
      have hH := qText_spec t (by omega)
      generalize ofL (pTx t) = R at hH ⊢
      refine spec_intro (env0 := [(0, _)]) (st0 := []) Tryd.func65 rfl rfl rfl rfl ?_
      repeat' (first | (with_reducible refine codeT_seq ?_) | (with_reducible refine codeT_block ?_) | (with_reducible refine codeT_ret ?_) | (with_reducible refine codeT_regionL ?_) | (with_reducible refine lx_nil ?_) | (with_reducible refine q_then ?_) | (with_reducible refine q_then_ret ?_) | (with_reducible refine q_block_ret ?_) | refine c_condT rfl ?_ | refine c_condF rfl ?_ | ((with_reducible refine g_load ?_); first | refine lx_load_var rfl rfl rfl rfl rfl rfl rfl rfl ?_) | ((with_reducible refine g_fieldAddr ?_); first | refine lx_fieldAddr rfl rfl rfl rfl rfl rfl rfl ?_) | ((with_reducible refine g_binOp ?_); first | refine lx_arith rfl rfl rfl rfl rfl rfl rfl ?_) | ((with_reducible refine g_assign ?_); first | refine lx_assign (r := (.t _)) rfl rfl rfl rfl rfl ?_) | ((with_reducible refine g_box ?_); first | refine lx_box (r := (.t (.agg _))) (cs := (List.map .t _)) rfl rfl rfl rfl rfl rfl rfl rfl rfl ?_) | ((with_reducible refine g_len ?_); first | refine lx_len_map rfl rfl rfl rfl rfl ?_) | ((with_reducible refine g_call ?_); first | refine lx_callT rfl rfl hH rfl rfl (ArgsLE.refl _) rfl rfl rfl rfl rfl ?_))
      exact q_ret (resT_oneE rfl rfl rfl) (by simp)
    · have hl : k = 5 → ns.length = is.length := fun h => by have := (h7 h).2; omega
      have ec : (Nd.mk k b n t ns is).pb = pCn (pFew k) (pMany k) is.length ++ preP k ns is is.length := by
        have e1 : is.take is.length = is := List.take_length
        rcases hk with rfl | rfl
        · simp [Nd.pb, preP, pFew, pMany]
        · have e2 : ns.take is.length = ns := by rw [← (h7 rfl).2]; exact List.take_length
          simp [Nd.pb, preP, e2, pFew, pMany]
      rw [ec] at hb ⊢
      rw [List.length_append] at hb
      refine qWrite_seq k hk b n t ns is (by omega) hl (fun s hs => ?_) (by omega) fun i hi hb' => ?_
      · by_cases h : k = 5
        · have := ((namesOk_iff (textB V) ns []).1 (h7 h).1).2 s hs
          have := this.2
          simp only [textB, Bool.and_eq_true, decide_eq_true_eq] at this; omega
        · have hz : ns.length = 0 := by
            simp only [Nd.fieldsOK, Bool.and_eq_true, Bool.or_eq_true, decide_eq_true_eq] at h4
            have := h4.2; omega
          rw [List.eq_nil_of_length_eq_zero hz] at hs; cases hs
      · have hm : is.getD i default ∈ is := by rw [List.getD_eq_getElem?_getD, List.getElem?_eq_getElem hi]; exact List.getElem_mem _
        exact qWrite_spec (is.getD i default) (e - 1) (h8 _ hm) (i3 _ hm) hb'
termination_by x => SizeOf.sizeOf x
decreasing_by
  have := List.sizeOf_lt_of_mem hm
  simp only [Nd.mk.sizeOf_spec]
  omega

set_option maxHeartbeats 4000000 in
theorem qEnc_spec {oF oA : Obj} {V : ByteArray → Bool} (hS : VSpec oF oA V) (x : Nd) (hx : x.Ok) (hin : x.In) (hsz : x.validB V 8 = true → x.pb.length ≤ 49999999) : Spec Tryd.prog 44 [.t x.toT] [(.par 100, .dat (.fix 0 oF)), (.par 101, .dat (.fix 1 oA))] (.tup [.t (.str (gEnc pkC V x).1), .t (.int .i64 (gEnc pkC V x).2)]) [(.par 100, .dat (.fix 0 oF)), (.par 101, .dat (.fix 1 oA))] := by
  have hV := rValid_spec hS x hx
  have hT := x.toT_full
  unfold gEnc
  show Spec Tryd.prog _ _ _ (.tup [.t (.str (if x.validB V 8 = true then (if 65536 < x.pb.length then (eS, 3) else (ofL x.pb, 0)) else (eS, 1) : ByteArray × Int).1), .t (.int .i64 (if x.validB V 8 = true then (if 65536 < x.pb.length then (eS, 3) else (ofL x.pb, 0)) else (eS, 1) : ByteArray × Int).2)]) _
  cases hv : x.validB V 8 with
  | false =>
    rw [hv] at hV
    rw [hT] at hV ⊢
    refine spec_intro (env0 := [(0, _)]) (st0 := [(_, some _), (_, some _)]) Tryd.func44 rfl rfl rfl rfl ?_
    repeat' (first | (with_reducible refine codeT_seq ?_) | (with_reducible refine codeT_ret ?_) | (with_reducible refine codeT_regionL ?_) | (with_reducible refine lx_nil ?_) | (with_reducible refine q_then ?_) | (with_reducible refine q_then_ret ?_) | refine c_condT rfl ?_ | ((with_reducible refine g_load ?_); first | refine lx_load_varA (r := (.t (.agg _))) rfl rfl rfl rfl rfl rfl rfl rfl rfl ?_) | ((with_reducible refine g_assign ?_); first | refine lx_assign (r := (.t _)) rfl rfl rfl rfl rfl ?_) | ((with_reducible refine g_box ?_); first | refine lx_box (r := (.t (.agg _))) (cs := (List.map .t _)) rfl rfl rfl rfl rfl rfl rfl rfl rfl ?_) | ((with_reducible refine g_unOp ?_); first | refine lx_not rfl rfl rfl rfl rfl ?_) | ((with_reducible refine g_call ?_); first | refine lx_call (r' := .t (.bool false)) [] rfl rfl hV (ArgsLE.refl _) rfl ⟨rfl, rfl, trivial⟩ rfl rfl rfl rfl rfl rfl rfl rfl rfl rfl ?_))
    exact q_ret (resT_twoE rfl rfl rfl rfl rfl) (stHas_spec ⟨rfl, rfl, trivial⟩)
  | true =>
    have hP := qWrite_spec x 8 hv hin (by have := hsz hv; omega)
    rw [hv] at hV
    have hlen : (ofL x.pb).size = x.pb.length := ofL_size _
    generalize ofL x.pb = W at hP hlen ⊢
    rw [hT] at hV hP ⊢
    refine spec_intro (env0 := [(0, _)]) (st0 := [(_, some _), (_, some _)]) Tryd.func44 rfl rfl rfl rfl ?_
    repeat' (first | (with_reducible refine codeT_seq ?_) | (with_reducible refine codeT_skip ?_) | (with_reducible refine codeT_ret ?_) | (with_reducible refine codeT_regionL ?_) | (with_reducible refine lx_nil ?_) | (with_reducible refine q_then ?_) | (with_reducible refine q_then_ret ?_) | refine c_condF rfl ?_ | ((with_reducible refine g_move ?_); first | refine lx_move (r := (.t _)) rfl rfl rfl rfl rfl ?_) | ((with_reducible refine g_load ?_); first | refine lx_load_varA (r := (.t (.agg _))) rfl rfl rfl rfl rfl rfl rfl rfl rfl ?_) | ((with_reducible refine g_binOp ?_); first | refine lx_arith rfl rfl rfl rfl rfl rfl rfl ?_) | ((with_reducible refine g_assign ?_); first | refine lx_assign (r := (.t _)) rfl rfl rfl rfl rfl ?_) | ((with_reducible refine g_box ?_); first | refine lx_box (r := (.t (.agg _))) (cs := (List.map .t _)) rfl rfl rfl rfl rfl rfl rfl rfl rfl ?_) | ((with_reducible refine g_unOp ?_); first | refine lx_not rfl rfl rfl rfl rfl ?_) | ((with_reducible refine g_len ?_); first | refine lx_len_str rfl rfl rfl rfl rfl ?_) | ((with_reducible refine g_call ?_); first | refine lx_call (r' := .t (.bool true)) [] rfl rfl hV (ArgsLE.refl _) rfl ⟨rfl, rfl, trivial⟩ rfl rfl rfl rfl rfl rfl rfl rfl rfl rfl ?_ | refine lx_callT rfl rfl hP rfl rfl (ArgsLE.refl _) rfl rfl rfl rfl rfl ?_) | refine c_condP rfl (fun hc => ?_) (fun hc => ?_))
    · exact q_ret (resT_twoE rfl rfl rfl (by rw [if_pos rfl, if_pos (by omega)]; rfl) (by rw [if_pos rfl, if_pos (by omega)])) (stHas_spec ⟨rfl, rfl, trivial⟩)
    · exact q_ret (resT_twoE rfl rfl rfl (by rw [if_pos rfl, if_neg (by omega)]) (by rw [if_pos rfl, if_neg (by omega)])) (stHas_spec ⟨rfl, rfl, trivial⟩)
end Go.AL
/- That the law PackWrites is true, as a contract. -/
set_option linter.unusedVariables false
namespace Go.AL
open Go Go.Proofs Go.RowKit

/-- What a law asks of a node that it writes. -/
structure Enc2 (V : ByteArray → Bool) (x : Nd) : Prop where
  ok : x.Ok
  inn : x.In
  sz : x.validB V 8 = true → x.pb.length ≤ 49999999
end Go.AL
/- What the document's numbers and lengths of the third serialisation answer when they are read. -/
set_option linter.unusedVariables false
namespace Go.AL
open Go Go.Proofs Go.RowKit

theorem bAt_drop0 (s : ByteArray) (p j : Nat) : bAt s ((p : Int) + (j : Int)) = (((s.data.toList.drop p).getD j default).toNat : Int) := by
  unfold bAt
  rw [show ((p : Int) + (j : Int)).toNat = p + j by omega]
  simp [List.getD_eq_getElem?_getD, List.getElem?_drop]
  rfl
set_option maxHeartbeats 8000000 in
theorem qFixed_call (s : ByteArray) (hs : s.size ≤ 1000000000) (p : Nat) (hp : p ≤ s.size) (k : Nat) (hk0 : k ≤ 8) : Spec Tryd.prog 100 [.t (.str s), .t (.int .i64 (p : Int)), .t (.int .i64 (k : Int))] [] (.tup [.t (.int .u64 (qFixed s p k).1), .t (.int .i64 (qFixed s p k).2)]) [] := by
  unfold qFixed
  by_cases hk : (s.size : Int) - p < (k : Int)
  · rw [if_pos hk]
    refine spec_intro (env0 := [(0, _), (1, _), (2, _)]) (st0 := []) Tryd.func100 rfl rfl rfl rfl ?_
    repeat' (first | (with_reducible refine codeT_seq ?_) | (with_reducible refine codeT_block ?_) | (with_reducible refine codeT_skip ?_) | (with_reducible refine codeT_ret ?_) | (with_reducible refine codeT_regionL ?_) | (with_reducible refine lx_nil ?_) | (with_reducible refine q_then ?_) | (with_reducible refine q_then_ret ?_) | ((with_reducible refine g_move ?_); first | refine lx_move (r := (.t _)) rfl rfl rfl rfl rfl ?_) | ((with_reducible refine g_binOp ?_); first | refine lx_arith rfl rfl rfl rfl rfl rfl rfl ?_) | ((with_reducible refine g_assign ?_); first | refine lx_assign (r := (.t _)) rfl rfl rfl rfl rfl ?_) | ((with_reducible refine g_len ?_); first | refine lx_len_str rfl rfl rfl rfl rfl ?_) | refine c_condP rfl (fun hc => ?_) (fun hc => ?_))
    all_goals try (rw [wrap64 (n := (s.size : Int) - p) (by omega) (by omega)] at *)
    all_goals try (exfalso; omega)
    exact q_ret (resT_twoE rfl rfl rfl rfl rfl) (by simp)
  · rw [if_neg hk]
    have hw1 : IntKind.i64.wrap ((s.size : Int) - p) = (s.size : Int) - p := by rw [wrap64 (n := (s.size : Int) - p) (by omega) (by omega)]
    obtain ⟨L, hL⟩ : ∃ L, L = s.data.toList.drop p := ⟨_, rfl⟩
    have hLl : k ≤ L.length := by rw [hL, List.length_drop, toList_len]; omega
    refine spec_intro (env0 := [(0, _), (1, _), (2, _)]) (st0 := []) Tryd.func100 rfl rfl rfl rfl ?_
    repeat' (first | (with_reducible refine codeT_seq ?_) | (with_reducible refine codeT_block ?_) | (with_reducible refine codeT_skip ?_) | (with_reducible refine codeT_ret ?_) | (with_reducible refine codeT_regionL ?_) | (with_reducible refine lx_nil ?_) | (with_reducible refine q_then ?_) | (with_reducible refine q_then_ret ?_) | ((with_reducible refine g_move ?_); first | refine lx_move (r := (.t _)) rfl rfl rfl rfl rfl ?_) | ((with_reducible refine g_binOp ?_); first | refine lx_arith rfl rfl rfl rfl rfl rfl rfl ?_) | ((with_reducible refine g_assign ?_); first | refine lx_assign (r := (.t _)) rfl rfl rfl rfl rfl ?_) | ((with_reducible refine g_len ?_); first | refine lx_len_str rfl rfl rfl rfl rfl ?_) | refine c_condP rfl (fun hc => ?_) (fun hc => ?_))
    all_goals try omega
    all_goals simp only [hw1] at *
    all_goals try (exfalso; omega)
    rw [← hL]
    refine codeT_ghost (ghost_keep2 [0, 1, 2, 8, 16, 17] [] rfl rfl) ?_
    refine codeT_loop (fun m env st => ∃ (j : Nat) (v : Int), j ≤ k ∧ m = k - j ∧ v = (L.take j).foldl u64Step 0 ∧ 0 ≤ v ∧ v < 18446744073709551616 ∧
        env = EnvL.get [(0, .t (.str s)), (1, .t (.int .i64 (p : Int))), (2, .t (.int .i64 (k : Int))), (8, .t (.int .u64 v)), (16, .t (.int .i64 (k : Int))), (17, .t (.int .i64 (j : Int)))] ∧ st = StO.get [])
      ?_ (n := k) ⟨0, 0, by omega, rfl, rfl, by omega, by omega, rfl, rfl⟩
    rintro m env st ⟨j, v, hj, rfl, hv, v0, v1, rfl, rfl⟩
    by_cases hlt : j < k
    · have hq : IntKind.i64.wrap ((p : Int) + (j : Int)) = (p : Int) + (j : Int) := wrap64 (by omega) (by omega)
      have hbd := bAt_drop0 s p j
      rw [← hL] at hbd
      have hbl := (L.getD j default).toNat_lt
      have hn := fold_next L j (by omega)
      rw [← hv] at hn
      have hu : v * 256 % 18446744073709551616 + ((L.getD j default).toNat : Int) = (L.take (j + 1)).foldl u64Step 0 := hn
      repeat' (first | (with_reducible refine codeT_seq ?_) | (with_reducible refine codeT_block ?_) | (with_reducible refine codeT_skip ?_) | (with_reducible refine codeT_ret ?_) | (with_reducible refine codeT_exit ?_) | (with_reducible refine codeT_regionL ?_) | (with_reducible refine lx_nil ?_) | (with_reducible refine q_then ?_) | (with_reducible refine q_then_exit ?_) | (with_reducible refine q_block ?_) | ((with_reducible refine q_block_same ?_ ?_); · rfl) | (with_reducible refine q_loop_exit ?_) | ((with_reducible refine g_move ?_); first | refine lx_move (r := (.t _)) rfl rfl rfl rfl rfl ?_) | ((with_reducible refine g_binOp ?_); first | refine lx_arith rfl rfl rfl rfl rfl rfl rfl ?_ | refine lx_shl rfl rfl rfl rfl rfl rfl (by decide) ?_) | ((with_reducible refine g_assign ?_); first | refine lx_assign (r := (.t _)) rfl rfl rfl rfl rfl ?_) | ((with_reducible refine g_index ?_); first | refine lx_index_str rfl rfl rfl rfl rfl rfl ?_ ?_ ?_) | ((with_reducible refine g_convert ?_); first | refine lx_conv_int rfl rfl rfl rfl rfl ?_) | refine c_condP rfl (fun hc => ?_) (fun hc => ?_))
      all_goals simp only [hq, hbd] at *
      all_goals try omega
      all_goals try (exfalso; omega)
      rw [or64g v0 v1 (b := ((L.getD j default).toNat : Int)) (by omega) (by omega)]
      refine q_loop (n' := k - (j + 1)) (by omega) (ghost_keep2 [0, 1, 2, 8, 16, 17] [] rfl rfl) ⟨j + 1, v * 256 % 18446744073709551616 + ((L.getD j default).toNat : Int), by omega, rfl, hu, by omega, by omega, ?_, rfl⟩
      rw [wrap64 (by omega) (by omega)]; rfl
    · have hje : j = k := by omega
      subst hje
      repeat' (first | (with_reducible refine codeT_seq ?_) | (with_reducible refine codeT_block ?_) | (with_reducible refine codeT_skip ?_) | (with_reducible refine codeT_ret ?_) | (with_reducible refine codeT_exit ?_) | (with_reducible refine codeT_regionL ?_) | (with_reducible refine lx_nil ?_) | (with_reducible refine q_then ?_) | (with_reducible refine q_then_exit ?_) | (with_reducible refine q_block ?_) | ((with_reducible refine q_block_same ?_ ?_); · rfl) | (with_reducible refine q_loop_exit ?_) | ((with_reducible refine g_move ?_); first | refine lx_move (r := (.t _)) rfl rfl rfl rfl rfl ?_) | ((with_reducible refine g_binOp ?_); first | refine lx_arith rfl rfl rfl rfl rfl rfl rfl ?_ | refine lx_shl rfl rfl rfl rfl rfl rfl (by decide) ?_) | ((with_reducible refine g_assign ?_); first | refine lx_assign (r := (.t _)) rfl rfl rfl rfl rfl ?_) | ((with_reducible refine g_index ?_); first | refine lx_index_str rfl rfl rfl rfl rfl rfl ?_ ?_ ?_) | ((with_reducible refine g_convert ?_); first | refine lx_conv_int rfl rfl rfl rfl rfl ?_) | refine c_condP rfl (fun hc => ?_) (fun hc => ?_))
      all_goals try (exfalso; omega)
      rw [← hv]
      exact q_ret (resT_twoE rfl rfl rfl rfl (congrArg (T.int .i64) (wrap64 (by omega) (by omega)))) (by simp)
theorem shl217 {c : Int} (h0 : 217 ≤ c) (h1 : c ≤ 219) : IntKind.i64.wrap (1 * 2 ^ min (IntKind.u64.wrap (IntKind.i64.wrap (c - 217))).toNat IntKind.i64.bits) = ((2 ^ (c - 217).toNat : Nat) : Int) := by
  have : c = 217 ∨ c = 218 ∨ c = 219 := by omega
  rcases this with rfl | rfl | rfl <;> decide
set_option maxHeartbeats 8000000 in
theorem qLen_call (s : ByteArray) (hs : s.size ≤ 1000000000) (p : Nat) (hp : p < s.size) : Spec Tryd.prog 101 [.t (.str s), .t (.int .i64 (p : Int))] [] (.tup [.t (.int .i64 (qLen s p).1.1), .t (.int .i64 (qLen s p).1.2), .t (.int .i64 (qLen s p).2)]) [] := by
  have hb := bAt_range s p
  unfold qLen
  have hF : ∀ k : Nat, k ≤ 8 → Spec Tryd.prog 100 [.t (.str s), .t (.int .i64 (IntKind.i64.wrap ((p : Int) + 1))), .t (.int .i64 (k : Int))] [] (.tup [.t (.int .u64 (qFixed s (p + 1) k).1), .t (.int .i64 (qFixed s (p + 1) k).2)]) [] := fun k hk => by
    rw [wrap64 (by omega) (by omega)]; exact qFixed_call s hs (p + 1) (by omega) k hk
  have g1 := qFixed_good (s := s) (p := p + 1) (i := 1) (by omega)
  have h2 : Spec Tryd.prog 100 [.t (.str s), .t (.int .i64 (IntKind.i64.wrap ((p : Int) + 1))), .t (.int .i64 2)] [] (.tup [.t (.int .u64 (qFixed s (p + 1) 2).1), .t (.int .i64 (qFixed s (p + 1) 2).2)]) [] := hF 2 (by omega)
  rw [show (2 : Nat) ^ 1 = 2 from rfl] at g1
  have e2 : (256 : Int) ^ 2 = 65536 := by decide
  rw [e2] at g1
  have hsz : ∀ i, i ≤ 2 → 0 ≤ (qFixed s (p + 1) (2 ^ i)).1 ∧ (qFixed s (p + 1) (2 ^ i)).1 < 4294967296 := fun i hi => by
    have := qFixed_good (s := s) (p := p + 1) (i := i) (by omega)
    have h3 : (256 : Int) ^ (2 ^ i) ≤ 4294967296 := by
      match i, hi with
      | 0, _ | 1, _ | 2, _ => decide
    omega
  generalize qFixed s (p + 1) 2 = y at h2 g1
  obtain ⟨y1, y2⟩ := y
  simp only at h2 g1
  obtain ⟨c, hc0⟩ : ∃ c, c = bAt s (p : Int) := ⟨_, rfl⟩
  have hC : IntKind.i64.wrap (bAt s (p : Int)) = c := by rw [hc0]; exact wrap64 (by omega) (by omega)
  rw [← hc0] at hb ⊢
  by_cases h217 : 217 ≤ c ∧ c ≤ 219
  · have h3 := hF (2 ^ (c - 217).toNat) (by
      have : c = 217 ∨ c = 218 ∨ c = 219 := by omega
      rcases this with rfl | rfl | rfl <;> decide)
    rw [← shl217 h217.1 h217.2] at h3
    have hz := hsz (c - 217).toNat (by omega)
    simp only
    rw [if_neg (by omega), if_neg (by omega), if_neg (by omega), if_pos h217]
    generalize qFixed s (p + 1) (2 ^ (c - 217).toNat) = z at h3 hz ⊢
    obtain ⟨z1, z2⟩ := z
    simp only at h3 hz ⊢
    clear hF hsz
    refine spec_intro (env0 := [(0, _), (1, _)]) (st0 := []) Tryd.func101 rfl rfl rfl rfl ?_
    repeat' (first | (with_reducible refine codeT_seq ?_) | (with_reducible refine codeT_block ?_) | (with_reducible refine codeT_regionL ?_) | (with_reducible refine lx_nil ?_) | (with_reducible refine q_then ?_) | ((with_reducible refine g_move ?_); first | refine lx_move (r := (.t _)) rfl rfl rfl rfl rfl ?_) | ((with_reducible refine g_binOp ?_); first | refine lx_arith rfl rfl rfl rfl rfl rfl rfl ?_) | ((with_reducible refine g_assign ?_); first | refine lx_assign (r := (.t _)) rfl rfl rfl rfl rfl ?_) | ((with_reducible refine g_index ?_); first | refine lx_index_str rfl rfl rfl rfl rfl rfl ?_ ?_ ?_) | ((with_reducible refine g_convert ?_); first | refine lx_conv_int rfl rfl rfl rfl rfl ?_))
    all_goals try omega
    rw [hC]
    repeat' (first | (with_reducible refine codeT_seq ?_) | (with_reducible refine codeT_ret ?_) | (with_reducible refine codeT_regionL ?_) | (with_reducible refine lx_nil ?_) | (with_reducible refine q_then ?_) | (with_reducible refine q_block ?_) | (exfalso; omega) | ((with_reducible refine g_move ?_); first | refine lx_move (r := (.t _)) rfl rfl rfl rfl rfl ?_ | refine lx_move (r := (.tup _)) rfl rfl rfl rfl rfl ?_) | ((with_reducible refine g_binOp ?_); first | refine lx_arith rfl rfl rfl rfl rfl rfl rfl ?_ | refine lx_shl rfl rfl rfl rfl rfl rfl ?_ ?_) | ((with_reducible refine g_assign ?_); first | refine lx_assign (r := (.t _)) rfl rfl rfl rfl rfl ?_) | ((with_reducible refine g_pick ?_); first | refine lx_pickT (r := (.t _)) rfl rfl rfl rfl rfl rfl ?_) | ((with_reducible refine g_convert ?_); first | refine lx_conv_int rfl rfl rfl rfl rfl ?_) | ((with_reducible refine g_extract ?_); first | refine lx_extract rfl rfl rfl rfl rfl rfl ?_) | ((with_reducible refine g_call ?_); first | refine lx_callT rfl rfl h3 rfl rfl (ArgsLE.refl _) rfl rfl rfl rfl rfl ?_) | refine c_condP rfl (fun hc => ?_) (fun hc => ?_) | refine lx_splitP rfl (fun hc => ?_) (fun hc => ?_))
    · rw [wrap64 (n := c - 217) (by omega) (by omega), wrapU64 (by omega) (by omega)]; omega
    · exact q_ret (resT_threeE rfl rfl rfl rfl rfl (congrArg (T.int .i64) (wrap64 (by omega) (by omega))) rfl) (by simp)
  · have wp : IntKind.i64.wrap ((p : Int) + 1) = (p : Int) + 1 := wrap64 (by omega) (by omega)
    have h9 := hF 2 (by omega)
    clear hF hsz
    simp only
    rw [if_neg h217]
    generalize hR : (if 160 ≤ c ∧ c < 192 then ((3, c - 160), (p : Int) + 1) else if 144 ≤ c ∧ c < 160 then ((4, c - 144), (p : Int) + 1) else if 128 ≤ c ∧ c < 144 then ((5, c - 128), (p : Int) + 1) else if c = 220 then ((4, y1), y2) else if c = 222 then ((5, y1), y2) else ((0, 0), -1) : (Int × Int) × Int) = R
    refine spec_intro (env0 := [(0, _), (1, _)]) (st0 := []) Tryd.func101 rfl rfl rfl rfl ?_
    repeat' (first | (with_reducible refine codeT_seq ?_) | (with_reducible refine codeT_block ?_) | (with_reducible refine codeT_regionL ?_) | (with_reducible refine lx_nil ?_) | (with_reducible refine q_then ?_) | ((with_reducible refine g_move ?_); first | refine lx_move (r := (.t _)) rfl rfl rfl rfl rfl ?_) | ((with_reducible refine g_binOp ?_); first | refine lx_arith rfl rfl rfl rfl rfl rfl rfl ?_) | ((with_reducible refine g_assign ?_); first | refine lx_assign (r := (.t _)) rfl rfl rfl rfl rfl ?_) | ((with_reducible refine g_index ?_); first | refine lx_index_str rfl rfl rfl rfl rfl rfl ?_ ?_ ?_) | ((with_reducible refine g_convert ?_); first | refine lx_conv_int rfl rfl rfl rfl rfl ?_))
    all_goals try omega
    rw [hC]
    repeat' (first | (with_reducible refine codeT_seq ?_) | (with_reducible refine codeT_ret ?_) | (with_reducible refine codeT_regionL ?_) | (with_reducible refine lx_nil ?_) | (with_reducible refine q_then ?_) | (with_reducible refine q_then_ret ?_) | (with_reducible refine q_block ?_) | (with_reducible refine q_block_ret ?_) | refine c_condF rfl ?_ | (exfalso; omega) | ((with_reducible refine g_guard ?_); first | refine lx_skip rfl rfl rfl ?_) | ((with_reducible refine g_move ?_); first | refine lx_move (r := (.t _)) rfl rfl rfl rfl rfl ?_ | refine lx_move (r := (.tup _)) rfl rfl rfl rfl rfl ?_) | ((with_reducible refine g_binOp ?_); first | refine lx_arith rfl rfl rfl rfl rfl rfl rfl ?_) | ((with_reducible refine g_assign ?_); first | refine lx_assign (r := (.t _)) rfl rfl rfl rfl rfl ?_) | ((with_reducible refine g_pick ?_); first | refine lx_pickT (r := (.t _)) rfl rfl rfl rfl rfl rfl ?_ | refine lx_pickF (r := (.t _)) rfl rfl rfl rfl rfl rfl ?_) | ((with_reducible refine g_convert ?_); first | refine lx_conv_int rfl rfl rfl rfl rfl ?_) | ((with_reducible refine g_extract ?_); first | refine lx_extract rfl rfl rfl rfl rfl rfl ?_) | ((with_reducible refine g_call ?_); first | refine lx_callT rfl rfl h2 rfl rfl (ArgsLE.refl _) rfl rfl rfl rfl rfl ?_) | refine c_condP rfl (fun hc => ?_) (fun hc => ?_) | refine lx_splitP rfl (fun hc => ?_) (fun hc => ?_))
    all_goals
      repeat (first | rw [if_pos (by omega)] at hR | rw [if_neg (by omega)] at hR)
      subst hR
      refine q_ret (resT_threeE rfl rfl rfl rfl ?_ ?_ ?_) (by simp) <;> first | rfl | exact congrArg (T.int .i64) (wrap64 (by omega) (by omega))
end Go.AL
/- What the document's reader of items of the third serialisation answers, given what its reader of values answers. -/
set_option linter.unusedVariables false
namespace Go.AL
open Go Go.Proofs Go.RowKit

set_option maxHeartbeats 16000000 in
theorem qItems_call (s : ByteArray) (hs : s.size ≤ 1000000000) (d : Int) (hd0 : 1 ≤ d) (hd : d ≤ 1000) (nm f : Nat → Nd × Int) (hn : ∀ p, PGood s p (nm p)) (hf : ∀ p, PGood s p (f p)) (p0 : Nat)
    (IHn : ∀ q : Nat, p0 < q → q ≤ s.size → Spec Tryd.prog 67 [.t (.str s), .t (.int .i64 (q : Int)), .t (.int .i64 1)] [] (.tup [.t (nm q).1.toT, .t (.int .i64 (nm q).2)]) [])
    (IHf : ∀ q : Nat, p0 < q → q ≤ s.size → Spec Tryd.prog 67 [.t (.str s), .t (.int .i64 (q : Int)), .t (.int .i64 (d - 1))] [] (.tup [.t (f q).1.toT, .t (.int .i64 (f q).2)]) [])
    (k : Int) (hk : k = 4 ∨ k = 5) (n : Nat) (hn2 : n ≤ 256) (q : Nat) (hq0 : p0 < q) (hq : q ≤ s.size) (res : Nd × Int) (hres : res = qItems nm f k n [] [] q) :
    Spec Tryd.prog 102 [.t (.str s), .t (.int .i64 (q : Int)), .t (.int .i64 d), .t (.int .i64 k), .t (.int .i64 (n : Int))] [] (.tup [.t res.1.toT, .t (.int .i64 res.2)]) [] := by
  rw [← wrap64 (n := d - 1) (by omega) (by omega)] at IHf
  rcases hk with rfl | rfl
  · refine spec_introG (env0 := [(0, _), (1, _), (2, _), (3, _), (4, _)]) (st0 := []) Tryd.func102 rfl rfl rfl rfl ?_
    repeat' (first | (with_reducible refine codeT_seq ?_) | (with_reducible refine codeT_block ?_) | (with_reducible refine codeT_regionL ?_) | (with_reducible refine lx_nil ?_) | (with_reducible refine q_then ?_) | ((with_reducible refine g_move ?_); first | refine lx_move (r := (.t _)) rfl rfl rfl rfl rfl ?_) | ((with_reducible refine g_assign ?_); first | refine lx_assign (r := (.t _)) rfl rfl rfl rfl rfl ?_) | ((with_reducible refine g_alloc ?_); first | refine lx_alloc rfl rfl rfl rfl rfl rfl rfl ?_) | ((with_reducible refine g_store ?_); first | refine lx_store_var (r := (.t (.agg _))) rfl rfl rfl rfl rfl rfl rfl rfl rfl rfl ?_) | ((with_reducible refine g_build ?_); first | refine lx_build (r := (.t (.agg _))) rfl rfl rfl rfl rfl rfl rfl ?_))
    refine codeT_ghost (ghost_cellNilL (r := .loc 12) 5 (.loc 900) 26 6 rfl rfl rfl rfl rfl) ?_
    refine codeT_ghost (ghost_cellNilL (r := .loc 12) 4 (.loc 901) 9 1 rfl rfl rfl rfl rfl) ?_
    refine codeT_ghost (ghost_keep2 [0, 1, 2, 3, 10, 12, 19, 20] [.loc 10, .loc 12, .loc 900, .loc 901] rfl rfl) ?_
    refine codeT_loop (fun c env st => ∃ (j : Nat) (ns : List ByteArray) (is : List Nd) (q : Nat), j ≤ n ∧ c = n - j ∧ ns.length + (n - j) ≤ 256 ∧ is.length + (n - j) ≤ 256 ∧ p0 < q ∧ q ≤ s.size ∧ res = qItems nm f 4 (n - j) ns is q ∧
        env = EnvL.get [(0, .t (.str s)), (1, .t (.int .i64 (q : Int))), (2, .t (.int .i64 d)), (3, .t (.int .i64 4)), (10, .ref (.loc 10) 0 0 0), (12, .ref (.loc 12) 0 0 0), (19, .t (.int .i64 (n : Int))), (20, .t (.int .i64 (j : Int)))] ∧
        st = StO.get [(.loc 10, some (.var 26 [.t (.int .i64 0), .t (.bool false), .t (.int .i64 0), .t (.str ⟨#[]⟩), .t .nilsl, .t .nilsl])), (.loc 12, some (.var 26 [.t (.int .i64 4), .t (.bool false), .t (.int .i64 0), .t (.str ⟨#[]⟩), .row (.loc 901), .row (.loc 900)])), (.loc 900, some (.slt 26 6 (is.map Nd.toT))), (.loc 901, some (.slt 9 1 (ns.map .str)))])
      ?_ (n := n) ⟨0, [], [], q, by omega, rfl, by simp; omega, by simp; omega, hq0, hq, hres, rfl, rfl⟩
    clear hres hq hq0 IHn
    rintro c env st ⟨j, ns, is, q, hj, rfl, hns, his, hq0, hq, hi, rfl, rfl⟩
    by_cases hlt : j < n
    · obtain ⟨c, hc⟩ : ∃ c, n - j = c + 1 := ⟨n - j - 1, by omega⟩
      rw [hc, qItems] at hi
      rw [if_neg (by decide)] at hi
      replace IHf := IHf q hq0 hq
      obtain ⟨g1, g2, g3⟩ := hf q
      generalize f q = y at hi IHf g1 g2 g3
      obtain ⟨x, r⟩ := y
      have hT0 := x.toT_full
      simp only at IHf hi g1 g2 g3
      rw [hT0] at IHf
      by_cases hr : r < 0
      · rw [if_pos hr] at hi
        rw [hi]
        simp only
        rw [zero_toT]
        repeat' (first | (with_reducible refine codeT_seq ?_) | (with_reducible refine codeT_block ?_) | (with_reducible refine codeT_skip ?_) | (with_reducible refine codeT_ret ?_) | (with_reducible refine codeT_exit ?_) | (with_reducible refine codeT_regionL ?_) | (with_reducible refine lx_nil ?_) | (with_reducible refine q_then ?_) | (with_reducible refine q_then_exit ?_) | (with_reducible refine q_then_ret ?_) | (with_reducible refine q_block_ret ?_) | ((with_reducible refine q_block_same ?_ ?_); · rfl) | (with_reducible refine q_loop_exit ?_) | (with_reducible refine q_loop_ret ?_) | refine c_condF rfl ?_ | (exfalso; omega) | ((with_reducible refine g_move ?_); first | refine lx_move (r := (.t _)) rfl rfl rfl rfl rfl ?_ | refine lx_move (r := (.tup _)) rfl rfl rfl rfl rfl ?_) | ((with_reducible refine g_binOp ?_); first | refine lx_arith rfl rfl rfl rfl rfl rfl rfl ?_) | ((with_reducible refine g_assign ?_); first | refine lx_assign (r := (.t _)) rfl rfl rfl rfl rfl ?_) | ((with_reducible refine g_alloc ?_); first | refine lx_alloc rfl rfl rfl rfl rfl rfl rfl ?_) | ((with_reducible refine g_store ?_); first | refine lx_store_var (r := (.t (.agg _))) rfl rfl rfl rfl rfl rfl rfl rfl rfl rfl ?_) | ((with_reducible refine g_extract ?_); first | refine lx_extract rfl rfl rfl rfl rfl rfl ?_) | ((with_reducible refine g_build ?_); first | refine lx_build (r := (.t (.agg _))) rfl rfl rfl rfl rfl rfl rfl ?_) | ((with_reducible refine g_call ?_); first | refine lx_callT rfl rfl IHf rfl rfl (ArgsLE.refl _) rfl rfl rfl rfl rfl ?_) | refine c_condP rfl (fun hc => ?_) (fun hc => ?_))
        all_goals try (simp only [List.length_map, List.length_cons, List.length_nil]; omega)
        refine q_done (q_ret ?_ (by simp)); refine resT_cell_tmp rfl rfl rfl inferInstance rfl inferInstance rfl ?_ ?_; exact TLe.av (by repeat first | exact TLe.refl _ | exact TLe.nil _ | exact TLe.esl _ | refine TLe.agg ?_ | refine TLs.cons ?_ ?_ | exact TLs.nil); exact AVLE.refl _
      · rw [if_neg hr] at hi
        obtain ⟨k1, k2, _, _⟩ := g3 (by omega)
        repeat' (first | (with_reducible refine codeT_seq ?_) | (with_reducible refine codeT_block ?_) | (with_reducible refine codeT_skip ?_) | (with_reducible refine codeT_exit ?_) | (with_reducible refine codeT_regionL ?_) | (with_reducible refine lx_nil ?_) | (with_reducible refine q_then ?_) | (with_reducible refine q_then_exit ?_) | (with_reducible refine q_block ?_) | ((with_reducible refine q_block_same ?_ ?_); · rfl) | (with_reducible refine q_loop_exit ?_) | refine c_condF rfl ?_ | (exfalso; omega) | ((with_reducible refine g_move ?_); first | refine lx_move (r := (.t _)) rfl rfl rfl rfl rfl ?_ | refine lx_move (r := (.tup _)) rfl rfl rfl rfl rfl ?_) | ((with_reducible refine g_load ?_); first | refine lx_load_var rfl rfl rfl rfl rfl rfl rfl rfl ?_ | refine lx_load_varA (r := (.t (.agg _))) rfl rfl rfl rfl rfl rfl rfl rfl rfl ?_) | ((with_reducible refine g_fieldAddr ?_); first | refine lx_fieldAddr rfl rfl rfl rfl rfl rfl rfl ?_) | ((with_reducible refine g_binOp ?_); first | refine lx_arith rfl rfl rfl rfl rfl rfl rfl ?_) | ((with_reducible refine g_assign ?_); first | refine lx_assign (r := (.t _)) rfl rfl rfl rfl rfl ?_) | ((with_reducible refine g_alloc ?_); first | refine lx_alloc rfl rfl rfl rfl rfl rfl rfl ?_) | ((with_reducible refine g_store ?_); first | refine lx_store_var (r := (.t (.agg _))) rfl rfl rfl rfl rfl rfl rfl rfl rfl rfl ?_ | refine lx_store_var (r := (.row _)) rfl rfl rfl rfl rfl rfl rfl rfl rfl rfl ?_) | ((with_reducible refine g_extract ?_); first | refine lx_extract rfl rfl rfl rfl rfl rfl ?_) | ((with_reducible refine g_buildSlice ?_); first | refine lx_buildSlice rfl rfl rfl rfl rfl rfl rfl ?_) | ((with_reducible refine g_append ?_); first | refine lx_append_row rfl rfl rfl rfl rfl rfl rfl rfl rfl rfl ?_ ?_ ?_) | ((with_reducible refine g_call ?_); first | refine lx_callT rfl rfl IHf rfl rfl (ArgsLE.refl _) rfl rfl rfl rfl rfl ?_) | refine c_condP rfl (fun hc => ?_) (fun hc => ?_))
        all_goals try (simp only [List.length_map, List.length_cons, List.length_nil]; omega)
        refine q_loop (n' := n - (j + 1)) (by omega) ((ghost_keep2 [0, 1, 2, 3, 10, 12, 19, 20] [.loc 10, .loc 12, .loc 61, .loc 901] rfl rfl).trans (ghost_renL2 (.loc 61) (.loc 900) rfl rfl rfl rfl)) ⟨j + 1, ns, is ++ [x], r.toNat, by omega, rfl, by omega, by simp only [List.length_append, List.length_cons, List.length_nil]; omega, by omega, by omega, by rw [hi, show n - (j + 1) = c by omega], ?_, ?_⟩
        · rw [wrap64 (by omega) (by omega), show ((r.toNat : Nat) : Int) = r by omega]; rfl
        · rw [List.map_append, List.map_singleton, hT0]; rfl
    · have hje : j = n := by omega
      subst hje
      rw [Nat.sub_self, qItems] at hi
      repeat' (first | (with_reducible refine codeT_seq ?_) | (with_reducible refine codeT_block ?_) | (with_reducible refine codeT_skip ?_) | (with_reducible refine codeT_ret ?_) | (with_reducible refine codeT_exit ?_) | (with_reducible refine codeT_regionL ?_) | (with_reducible refine lx_nil ?_) | (with_reducible refine q_then ?_) | (with_reducible refine q_then_exit ?_) | ((with_reducible refine q_block_same ?_ ?_); · rfl) | (with_reducible refine q_loop_exit ?_) | refine c_condF rfl ?_ | ((with_reducible refine g_move ?_); first | refine lx_move (r := (.t _)) rfl rfl rfl rfl rfl ?_) | ((with_reducible refine g_load ?_); first | refine lx_load_varA (r := (.agg _)) rfl rfl rfl rfl rfl rfl rfl rfl rfl ?_) | ((with_reducible refine g_binOp ?_); first | refine lx_arith rfl rfl rfl rfl rfl rfl rfl ?_) | ((with_reducible refine g_assign ?_); first | refine lx_assign (r := (.t _)) rfl rfl rfl rfl rfl ?_) | ((with_reducible refine g_store ?_); first | refine lx_store_var (r := (.agg _)) rfl rfl rfl rfl rfl rfl rfl rfl rfl rfl ?_) | refine c_condP rfl (fun hc => ?_) (fun hc => ?_))
      all_goals try (exfalso; omega)
      rw [hi]
      simp only
      rw [Nd.toT_eq]
      refine q_ghost (ghost_keep2 [10, 11] [.loc 10, .loc 900, .loc 901] rfl rfl) ?_
      refine q_ghost (ghost_freezeL (id := .loc 900) rfl rfl rfl) ?_; refine q_ghost (ghost_freezeL (id := .loc 901) rfl rfl rfl) ?_
      refine q_done (q_ret ?_ (by simp)); refine resT_cell_tmp rfl rfl rfl inferInstance rfl inferInstance rfl ?_ ?_; exact TLe.av (by repeat first | exact TLe.refl _ | exact TLe.nil _ | exact TLe.esl _ | refine TLe.agg ?_ | refine TLs.cons ?_ ?_ | exact TLs.nil); exact AVLE.refl _
  · refine spec_introG (env0 := [(0, _), (1, _), (2, _), (3, _), (4, _)]) (st0 := []) Tryd.func102 rfl rfl rfl rfl ?_
    repeat' (first | (with_reducible refine codeT_seq ?_) | (with_reducible refine codeT_block ?_) | (with_reducible refine codeT_regionL ?_) | (with_reducible refine lx_nil ?_) | (with_reducible refine q_then ?_) | ((with_reducible refine g_move ?_); first | refine lx_move (r := (.t _)) rfl rfl rfl rfl rfl ?_) | ((with_reducible refine g_assign ?_); first | refine lx_assign (r := (.t _)) rfl rfl rfl rfl rfl ?_) | ((with_reducible refine g_alloc ?_); first | refine lx_alloc rfl rfl rfl rfl rfl rfl rfl ?_) | ((with_reducible refine g_store ?_); first | refine lx_store_var (r := (.t (.agg _))) rfl rfl rfl rfl rfl rfl rfl rfl rfl rfl ?_) | ((with_reducible refine g_build ?_); first | refine lx_build (r := (.t (.agg _))) rfl rfl rfl rfl rfl rfl rfl ?_))
    refine codeT_ghost (ghost_cellNilL (r := .loc 12) 5 (.loc 900) 26 6 rfl rfl rfl rfl rfl) ?_
    refine codeT_ghost (ghost_cellNilL (r := .loc 12) 4 (.loc 901) 9 1 rfl rfl rfl rfl rfl) ?_
    refine codeT_ghost (ghost_keep2 [0, 1, 2, 3, 10, 12, 19, 20] [.loc 10, .loc 12, .loc 900, .loc 901] rfl rfl) ?_
    refine codeT_loop (fun c env st => ∃ (j : Nat) (ns : List ByteArray) (is : List Nd) (q : Nat), j ≤ n ∧ c = n - j ∧ ns.length + (n - j) ≤ 256 ∧ is.length + (n - j) ≤ 256 ∧ p0 < q ∧ q ≤ s.size ∧ res = qItems nm f 5 (n - j) ns is q ∧
        env = EnvL.get [(0, .t (.str s)), (1, .t (.int .i64 (q : Int))), (2, .t (.int .i64 d)), (3, .t (.int .i64 5)), (10, .ref (.loc 10) 0 0 0), (12, .ref (.loc 12) 0 0 0), (19, .t (.int .i64 (n : Int))), (20, .t (.int .i64 (j : Int)))] ∧
        st = StO.get [(.loc 10, some (.var 26 [.t (.int .i64 0), .t (.bool false), .t (.int .i64 0), .t (.str ⟨#[]⟩), .t .nilsl, .t .nilsl])), (.loc 12, some (.var 26 [.t (.int .i64 5), .t (.bool false), .t (.int .i64 0), .t (.str ⟨#[]⟩), .row (.loc 901), .row (.loc 900)])), (.loc 900, some (.slt 26 6 (is.map Nd.toT))), (.loc 901, some (.slt 9 1 (ns.map .str)))])
      ?_ (n := n) ⟨0, [], [], q, by omega, rfl, by simp; omega, by simp; omega, hq0, hq, hres, rfl, rfl⟩
    clear hres hq hq0
    rintro c env st ⟨j, ns, is, q, hj, rfl, hns, his, hq0, hq, hi, rfl, rfl⟩
    by_cases hlt : j < n
    · obtain ⟨c, hc⟩ : ∃ c, n - j = c + 1 := ⟨n - j - 1, by omega⟩
      rw [hc, qItems] at hi
      rw [if_pos rfl] at hi
      replace IHn := IHn q hq0 hq
      obtain ⟨m1, m2, m3⟩ := hn q
      generalize nm q = z at hi IHn m1 m2 m3
      obtain ⟨y, u⟩ := z
      have hTn := y.toT_full
      simp only at IHn hi m1 m2 m3
      rw [hTn] at IHn
      by_cases hu : u < 0 ∨ y.kind ≠ 3
      · rw [if_pos hu] at hi
        rw [hi]
        simp only
        rw [zero_toT]
        clear IHf hf
        repeat' (first | (with_reducible refine codeT_seq ?_) | (with_reducible refine codeT_block ?_) | (with_reducible refine codeT_skip ?_) | (with_reducible refine codeT_ret ?_) | (with_reducible refine codeT_exit ?_) | (with_reducible refine codeT_regionL ?_) | (with_reducible refine lx_nil ?_) | (with_reducible refine q_then ?_) | (with_reducible refine q_then_exit ?_) | (with_reducible refine q_then_ret ?_) | (with_reducible refine q_block_ret ?_) | ((with_reducible refine q_block_same ?_ ?_); · rfl) | (with_reducible refine q_loop_exit ?_) | (with_reducible refine q_loop_ret ?_) | refine c_condT rfl ?_ | ((with_reducible refine g_guard ?_); first | refine lx_skip rfl rfl rfl ?_) | ((with_reducible refine g_move ?_); first | refine lx_move (r := (.t _)) rfl rfl rfl rfl rfl ?_ | refine lx_move (r := (.tup _)) rfl rfl rfl rfl rfl ?_) | ((with_reducible refine g_load ?_); first | refine lx_load_var rfl rfl rfl rfl rfl rfl rfl rfl ?_ | refine lx_load_varA (r := (.agg _)) rfl rfl rfl rfl rfl rfl rfl rfl rfl ?_) | ((with_reducible refine g_fieldAddr ?_); first | refine lx_fieldAddr rfl rfl rfl rfl rfl rfl rfl ?_) | ((with_reducible refine g_binOp ?_); first | refine lx_arith rfl rfl rfl rfl rfl rfl rfl ?_) | ((with_reducible refine g_assign ?_); first | refine lx_assign (r := (.t _)) rfl rfl rfl rfl rfl ?_) | ((with_reducible refine g_pick ?_); first | refine lx_pickT (r := (.t _)) rfl rfl rfl rfl rfl rfl ?_ | refine lx_pickF (r := (.t _)) rfl rfl rfl rfl rfl rfl ?_) | ((with_reducible refine g_alloc ?_); first | refine lx_alloc rfl rfl rfl rfl rfl rfl rfl ?_) | ((with_reducible refine g_store ?_); first | refine lx_store_var (r := (.t (.agg _))) rfl rfl rfl rfl rfl rfl rfl rfl rfl rfl ?_ | refine lx_store_var (r := (.agg _)) rfl rfl rfl rfl rfl rfl rfl rfl rfl rfl ?_ | refine lx_store_var (r := (.row _)) rfl rfl rfl rfl rfl rfl rfl rfl rfl rfl ?_) | ((with_reducible refine g_extract ?_); first | refine lx_extract rfl rfl rfl rfl rfl rfl ?_) | ((with_reducible refine g_buildSlice ?_); first | refine lx_buildSlice rfl rfl rfl rfl rfl rfl rfl ?_) | ((with_reducible refine g_build ?_); first | refine lx_build (r := (.t (.agg _))) rfl rfl rfl rfl rfl rfl rfl ?_) | ((with_reducible refine g_append ?_); first | refine lx_append_row rfl rfl rfl rfl rfl rfl rfl rfl rfl rfl ?_ ?_ ?_) | ((with_reducible refine g_call ?_); first | refine lx_callT rfl rfl IHn rfl rfl (ArgsLE.refl _) rfl rfl rfl rfl rfl ?_) | refine c_condP rfl (fun hc => ?_) (fun hc => ?_) | refine c_condN rfl (fun hc => ?_) (fun hc => ?_) | refine lx_splitP rfl (fun hc => ?_) (fun hc => ?_))
        all_goals try (exfalso; omega)
        all_goals (refine q_done (q_ret ?_ (by simp)); refine resT_cell_tmp rfl rfl rfl inferInstance rfl inferInstance rfl ?_ ?_; exact TLe.av (by repeat first | exact TLe.refl _ | exact TLe.nil _ | exact TLe.esl _ | refine TLe.agg ?_ | refine TLs.cons ?_ ?_ | exact TLs.nil); exact AVLE.refl _)
      · rw [if_neg hu] at hi
        obtain ⟨t1, t2, _⟩ := m3 (by omega)
        obtain ⟨v, hv⟩ : ∃ v : Nat, u = v := ⟨u.toNat, by omega⟩
        subst hv
        rw [Int.toNat_natCast] at hi
        replace IHf := IHf v (by omega) (by omega)
        obtain ⟨g1, g2, g3⟩ := hf v
        generalize f v = w at hi IHf g1 g2 g3
        obtain ⟨x, r⟩ := w
        have hT0 := x.toT_full
        simp only at IHf hi g1 g2 g3
        rw [hT0] at IHf
        have hk3 : y.kind = 3 := by omega
        have hu0 : ¬ (v : Int) < 0 := by omega
        by_cases hr : r < 0
        · rw [if_pos hr] at hi
          rw [hi]
          simp only
          rw [zero_toT]
          repeat' (first | (with_reducible refine codeT_seq ?_) | (with_reducible refine codeT_block ?_) | (with_reducible refine codeT_skip ?_) | (with_reducible refine codeT_ret ?_) | (with_reducible refine codeT_exit ?_) | (with_reducible refine codeT_regionL ?_) | (with_reducible refine lx_nil ?_) | (with_reducible refine q_then ?_) | (with_reducible refine q_then_exit ?_) | (with_reducible refine q_then_ret ?_) | (with_reducible refine q_block_ret ?_) | ((with_reducible refine q_block_same ?_ ?_); · rfl) | (with_reducible refine q_loop_exit ?_) | (with_reducible refine q_loop_ret ?_) | refine c_condT rfl ?_ | (exfalso; omega) | ((with_reducible refine g_move ?_); first | refine lx_move (r := (.t _)) rfl rfl rfl rfl rfl ?_ | refine lx_move (r := (.tup _)) rfl rfl rfl rfl rfl ?_) | ((with_reducible refine g_load ?_); first | refine lx_load_var rfl rfl rfl rfl rfl rfl rfl rfl ?_) | ((with_reducible refine g_fieldAddr ?_); first | refine lx_fieldAddr rfl rfl rfl rfl rfl rfl rfl ?_) | ((with_reducible refine g_binOp ?_); first | refine lx_arith rfl rfl rfl rfl rfl rfl rfl ?_) | ((with_reducible refine g_assign ?_); first | refine lx_assign (r := (.t _)) rfl rfl rfl rfl rfl ?_) | ((with_reducible refine g_pick ?_); first | refine lx_pickF (r := (.t _)) rfl rfl rfl rfl rfl rfl ?_) | ((with_reducible refine g_alloc ?_); first | refine lx_alloc rfl rfl rfl rfl rfl rfl rfl ?_) | ((with_reducible refine g_store ?_); first | refine lx_store_var (r := (.t (.agg _))) rfl rfl rfl rfl rfl rfl rfl rfl rfl rfl ?_ | refine lx_store_var (r := (.row _)) rfl rfl rfl rfl rfl rfl rfl rfl rfl rfl ?_) | ((with_reducible refine g_extract ?_); first | refine lx_extract rfl rfl rfl rfl rfl rfl ?_) | ((with_reducible refine g_buildSlice ?_); first | refine lx_buildSlice rfl rfl rfl rfl rfl rfl rfl ?_) | ((with_reducible refine g_build ?_); first | refine lx_build (r := (.t (.agg _))) rfl rfl rfl rfl rfl rfl rfl ?_) | ((with_reducible refine g_append ?_); first | refine lx_append_row rfl rfl rfl rfl rfl rfl rfl rfl rfl rfl ?_ ?_ ?_) | ((with_reducible refine g_call ?_); first | refine lx_callT rfl rfl IHn rfl rfl (ArgsLE.refl _) rfl rfl rfl rfl rfl ?_ | refine lx_callT rfl rfl IHf rfl rfl (ArgsLE.refl _) rfl rfl rfl rfl rfl ?_) | refine c_condP rfl (fun hc => ?_) (fun hc => ?_) | refine c_condN rfl (fun hc => ?_) (fun hc => ?_))
          all_goals try (simp only [List.length_map, List.length_cons, List.length_nil]; omega)
          refine q_done (q_ret ?_ (by simp)); refine resT_cell_tmp rfl rfl rfl inferInstance rfl inferInstance rfl ?_ ?_; exact TLe.av (by repeat first | exact TLe.refl _ | exact TLe.nil _ | exact TLe.esl _ | refine TLe.agg ?_ | refine TLs.cons ?_ ?_ | exact TLs.nil); exact AVLE.refl _
        · rw [if_neg hr] at hi
          obtain ⟨k1, k2, _, _⟩ := g3 (by omega)
          repeat' (first | (with_reducible refine codeT_seq ?_) | (with_reducible refine codeT_block ?_) | (with_reducible refine codeT_skip ?_) | (with_reducible refine codeT_exit ?_) | (with_reducible refine codeT_regionL ?_) | (with_reducible refine lx_nil ?_) | (with_reducible refine q_then ?_) | (with_reducible refine q_then_exit ?_) | (with_reducible refine q_block ?_) | ((with_reducible refine q_block_same ?_ ?_); · rfl) | (with_reducible refine q_loop_exit ?_) | refine c_condT rfl ?_ | (exfalso; omega) | ((with_reducible refine g_move ?_); first | refine lx_move (r := (.t _)) rfl rfl rfl rfl rfl ?_ | refine lx_move (r := (.tup _)) rfl rfl rfl rfl rfl ?_) | ((with_reducible refine g_load ?_); first | refine lx_load_var rfl rfl rfl rfl rfl rfl rfl rfl ?_ | refine lx_load_varA (r := (.t (.agg _))) rfl rfl rfl rfl rfl rfl rfl rfl rfl ?_) | ((with_reducible refine g_fieldAddr ?_); first | refine lx_fieldAddr rfl rfl rfl rfl rfl rfl rfl ?_) | ((with_reducible refine g_binOp ?_); first | refine lx_arith rfl rfl rfl rfl rfl rfl rfl ?_) | ((with_reducible refine g_assign ?_); first | refine lx_assign (r := (.t _)) rfl rfl rfl rfl rfl ?_) | ((with_reducible refine g_pick ?_); first | refine lx_pickF (r := (.t _)) rfl rfl rfl rfl rfl rfl ?_) | ((with_reducible refine g_alloc ?_); first | refine lx_alloc rfl rfl rfl rfl rfl rfl rfl ?_) | ((with_reducible refine g_store ?_); first | refine lx_store_var (r := (.t (.agg _))) rfl rfl rfl rfl rfl rfl rfl rfl rfl rfl ?_ | refine lx_store_var (r := (.row _)) rfl rfl rfl rfl rfl rfl rfl rfl rfl rfl ?_) | ((with_reducible refine g_extract ?_); first | refine lx_extract rfl rfl rfl rfl rfl rfl ?_) | ((with_reducible refine g_buildSlice ?_); first | refine lx_buildSlice rfl rfl rfl rfl rfl rfl rfl ?_) | ((with_reducible refine g_append ?_); first | refine lx_append_row rfl rfl rfl rfl rfl rfl rfl rfl rfl rfl ?_ ?_ ?_) | ((with_reducible refine g_call ?_); first | refine lx_callT rfl rfl IHn rfl rfl (ArgsLE.refl _) rfl rfl rfl rfl rfl ?_ | refine lx_callT rfl rfl IHf rfl rfl (ArgsLE.refl _) rfl rfl rfl rfl rfl ?_) | refine c_condP rfl (fun hc => ?_) (fun hc => ?_) | refine c_condN rfl (fun hc => ?_) (fun hc => ?_))
          all_goals try (simp only [List.length_map, List.length_cons, List.length_nil]; omega)
          refine q_loop (n' := n - (j + 1)) (by omega) ((ghost_keep2 [0, 1, 2, 3, 10, 12, 19, 20] [.loc 10, .loc 12, .loc 61, .loc 43] rfl rfl).trans ((ghost_renL2 (.loc 61) (.loc 900) rfl rfl rfl rfl).trans (ghost_renL2 (.loc 43) (.loc 901) rfl rfl rfl rfl))) ⟨j + 1, ns ++ [y.text], is ++ [x], r.toNat, by omega, rfl, by simp only [List.length_append, List.length_cons, List.length_nil]; omega, by simp only [List.length_append, List.length_cons, List.length_nil]; omega, by omega, by omega, by rw [hi, show n - (j + 1) = c by omega], ?_, ?_⟩
          · rw [wrap64 (by omega) (by omega), show ((r.toNat : Nat) : Int) = r by omega]; rfl
          · rw [List.map_append, List.map_append, List.map_singleton, List.map_singleton, hT0]; rfl
    · have hje : j = n := by omega
      subst hje
      rw [Nat.sub_self, qItems] at hi
      repeat' (first | (with_reducible refine codeT_seq ?_) | (with_reducible refine codeT_block ?_) | (with_reducible refine codeT_skip ?_) | (with_reducible refine codeT_ret ?_) | (with_reducible refine codeT_exit ?_) | (with_reducible refine codeT_regionL ?_) | (with_reducible refine lx_nil ?_) | (with_reducible refine q_then ?_) | (with_reducible refine q_then_exit ?_) | ((with_reducible refine q_block_same ?_ ?_); · rfl) | (with_reducible refine q_loop_exit ?_) | refine c_condT rfl ?_ | ((with_reducible refine g_move ?_); first | refine lx_move (r := (.t _)) rfl rfl rfl rfl rfl ?_) | ((with_reducible refine g_load ?_); first | refine lx_load_varA (r := (.agg _)) rfl rfl rfl rfl rfl rfl rfl rfl rfl ?_) | ((with_reducible refine g_binOp ?_); first | refine lx_arith rfl rfl rfl rfl rfl rfl rfl ?_) | ((with_reducible refine g_assign ?_); first | refine lx_assign (r := (.t _)) rfl rfl rfl rfl rfl ?_) | ((with_reducible refine g_store ?_); first | refine lx_store_var (r := (.agg _)) rfl rfl rfl rfl rfl rfl rfl rfl rfl rfl ?_) | refine c_condP rfl (fun hc => ?_) (fun hc => ?_))
      all_goals try (exfalso; omega)
      rw [hi]
      simp only
      rw [Nd.toT_eq]
      refine q_ghost (ghost_keep2 [10, 11] [.loc 10, .loc 900, .loc 901] rfl rfl) ?_
      refine q_ghost (ghost_freezeL (id := .loc 900) rfl rfl rfl) ?_; refine q_ghost (ghost_freezeL (id := .loc 901) rfl rfl rfl) ?_
      refine q_done (q_ret ?_ (by simp)); refine resT_cell_tmp rfl rfl rfl inferInstance rfl inferInstance rfl ?_ ?_; exact TLe.av (by repeat first | exact TLe.refl _ | exact TLe.nil _ | exact TLe.esl _ | refine TLe.agg ?_ | refine TLs.cons ?_ ?_ | exact TLs.nil); exact AVLE.refl _
end Go.AL
/- What the document's reader of values of the third serialisation answers. -/
set_option linter.unusedVariables false
namespace Go.AL
open Go Go.Proofs Go.RowKit

theorem shl204 {c b : Int} (h0 : b ≤ c) (h1 : c ≤ b + 3) (hb : 0 ≤ b) (hb2 : b ≤ 250) : IntKind.i64.wrap (1 * 2 ^ min (IntKind.u64.wrap (IntKind.i64.wrap (c - b))).toNat IntKind.i64.bits) = ((2 ^ (c - b).toNat : Nat) : Int) := by
  rw [wrap64 (n := c - b) (by omega) (by omega), wrapU64 (by omega) (by omega)]
  have : c - b = 0 ∨ c - b = 1 ∨ c - b = 2 ∨ c - b = 3 := by omega
  rcases this with h | h | h | h <;> rw [h] <;> decide
theorem u64_nn (x : Int) : 0 ≤ IntKind.u64.wrap x := by
  simp only [IntKind.wrap, IntKind.bits, IntKind.signed, Bool.false_and, Bool.false_eq_true, if_false]; omega
theorem sx_word {i : Nat} (hi : i ≤ 3) {u : Int} (h0 : 0 ≤ u) (h1 : u < (256 : Int) ^ (2 ^ i)) :
    IntKind.i64.wrap (IntKind.u64.wrap (u * 2 ^ min (IntKind.u64.wrap (IntKind.i64.wrap (64 - IntKind.i64.wrap (8 * ((2 ^ i : Nat) : Int))))).toNat IntKind.u64.bits)) / 2 ^ min (IntKind.u64.wrap (IntKind.i64.wrap (64 - IntKind.i64.wrap (8 * ((2 ^ i : Nat) : Int))))).toNat IntKind.i64.bits = sx (2 ^ i) u := by
  unfold sx
  match i, hi with
  | 0, _ =>
    rw [show (IntKind.u64.wrap (IntKind.i64.wrap (64 - IntKind.i64.wrap (8 * ((2 ^ 0 : Nat) : Int))))).toNat = 56 by decide]
    simp only [IntKind.wrap, IntKind.bits, IntKind.signed, Bool.false_and, Bool.false_eq_true, if_false, Bool.true_and, decide_eq_true_eq]
    simp at h1 ⊢
    repeat' split
    all_goals omega
  | 1, _ =>
    rw [show (IntKind.u64.wrap (IntKind.i64.wrap (64 - IntKind.i64.wrap (8 * ((2 ^ 1 : Nat) : Int))))).toNat = 48 by decide]
    simp only [IntKind.wrap, IntKind.bits, IntKind.signed, Bool.false_and, Bool.false_eq_true, if_false, Bool.true_and, decide_eq_true_eq]
    simp at h1 ⊢
    repeat' split
    all_goals omega
  | 2, _ =>
    rw [show (IntKind.u64.wrap (IntKind.i64.wrap (64 - IntKind.i64.wrap (8 * ((2 ^ 2 : Nat) : Int))))).toNat = 32 by decide]
    simp only [IntKind.wrap, IntKind.bits, IntKind.signed, Bool.false_and, Bool.false_eq_true, if_false, Bool.true_and, decide_eq_true_eq]
    simp at h1 ⊢
    repeat' split
    all_goals omega
  | 3, _ =>
    rw [show (IntKind.u64.wrap (IntKind.i64.wrap (64 - IntKind.i64.wrap (8 * ((2 ^ 3 : Nat) : Int))))).toNat = 0 by decide]
    simp only [IntKind.wrap, IntKind.bits, IntKind.signed, Bool.false_and, Bool.false_eq_true, if_false, Bool.true_and, decide_eq_true_eq]
    simp at h1 ⊢
    repeat' split
    all_goals omega
set_option maxHeartbeats 32000000 in
theorem qVal_call (s : ByteArray) (hs : s.size ≤ 1000000000) : ∀ (u d p : Nat), d ≤ 1000 → p ≤ s.size → s.size - p < u → Spec Tryd.prog 67 [.t (.str s), .t (.int .i64 (p : Int)), .t (.int .i64 (d : Int))] [] (.tup [.t (qVal s u d p).1.toT, .t (.int .i64 (qVal s u d p).2)]) []
  | 0, d, p, hd, hp, hu => by omega
  | u + 1, d, p, hd, hp, hu => by
    have IH := fun (d' q : Nat) (h1 : d' ≤ 1000) (h2 : p < q) (h3 : q ≤ s.size) => qVal_call s hs u d' q h1 h3 (by omega)
    rw [qVal]
    by_cases h0 : d < 1 ∨ s.size ≤ p
    · rw [if_pos h0]
      simp only
      rw [zero_toT]
      refine spec_intro (env0 := [(0, _), (1, _), (2, _)]) (st0 := []) Tryd.func67 rfl rfl rfl rfl ?_
      repeat' (first | (with_reducible refine codeT_seq ?_) | (with_reducible refine codeT_skip ?_) | (with_reducible refine codeT_ret ?_) | (with_reducible refine codeT_regionL ?_) | (with_reducible refine lx_nil ?_) | (with_reducible refine q_then ?_) | (with_reducible refine q_then_ret ?_) | refine c_condT rfl ?_ | (exfalso; omega) | ((with_reducible refine g_guard ?_); first | refine lx_skip rfl rfl rfl ?_) | ((with_reducible refine g_move ?_); first | refine lx_move (r := (.t _)) rfl rfl rfl rfl rfl ?_) | ((with_reducible refine g_binOp ?_); first | refine lx_arith rfl rfl rfl rfl rfl rfl rfl ?_) | ((with_reducible refine g_assign ?_); first | refine lx_assign (r := (.t _)) rfl rfl rfl rfl rfl ?_) | ((with_reducible refine g_pick ?_); first | refine lx_pickT (r := (.t _)) rfl rfl rfl rfl rfl rfl ?_ | refine lx_pickF (r := (.t _)) rfl rfl rfl rfl rfl rfl ?_) | ((with_reducible refine g_alloc ?_); first | refine lx_alloc rfl rfl rfl rfl rfl rfl rfl ?_) | ((with_reducible refine g_store ?_); first | refine lx_store_var (r := (.t (.agg _))) rfl rfl rfl rfl rfl rfl rfl rfl rfl rfl ?_) | ((with_reducible refine g_build ?_); first | refine lx_build (r := (.t (.agg _))) rfl rfl rfl rfl rfl rfl rfl ?_) | ((with_reducible refine g_len ?_); first | refine lx_len_str rfl rfl rfl rfl rfl ?_) | refine c_condP rfl (fun hc => ?_) (fun hc => ?_) | refine lx_splitP rfl (fun hc => ?_) (fun hc => ?_))
      all_goals refine q_ret ?_ (stHas_spec trivial); refine resT_cell_tmp rfl rfl rfl inferInstance rfl inferInstance rfl ?_ ?_; exact TLe.av (by repeat first | exact TLe.refl _ | exact TLe.nil _ | exact TLe.esl _ | refine TLe.agg ?_ | refine TLs.cons ?_ ?_ | exact TLs.nil); exact AVLE.refl _
    · rw [if_neg h0]
      have hb := bAt_range s p
      obtain ⟨c, hc0⟩ : ∃ c, c = bAt s (p : Int) := ⟨_, rfl⟩
      have hC : IntKind.i64.wrap (bAt s (p : Int)) = c := by rw [hc0]; exact wrap64 (by omega) (by omega)
      have wp1 : IntKind.i64.wrap ((p : Int) + 1) = (p : Int) + 1 := wrap64 (by omega) (by omega)
      have hL := qLen_call s hs p (by omega)
      have hLg := qLen_good (s := s) (p := p) (by omega)
      rw [← hc0] at hb ⊢
      simp only
      by_cases c1 : c = 192
      · rw [if_pos c1]
        simp only
        rw [zero_toT]
        refine spec_intro (env0 := [(0, _), (1, _), (2, _)]) (st0 := []) Tryd.func67 rfl rfl rfl rfl ?_
        repeat' (first | (with_reducible refine codeT_seq ?_) | (with_reducible refine codeT_block ?_) | (with_reducible refine codeT_skip ?_) | (with_reducible refine codeT_ret ?_) | (with_reducible refine codeT_regionL ?_) | (with_reducible refine lx_nil ?_) | (with_reducible refine q_then ?_) | (with_reducible refine q_then_ret ?_) | (with_reducible refine q_block_ret ?_) | (exfalso; omega) | ((with_reducible refine g_move ?_); first | refine lx_move (r := (.t _)) rfl rfl rfl rfl rfl ?_) | ((with_reducible refine g_binOp ?_); first | refine lx_arith rfl rfl rfl rfl rfl rfl rfl ?_) | ((with_reducible refine g_assign ?_); first | refine lx_assign (r := (.t _)) rfl rfl rfl rfl rfl ?_) | ((with_reducible refine g_pick ?_); first | refine lx_pickF (r := (.t _)) rfl rfl rfl rfl rfl rfl ?_) | ((with_reducible refine g_alloc ?_); first | refine lx_alloc rfl rfl rfl rfl rfl rfl rfl ?_) | ((with_reducible refine g_store ?_); first | refine lx_store_var (r := (.t (.agg _))) rfl rfl rfl rfl rfl rfl rfl rfl rfl rfl ?_) | ((with_reducible refine g_index ?_); first | refine lx_index_str rfl rfl rfl rfl rfl rfl ?_ ?_ ?_) | ((with_reducible refine g_convert ?_); first | refine lx_conv_int rfl rfl rfl rfl rfl ?_) | ((with_reducible refine g_build ?_); first | refine lx_build (r := (.t (.agg _))) rfl rfl rfl rfl rfl rfl rfl ?_) | ((with_reducible refine g_len ?_); first | refine lx_len_str rfl rfl rfl rfl rfl ?_) | refine c_condP rfl (fun hc => ?_) (fun hc => ?_) | refine lx_splitP rfl (fun hc => ?_) (fun hc => ?_))
        all_goals try omega
        refine q_ret ?_ (stHas_spec trivial); refine resT_cell_tmp rfl rfl rfl inferInstance rfl inferInstance rfl ?_ ?_; exact TLe.av (by repeat first | exact TLe.refl _ | exact TLe.nil _ | exact TLe.esl _ | refine TLe.agg ?_ | refine TLs.cons ?_ ?_ | exact TLs.nil); exact AVLE.of_eq (congrArg (fun n => AV.t (T.int .i64 n)) wp1)
      rw [if_neg c1]
      by_cases c2 : c = 194 ∨ c = 195
      · rw [if_pos c2]
        simp only
        rw [Nd.toT_eq, ← hC]
        refine spec_intro (env0 := [(0, _), (1, _), (2, _)]) (st0 := []) Tryd.func67 rfl rfl rfl rfl ?_
        repeat' (first | (with_reducible refine codeT_seq ?_) | (with_reducible refine codeT_block ?_) | (with_reducible refine codeT_skip ?_) | (with_reducible refine codeT_ret ?_) | (with_reducible refine codeT_regionL ?_) | (with_reducible refine lx_nil ?_) | (with_reducible refine q_then ?_) | (with_reducible refine q_then_ret ?_) | (with_reducible refine q_block_ret ?_) | refine c_condT rfl ?_ | (exfalso; omega) | ((with_reducible refine g_guard ?_); first | refine lx_skip rfl rfl rfl ?_) | ((with_reducible refine g_move ?_); first | refine lx_move (r := (.t _)) rfl rfl rfl rfl rfl ?_) | ((with_reducible refine g_binOp ?_); first | refine lx_arith rfl rfl rfl rfl rfl rfl rfl ?_) | ((with_reducible refine g_assign ?_); first | refine lx_assign (r := (.t _)) rfl rfl rfl rfl rfl ?_) | ((with_reducible refine g_pick ?_); first | refine lx_pickT (r := (.t _)) rfl rfl rfl rfl rfl rfl ?_ | refine lx_pickF (r := (.t _)) rfl rfl rfl rfl rfl rfl ?_) | ((with_reducible refine g_alloc ?_); first | refine lx_alloc rfl rfl rfl rfl rfl rfl rfl ?_) | ((with_reducible refine g_store ?_); first | refine lx_store_var (r := (.t (.agg _))) rfl rfl rfl rfl rfl rfl rfl rfl rfl rfl ?_) | ((with_reducible refine g_index ?_); first | refine lx_index_str rfl rfl rfl rfl rfl rfl ?_ ?_ ?_) | ((with_reducible refine g_convert ?_); first | refine lx_conv_int rfl rfl rfl rfl rfl ?_) | ((with_reducible refine g_build ?_); first | refine lx_build (r := (.t (.agg _))) rfl rfl rfl rfl rfl rfl rfl ?_) | ((with_reducible refine g_len ?_); first | refine lx_len_str rfl rfl rfl rfl rfl ?_) | refine c_condP rfl (fun hc => ?_) (fun hc => ?_) | refine lx_splitP rfl (fun hc => ?_) (fun hc => ?_))
        all_goals try omega
        all_goals (refine q_ret ?_ (stHas_spec trivial); refine resT_cell_tmp rfl rfl rfl inferInstance rfl inferInstance rfl ?_ ?_; exact TLe.av (by repeat first | exact TLe.refl _ | exact TLe.nil _ | exact TLe.esl _ | refine TLe.agg ?_ | refine TLs.cons ?_ ?_ | exact TLs.nil); exact AVLE.of_eq (congrArg (fun n => AV.t (T.int .i64 n)) wp1))
      rw [if_neg c2]
      by_cases c3 : c < 128
      · rw [if_pos c3]
        have hN := rNumber_call (IntKind.i64.wrap (bAt s (p : Int)))
        unfold qNumb
        simp only
        rw [Nd.toT_eq, ← hC]
        refine spec_intro (env0 := [(0, _), (1, _), (2, _)]) (st0 := []) Tryd.func67 rfl rfl rfl rfl ?_
        repeat' (first | (with_reducible refine codeT_seq ?_) | (with_reducible refine codeT_block ?_) | (with_reducible refine codeT_skip ?_) | (with_reducible refine codeT_ret ?_) | (with_reducible refine codeT_regionL ?_) | (with_reducible refine lx_nil ?_) | (with_reducible refine q_then ?_) | (with_reducible refine q_then_ret ?_) | (with_reducible refine q_block_ret ?_) | (exfalso; omega) | ((with_reducible refine g_move ?_); first | refine lx_move (r := (.t _)) rfl rfl rfl rfl rfl ?_) | ((with_reducible refine g_binOp ?_); first | refine lx_arith rfl rfl rfl rfl rfl rfl rfl ?_) | ((with_reducible refine g_assign ?_); first | refine lx_assign (r := (.t _)) rfl rfl rfl rfl rfl ?_) | ((with_reducible refine g_pick ?_); first | refine lx_pickF (r := (.t _)) rfl rfl rfl rfl rfl rfl ?_) | ((with_reducible refine g_alloc ?_); first | refine lx_alloc rfl rfl rfl rfl rfl rfl rfl ?_) | ((with_reducible refine g_store ?_); first | refine lx_store_var (r := (.t (.agg _))) rfl rfl rfl rfl rfl rfl rfl rfl rfl rfl ?_) | ((with_reducible refine g_index ?_); first | refine lx_index_str rfl rfl rfl rfl rfl rfl ?_ ?_ ?_) | ((with_reducible refine g_convert ?_); first | refine lx_conv_int rfl rfl rfl rfl rfl ?_) | ((with_reducible refine g_len ?_); first | refine lx_len_str rfl rfl rfl rfl rfl ?_) | ((with_reducible refine g_call ?_); first | refine lx_callT rfl rfl hN rfl rfl (ArgsLE.refl _) rfl rfl rfl rfl rfl ?_) | refine c_condP rfl (fun hc => ?_) (fun hc => ?_) | refine lx_splitP rfl (fun hc => ?_) (fun hc => ?_))
        all_goals try omega
        all_goals (refine q_ret ?_ (stHas_spec trivial); refine resT_cell_tmp rfl rfl rfl inferInstance rfl inferInstance rfl ?_ ?_; exact TLe.av (by repeat first | exact TLe.refl _ | exact TLe.nil _ | exact TLe.esl _ | refine TLe.agg ?_ | refine TLs.cons ?_ ?_ | exact TLs.nil); exact AVLE.of_eq (congrArg (fun n => AV.t (T.int .i64 n)) wp1))
      rw [if_neg c3]
      by_cases c4 : 224 ≤ c
      · rw [if_pos c4]
        have hN := rNumber_call (IntKind.i64.wrap (IntKind.i64.wrap (bAt s (p : Int)) - 256))
        have w4 : c - 256 = IntKind.i64.wrap (IntKind.i64.wrap (bAt s (p : Int)) - 256) := by rw [hC]; exact (wrap64 (by omega) (by omega)).symm
        unfold qNumb
        simp only
        rw [Nd.toT_eq, w4]
        refine spec_intro (env0 := [(0, _), (1, _), (2, _)]) (st0 := []) Tryd.func67 rfl rfl rfl rfl ?_
        repeat' (first | (with_reducible refine codeT_seq ?_) | (with_reducible refine codeT_block ?_) | (with_reducible refine codeT_skip ?_) | (with_reducible refine codeT_ret ?_) | (with_reducible refine codeT_regionL ?_) | (with_reducible refine lx_nil ?_) | (with_reducible refine q_then ?_) | (with_reducible refine q_then_ret ?_) | (with_reducible refine q_block_ret ?_) | (exfalso; omega) | ((with_reducible refine g_move ?_); first | refine lx_move (r := (.t _)) rfl rfl rfl rfl rfl ?_) | ((with_reducible refine g_binOp ?_); first | refine lx_arith rfl rfl rfl rfl rfl rfl rfl ?_) | ((with_reducible refine g_assign ?_); first | refine lx_assign (r := (.t _)) rfl rfl rfl rfl rfl ?_) | ((with_reducible refine g_pick ?_); first | refine lx_pickF (r := (.t _)) rfl rfl rfl rfl rfl rfl ?_) | ((with_reducible refine g_alloc ?_); first | refine lx_alloc rfl rfl rfl rfl rfl rfl rfl ?_) | ((with_reducible refine g_store ?_); first | refine lx_store_var (r := (.t (.agg _))) rfl rfl rfl rfl rfl rfl rfl rfl rfl rfl ?_) | ((with_reducible refine g_index ?_); first | refine lx_index_str rfl rfl rfl rfl rfl rfl ?_ ?_ ?_) | ((with_reducible refine g_convert ?_); first | refine lx_conv_int rfl rfl rfl rfl rfl ?_) | ((with_reducible refine g_len ?_); first | refine lx_len_str rfl rfl rfl rfl rfl ?_) | ((with_reducible refine g_call ?_); first | refine lx_callT rfl rfl hN rfl rfl (ArgsLE.refl _) rfl rfl rfl rfl rfl ?_) | refine c_condP rfl (fun hc => ?_) (fun hc => ?_) | refine lx_splitP rfl (fun hc => ?_) (fun hc => ?_))
        all_goals try omega
        all_goals (refine q_ret ?_ (stHas_spec trivial); refine resT_cell_tmp rfl rfl rfl inferInstance rfl inferInstance rfl ?_ ?_; exact TLe.av (by repeat first | exact TLe.refl _ | exact TLe.nil _ | exact TLe.esl _ | refine TLe.agg ?_ | refine TLs.cons ?_ ?_ | exact TLs.nil); exact AVLE.of_eq (congrArg (fun n => AV.t (T.int .i64 n)) wp1))
      rw [if_neg c4]
      by_cases c5 : 204 ≤ c ∧ c ≤ 207
      · rw [if_pos c5]
        have hsh := shl204 (c := c) (b := 204) c5.1 (by omega) (by omega) (by omega)
        obtain ⟨i, hi, hi3⟩ : ∃ i : Nat, (c - 204).toNat = i ∧ i ≤ 3 := ⟨_, rfl, by omega⟩
        rw [hi] at hsh ⊢
        have hk8 : 2 ^ i ≤ 8 := by
          match i, hi3 with
          | 0, _ | 1, _ | 2, _ | 3, _ => decide
        have hF := qFixed_call s hs (p + 1) (by omega) (2 ^ i) hk8
        have hg := qFixed_good (s := s) (p := p + 1) hi3
        rw [← hsh, ← hC, show (((p + 1 : Nat)) : Int) = (p : Int) + 1 by omega, ← wp1] at hF
        have hsh0 : 0 ≤ IntKind.u64.wrap (IntKind.i64.wrap (IntKind.i64.wrap (bAt s (p : Int)) - 204)) := by rw [hC, wrap64 (n := c - 204) (by omega) (by omega), wrapU64 (by omega) (by omega)]; omega
        generalize qFixed s (p + 1) (2 ^ i) = y at hF hg ⊢
        obtain ⟨y1, y2⟩ := y
        simp only at hF hg ⊢
        have hN := rNumber_call (IntKind.i64.wrap y1)
        clear hsh hL hLg
        by_cases hbig : 9223372036854775807 < y1
        · rw [if_pos hbig]
          simp only
          rw [zero_toT]
          refine spec_intro (env0 := [(0, _), (1, _), (2, _)]) (st0 := []) Tryd.func67 rfl rfl rfl rfl ?_
          repeat' (first | (with_reducible refine codeT_seq ?_) | (with_reducible refine codeT_block ?_) | (with_reducible refine codeT_skip ?_) | (with_reducible refine codeT_ret ?_) | (with_reducible refine codeT_regionL ?_) | (with_reducible refine lx_nil ?_) | (with_reducible refine q_then ?_) | (with_reducible refine q_then_ret ?_) | (with_reducible refine q_block_ret ?_) | (exfalso; omega) | ((with_reducible refine g_move ?_); first | refine lx_move (r := (.t _)) rfl rfl rfl rfl rfl ?_ | refine lx_move (r := (.tup _)) rfl rfl rfl rfl rfl ?_) | ((with_reducible refine g_binOp ?_); first | refine lx_arith rfl rfl rfl rfl rfl rfl rfl ?_ | refine lx_shl rfl rfl rfl rfl rfl rfl ?_ ?_) | ((with_reducible refine g_assign ?_); first | refine lx_assign (r := (.t _)) rfl rfl rfl rfl rfl ?_) | ((with_reducible refine g_pick ?_); first | refine lx_pickT (r := (.t _)) rfl rfl rfl rfl rfl rfl ?_ | refine lx_pickF (r := (.t _)) rfl rfl rfl rfl rfl rfl ?_) | ((with_reducible refine g_alloc ?_); first | refine lx_alloc rfl rfl rfl rfl rfl rfl rfl ?_) | ((with_reducible refine g_store ?_); first | refine lx_store_var (r := (.t (.agg _))) rfl rfl rfl rfl rfl rfl rfl rfl rfl rfl ?_) | ((with_reducible refine g_index ?_); first | refine lx_index_str rfl rfl rfl rfl rfl rfl ?_ ?_ ?_) | ((with_reducible refine g_convert ?_); first | refine lx_conv_int rfl rfl rfl rfl rfl ?_) | ((with_reducible refine g_extract ?_); first | refine lx_extract rfl rfl rfl rfl rfl rfl ?_) | ((with_reducible refine g_build ?_); first | refine lx_build (r := (.t (.agg _))) rfl rfl rfl rfl rfl rfl rfl ?_) | ((with_reducible refine g_len ?_); first | refine lx_len_str rfl rfl rfl rfl rfl ?_) | ((with_reducible refine g_call ?_); first | refine lx_callT rfl rfl hF rfl rfl (ArgsLE.refl _) rfl rfl rfl rfl rfl ?_) | refine c_condP rfl (fun hc => ?_) (fun hc => ?_) | refine lx_splitP rfl (fun hc => ?_) (fun hc => ?_))
          all_goals try omega
          all_goals try (exact hsh0)
          all_goals refine q_ret ?_ (stHas_spec trivial); refine resT_cell_tmp rfl rfl rfl inferInstance rfl inferInstance rfl ?_ ?_; exact TLe.av (by repeat first | exact TLe.refl _ | exact TLe.nil _ | exact TLe.esl _ | refine TLe.agg ?_ | refine TLs.cons ?_ ?_ | exact TLs.nil); exact AVLE.refl _
        · rw [if_neg hbig]
          have wy : y1 = IntKind.i64.wrap y1 := (wrap64 (by omega) (by omega)).symm
          unfold qNumb
          simp only
          rw [Nd.toT_eq, wy]
          refine spec_intro (env0 := [(0, _), (1, _), (2, _)]) (st0 := []) Tryd.func67 rfl rfl rfl rfl ?_
          repeat' (first | (with_reducible refine codeT_seq ?_) | (with_reducible refine codeT_block ?_) | (with_reducible refine codeT_skip ?_) | (with_reducible refine codeT_ret ?_) | (with_reducible refine codeT_regionL ?_) | (with_reducible refine lx_nil ?_) | (with_reducible refine q_then ?_) | (with_reducible refine q_then_ret ?_) | (with_reducible refine q_block_ret ?_) | (exfalso; omega) | ((with_reducible refine g_move ?_); first | refine lx_move (r := (.t _)) rfl rfl rfl rfl rfl ?_ | refine lx_move (r := (.tup _)) rfl rfl rfl rfl rfl ?_) | ((with_reducible refine g_binOp ?_); first | refine lx_arith rfl rfl rfl rfl rfl rfl rfl ?_ | refine lx_shl rfl rfl rfl rfl rfl rfl ?_ ?_) | ((with_reducible refine g_assign ?_); first | refine lx_assign (r := (.t _)) rfl rfl rfl rfl rfl ?_) | ((with_reducible refine g_pick ?_); first | refine lx_pickT (r := (.t _)) rfl rfl rfl rfl rfl rfl ?_ | refine lx_pickF (r := (.t _)) rfl rfl rfl rfl rfl rfl ?_) | ((with_reducible refine g_alloc ?_); first | refine lx_alloc rfl rfl rfl rfl rfl rfl rfl ?_) | ((with_reducible refine g_store ?_); first | refine lx_store_var (r := (.t (.agg _))) rfl rfl rfl rfl rfl rfl rfl rfl rfl rfl ?_) | ((with_reducible refine g_index ?_); first | refine lx_index_str rfl rfl rfl rfl rfl rfl ?_ ?_ ?_) | ((with_reducible refine g_convert ?_); first | refine lx_conv_int rfl rfl rfl rfl rfl ?_) | ((with_reducible refine g_extract ?_); first | refine lx_extract rfl rfl rfl rfl rfl rfl ?_) | ((with_reducible refine g_len ?_); first | refine lx_len_str rfl rfl rfl rfl rfl ?_) | ((with_reducible refine g_call ?_); first | refine lx_callT rfl rfl hF rfl rfl (ArgsLE.refl _) rfl rfl rfl rfl rfl ?_ | refine lx_callT rfl rfl hN rfl rfl (ArgsLE.refl _) rfl rfl rfl rfl rfl ?_) | refine c_condP rfl (fun hc => ?_) (fun hc => ?_) | refine lx_splitP rfl (fun hc => ?_) (fun hc => ?_))
          all_goals try omega
          all_goals try (exact hsh0)
          all_goals refine q_ret ?_ (stHas_spec trivial); refine resT_cell_tmp rfl rfl rfl inferInstance rfl inferInstance rfl ?_ ?_; exact TLe.av (by repeat first | exact TLe.refl _ | exact TLe.nil _ | exact TLe.esl _ | refine TLe.agg ?_ | refine TLs.cons ?_ ?_ | exact TLs.nil); exact AVLE.refl _
      rw [if_neg c5]
      by_cases c6 : 208 ≤ c ∧ c ≤ 211
      · rw [if_pos c6]
        have hsh := shl204 (c := c) (b := 208) c6.1 (by omega) (by omega) (by omega)
        obtain ⟨i, hi, hi3⟩ : ∃ i : Nat, (c - 208).toNat = i ∧ i ≤ 3 := ⟨_, rfl, by omega⟩
        rw [hi] at hsh ⊢
        have hk8 : 2 ^ i ≤ 8 := by
          match i, hi3 with
          | 0, _ | 1, _ | 2, _ | 3, _ => decide
        have hF := qFixed_call s hs (p + 1) (by omega) (2 ^ i) hk8
        have hg := qFixed_good (s := s) (p := p + 1) hi3
        have hRaw := sx_word hi3 hg.1 hg.2.1
        rw [← hC] at hsh
        rw [← hsh, show (((p + 1 : Nat)) : Int) = (p : Int) + 1 by omega, ← wp1] at hF
        rw [← hsh] at hRaw
        generalize qFixed s (p + 1) (2 ^ i) = y at hF hg hRaw ⊢
        obtain ⟨y1, y2⟩ := y
        simp only at hF hg hRaw ⊢
        clear hsh hL hLg
        rw [← hRaw]
        unfold qNumb
        try simp only
        rw [Nd.toT_eq]
        refine spec_intro (env0 := [(0, _), (1, _), (2, _)]) (st0 := []) Tryd.func67 rfl rfl rfl rfl ?_
        repeat' (first | (with_reducible refine codeT_seq ?_) | (with_reducible refine codeT_block ?_) | (with_reducible refine codeT_skip ?_) | (with_reducible refine codeT_ret ?_) | (with_reducible refine codeT_regionL ?_) | (with_reducible refine lx_nil ?_) | (with_reducible refine q_then ?_) | (with_reducible refine q_then_ret ?_) | (with_reducible refine q_block ?_) | (with_reducible refine q_block_ret ?_) | (exfalso; omega) | ((with_reducible refine g_move ?_); first | refine lx_move (r := (.t _)) rfl rfl rfl rfl rfl ?_ | refine lx_move (r := (.tup _)) rfl rfl rfl rfl rfl ?_) | ((with_reducible refine g_binOp ?_); first | refine lx_arith rfl rfl rfl rfl rfl rfl rfl ?_ | refine lx_shl rfl rfl rfl rfl rfl rfl ?_ ?_ | refine lx_shr rfl rfl rfl rfl rfl rfl ?_ ?_) | ((with_reducible refine g_assign ?_); first | refine lx_assign (r := (.t _)) rfl rfl rfl rfl rfl ?_) | ((with_reducible refine g_pick ?_); first | refine lx_pickT (r := (.t _)) rfl rfl rfl rfl rfl rfl ?_ | refine lx_pickF (r := (.t _)) rfl rfl rfl rfl rfl rfl ?_) | ((with_reducible refine g_alloc ?_); first | refine lx_alloc rfl rfl rfl rfl rfl rfl rfl ?_) | ((with_reducible refine g_store ?_); first | refine lx_store_var (r := (.t (.agg _))) rfl rfl rfl rfl rfl rfl rfl rfl rfl rfl ?_) | ((with_reducible refine g_index ?_); first | refine lx_index_str rfl rfl rfl rfl rfl rfl ?_ ?_ ?_) | ((with_reducible refine g_convert ?_); first | refine lx_conv_int rfl rfl rfl rfl rfl ?_) | ((with_reducible refine g_extract ?_); first | refine lx_extract rfl rfl rfl rfl rfl rfl ?_) | ((with_reducible refine g_len ?_); first | refine lx_len_str rfl rfl rfl rfl rfl ?_) | ((with_reducible refine g_call ?_); first | refine lx_callT rfl rfl hF rfl rfl (ArgsLE.refl _) rfl rfl rfl rfl rfl ?_ | refine lx_callT rfl rfl (rNumber_call _) rfl rfl (ArgsLE.refl _) rfl rfl rfl rfl rfl ?_) | refine c_condP rfl (fun hc => ?_) (fun hc => ?_) | refine lx_splitP rfl (fun hc => ?_) (fun hc => ?_))
        all_goals try (exact u64_nn _)
        all_goals try omega
        all_goals refine q_ret ?_ (stHas_spec trivial); refine resT_cell_tmp rfl rfl rfl inferInstance rfl inferInstance rfl ?_ ?_; exact TLe.av (by repeat first | exact TLe.refl _ | exact TLe.nil _ | exact TLe.esl _ | refine TLe.agg ?_ | refine TLs.cons ?_ ?_ | exact TLs.nil); exact AVLE.refl _
      rw [if_neg c6]
      have hq0 := hLg
      generalize qLen s p = z at hL hLg hq0 ⊢
      obtain ⟨⟨k, n⟩, q⟩ := z
      simp only at hL hLg hq0 ⊢
      by_cases hq : q < 0
      · rw [if_pos (.inl hq)]
        try simp only
        rw [zero_toT]
        refine spec_intro (env0 := [(0, _), (1, _), (2, _)]) (st0 := []) Tryd.func67 rfl rfl rfl rfl ?_
        repeat' (first | (with_reducible refine codeT_seq ?_) | (with_reducible refine codeT_block ?_) | (with_reducible refine codeT_skip ?_) | (with_reducible refine codeT_ret ?_) | (with_reducible refine codeT_regionL ?_) | (with_reducible refine lx_nil ?_) | (with_reducible refine q_then ?_) | (with_reducible refine q_then_ret ?_) | (with_reducible refine q_block ?_) | (with_reducible refine q_block_ret ?_) | refine c_condT rfl ?_ | refine c_condF rfl ?_ | (exfalso; omega) | ((with_reducible refine g_guard ?_); first | refine lx_skip rfl rfl rfl ?_) | ((with_reducible refine g_move ?_); first | refine lx_move (r := (.t _)) rfl rfl rfl rfl rfl ?_ | refine lx_move (r := (.tup _)) rfl rfl rfl rfl rfl ?_) | ((with_reducible refine g_binOp ?_); first | refine lx_arith rfl rfl rfl rfl rfl rfl rfl ?_) | ((with_reducible refine g_assign ?_); first | refine lx_assign (r := (.t _)) rfl rfl rfl rfl rfl ?_) | ((with_reducible refine g_pick ?_); first | refine lx_pickT (r := (.t _)) rfl rfl rfl rfl rfl rfl ?_ | refine lx_pickF (r := (.t _)) rfl rfl rfl rfl rfl rfl ?_) | ((with_reducible refine g_alloc ?_); first | refine lx_alloc rfl rfl rfl rfl rfl rfl rfl ?_) | ((with_reducible refine g_store ?_); first | refine lx_store_var (r := (.t (.agg _))) rfl rfl rfl rfl rfl rfl rfl rfl rfl rfl ?_) | ((with_reducible refine g_index ?_); first | refine lx_index_str rfl rfl rfl rfl rfl rfl ?_ ?_ ?_) | ((with_reducible refine g_convert ?_); first | refine lx_conv_int rfl rfl rfl rfl rfl ?_) | ((with_reducible refine g_extract ?_); first | refine lx_extract rfl rfl rfl rfl rfl rfl ?_) | ((with_reducible refine g_build ?_); first | refine lx_build (r := (.t (.agg _))) rfl rfl rfl rfl rfl rfl rfl ?_) | ((with_reducible refine g_len ?_); first | refine lx_len_str rfl rfl rfl rfl rfl ?_) | ((with_reducible refine g_call ?_); first | refine lx_callT rfl rfl hL rfl rfl (ArgsLE.refl _) rfl rfl rfl rfl rfl ?_) | refine c_condP rfl (fun hc => ?_) (fun hc => ?_) | refine lx_splitP rfl (fun hc => ?_) (fun hc => ?_))
        all_goals try omega
        all_goals refine q_ret ?_ (stHas_spec trivial); refine resT_cell_tmp rfl rfl rfl inferInstance rfl inferInstance rfl ?_ ?_; exact TLe.av (by repeat first | exact TLe.refl _ | exact TLe.nil _ | exact TLe.esl _ | refine TLe.agg ?_ | refine TLs.cons ?_ ?_ | exact TLs.nil); exact AVLE.refl _
      obtain ⟨q1, q2, q3, q4, q5, _⟩ := hLg (by omega)
      clear hLg hq0
      have ws : IntKind.i64.wrap ((s.size : Int) - q) = (s.size : Int) - q := wrap64 (by omega) (by omega)
      by_cases hbad : (k = 3 ∧ (s.size : Int) - q < n) ∨ (k ≠ 3 ∧ 256 < n)
      · rw [if_pos (.inr hbad)]
        try simp only
        rw [zero_toT]
        refine spec_intro (env0 := [(0, _), (1, _), (2, _)]) (st0 := []) Tryd.func67 rfl rfl rfl rfl ?_
        repeat' (first | (with_reducible refine codeT_seq ?_) | (with_reducible refine codeT_block ?_) | (with_reducible refine codeT_skip ?_) | (with_reducible refine codeT_ret ?_) | (with_reducible refine codeT_regionL ?_) | (with_reducible refine lx_nil ?_) | (with_reducible refine q_then ?_) | (with_reducible refine q_then_ret ?_) | (with_reducible refine q_block ?_) | (with_reducible refine q_block_ret ?_) | refine c_condT rfl ?_ | refine c_condF rfl ?_ | (exfalso; omega) | ((with_reducible refine g_guard ?_); first | refine lx_skip rfl rfl rfl ?_) | ((with_reducible refine g_move ?_); first | refine lx_move (r := (.t _)) rfl rfl rfl rfl rfl ?_ | refine lx_move (r := (.tup _)) rfl rfl rfl rfl rfl ?_) | ((with_reducible refine g_binOp ?_); first | refine lx_arith rfl rfl rfl rfl rfl rfl rfl ?_) | ((with_reducible refine g_assign ?_); first | refine lx_assign (r := (.t _)) rfl rfl rfl rfl rfl ?_) | ((with_reducible refine g_pick ?_); first | refine lx_pickT (r := (.t _)) rfl rfl rfl rfl rfl rfl ?_ | refine lx_pickF (r := (.t _)) rfl rfl rfl rfl rfl rfl ?_) | ((with_reducible refine g_alloc ?_); first | refine lx_alloc rfl rfl rfl rfl rfl rfl rfl ?_) | ((with_reducible refine g_store ?_); first | refine lx_store_var (r := (.t (.agg _))) rfl rfl rfl rfl rfl rfl rfl rfl rfl rfl ?_) | ((with_reducible refine g_index ?_); first | refine lx_index_str rfl rfl rfl rfl rfl rfl ?_ ?_ ?_) | ((with_reducible refine g_convert ?_); first | refine lx_conv_int rfl rfl rfl rfl rfl ?_) | ((with_reducible refine g_extract ?_); first | refine lx_extract rfl rfl rfl rfl rfl rfl ?_) | ((with_reducible refine g_build ?_); first | refine lx_build (r := (.t (.agg _))) rfl rfl rfl rfl rfl rfl rfl ?_) | ((with_reducible refine g_len ?_); first | refine lx_len_str rfl rfl rfl rfl rfl ?_) | ((with_reducible refine g_call ?_); first | refine lx_callT rfl rfl hL rfl rfl (ArgsLE.refl _) rfl rfl rfl rfl rfl ?_) | refine c_condP rfl (fun hc => ?_) (fun hc => ?_) | refine lx_splitP rfl (fun hc => ?_) (fun hc => ?_) | refine lx_splitN rfl (fun hc => ?_) (fun hc => ?_))
        all_goals try omega
        all_goals refine q_ret ?_ (stHas_spec trivial); refine resT_cell_tmp rfl rfl rfl inferInstance rfl inferInstance rfl ?_ ?_; exact TLe.av (by repeat first | exact TLe.refl _ | exact TLe.nil _ | exact TLe.esl _ | refine TLe.agg ?_ | refine TLs.cons ?_ ?_ | exact TLs.nil); exact AVLE.refl _
      rw [if_neg (fun h => h.elim hq hbad)]
      have wq : IntKind.i64.wrap (q + n) = q + n := wrap64 (by omega) (by omega)
      by_cases hk3 : k = 3
      · rw [if_pos hk3]
        have hT := rTextN_call (s.extract q.toNat (IntKind.i64.wrap (q + n)).toNat)
        rw [← wq]
        try simp only
        rw [Nd.toT_eq]
        refine spec_intro (env0 := [(0, _), (1, _), (2, _)]) (st0 := []) Tryd.func67 rfl rfl rfl rfl ?_
        repeat' (first | (with_reducible refine codeT_seq ?_) | (with_reducible refine codeT_block ?_) | (with_reducible refine codeT_skip ?_) | (with_reducible refine codeT_ret ?_) | (with_reducible refine codeT_regionL ?_) | (with_reducible refine lx_nil ?_) | (with_reducible refine q_then ?_) | (with_reducible refine q_then_ret ?_) | (with_reducible refine q_block ?_) | (with_reducible refine q_block_ret ?_) | refine c_condF rfl ?_ | (exfalso; omega) | ((with_reducible refine g_guard ?_); first | refine lx_skip rfl rfl rfl ?_) | ((with_reducible refine g_move ?_); first | refine lx_move (r := (.t _)) rfl rfl rfl rfl rfl ?_ | refine lx_move (r := (.tup _)) rfl rfl rfl rfl rfl ?_) | ((with_reducible refine g_binOp ?_); first | refine lx_arith rfl rfl rfl rfl rfl rfl rfl ?_) | ((with_reducible refine g_assign ?_); first | refine lx_assign (r := (.t _)) rfl rfl rfl rfl rfl ?_) | ((with_reducible refine g_pick ?_); first | refine lx_pickT (r := (.t _)) rfl rfl rfl rfl rfl rfl ?_ | refine lx_pickF (r := (.t _)) rfl rfl rfl rfl rfl rfl ?_) | ((with_reducible refine g_alloc ?_); first | refine lx_alloc rfl rfl rfl rfl rfl rfl rfl ?_) | ((with_reducible refine g_store ?_); first | refine lx_store_var (r := (.t (.agg _))) rfl rfl rfl rfl rfl rfl rfl rfl rfl rfl ?_) | ((with_reducible refine g_index ?_); first | refine lx_index_str rfl rfl rfl rfl rfl rfl ?_ ?_ ?_) | ((with_reducible refine g_convert ?_); first | refine lx_conv_int rfl rfl rfl rfl rfl ?_) | ((with_reducible refine g_extract ?_); first | refine lx_extract rfl rfl rfl rfl rfl rfl ?_) | ((with_reducible refine g_slice ?_); first | refine lx_slice_str rfl rfl ⟨_, rfl⟩ ⟨_, rfl⟩ rfl rfl rfl ?_ ?_ ?_ ?_) | ((with_reducible refine g_len ?_); first | refine lx_len_str rfl rfl rfl rfl rfl ?_) | ((with_reducible refine g_call ?_); first | refine lx_callT rfl rfl hL rfl rfl (ArgsLE.refl _) rfl rfl rfl rfl rfl ?_ | refine lx_callT rfl rfl hT rfl rfl (ArgsLE.refl _) rfl rfl rfl rfl rfl ?_) | refine c_condP rfl (fun hc => ?_) (fun hc => ?_) | refine lx_splitP rfl (fun hc => ?_) (fun hc => ?_) | refine lx_splitN rfl (fun hc => ?_) (fun hc => ?_))
        all_goals try omega
        all_goals refine q_ret ?_ (stHas_spec trivial); refine resT_cell_tmp rfl rfl rfl inferInstance rfl inferInstance rfl ?_ ?_; exact TLe.av (by repeat first | exact TLe.refl _ | exact TLe.nil _ | exact TLe.esl _ | refine TLe.agg ?_ | refine TLs.cons ?_ ?_ | exact TLs.nil); exact AVLE.refl _
      · rw [if_neg hk3]
        have hI := qItems_call s hs (d : Int) (by omega) (by omega) (qVal s u 1) (qVal s u (d - 1)) (qVal_good s u 1) (qVal_good s u (d - 1)) p (fun q h1 h2 => IH 1 q (by omega) h1 h2) (fun q h1 h2 => by
          have := IH (d - 1) q (by omega) h1 h2
          rwa [show ((d - 1 : Nat) : Int) = (d : Int) - 1 by omega] at this) k (by omega) n.toNat (by omega) q.toNat (by omega) (by omega) _ rfl
        rw [show ((n.toNat : Nat) : Int) = n by omega, show ((q.toNat : Nat) : Int) = q by omega] at hI
        generalize qItems (qVal s u 1) (qVal s u (d - 1)) k n.toNat [] [] q.toNat = R at hI ⊢
        obtain ⟨x, e⟩ := R
        simp only at hI ⊢
        have hTx := x.toT_full
        rw [hTx] at hI ⊢
        clear IH
        refine spec_intro (env0 := [(0, _), (1, _), (2, _)]) (st0 := []) Tryd.func67 rfl rfl rfl rfl ?_
        repeat' (first | (with_reducible refine codeT_seq ?_) | (with_reducible refine codeT_block ?_) | (with_reducible refine codeT_skip ?_) | (with_reducible refine codeT_ret ?_) | (with_reducible refine codeT_regionL ?_) | (with_reducible refine lx_nil ?_) | (with_reducible refine q_then ?_) | (with_reducible refine q_block ?_) | refine c_condF rfl ?_ | (exfalso; omega) | ((with_reducible refine g_guard ?_); first | refine lx_skip rfl rfl rfl ?_) | ((with_reducible refine g_move ?_); first | refine lx_move (r := (.t _)) rfl rfl rfl rfl rfl ?_ | refine lx_move (r := (.tup _)) rfl rfl rfl rfl rfl ?_) | ((with_reducible refine g_binOp ?_); first | refine lx_arith rfl rfl rfl rfl rfl rfl rfl ?_) | ((with_reducible refine g_assign ?_); first | refine lx_assign (r := (.t _)) rfl rfl rfl rfl rfl ?_) | ((with_reducible refine g_pick ?_); first | refine lx_pickT (r := (.t _)) rfl rfl rfl rfl rfl rfl ?_ | refine lx_pickF (r := (.t _)) rfl rfl rfl rfl rfl rfl ?_) | ((with_reducible refine g_alloc ?_); first | refine lx_alloc rfl rfl rfl rfl rfl rfl rfl ?_) | ((with_reducible refine g_store ?_); first | refine lx_store_var (r := (.t (.agg _))) rfl rfl rfl rfl rfl rfl rfl rfl rfl rfl ?_) | ((with_reducible refine g_index ?_); first | refine lx_index_str rfl rfl rfl rfl rfl rfl ?_ ?_ ?_) | ((with_reducible refine g_convert ?_); first | refine lx_conv_int rfl rfl rfl rfl rfl ?_) | ((with_reducible refine g_extract ?_); first | refine lx_extract rfl rfl rfl rfl rfl rfl ?_) | ((with_reducible refine g_len ?_); first | refine lx_len_str rfl rfl rfl rfl rfl ?_) | ((with_reducible refine g_call ?_); first | refine lx_callT rfl rfl hL rfl rfl (ArgsLE.refl _) rfl rfl rfl rfl rfl ?_ | refine lx_callT rfl rfl hI rfl rfl (ArgsLE.refl _) rfl rfl rfl rfl rfl ?_) | refine c_condP rfl (fun hc => ?_) (fun hc => ?_) | refine lx_splitP rfl (fun hc => ?_) (fun hc => ?_) | refine lx_splitN rfl (fun hc => ?_) (fun hc => ?_))
        all_goals try omega
        all_goals refine q_ret ?_ (stHas_spec trivial); refine resT_cell_tmp rfl rfl rfl inferInstance rfl inferInstance rfl ?_ ?_; exact TLe.av (by repeat first | exact TLe.refl _ | exact TLe.nil _ | exact TLe.esl _ | refine TLe.agg ?_ | refine TLs.cons ?_ ?_ | exact TLs.nil); exact AVLE.refl _
end Go.AL
/- What the document's Decode of the third serialisation answers. -/
set_option linter.unusedVariables false
namespace Go.AL
open Go Go.Proofs Go.RowKit

set_option maxHeartbeats 8000000 in
theorem qDec_spec {oF oA : Obj} {V : ByteArray → Bool} (hS : VSpec oF oA V) (s : ByteArray) (hs : s.size ≤ 1000000) : Spec Tryd.prog 46 [.t (.str s)] [(.par 100, .dat (.fix 0 oF)), (.par 101, .dat (.fix 1 oA))] (.tup [.t (gDec pkC V s).1.toT, .t (.int .i64 (gDec pkC V s).2)]) [(.par 100, .dat (.fix 0 oF)), (.par 101, .dat (.fix 1 oA))] := by
  rw [← qDec_eq]
  unfold qDec
  by_cases h0 : 65536 < s.size
  · rw [if_pos h0]
    have h0' : (65536 : Int) < (s.size : Int) := by omega
    simp only
    rw [zero_toT]
    refine spec_intro (env0 := [(0, _)]) (st0 := [(_, some _), (_, some _)]) Tryd.func46 rfl rfl rfl rfl ?_
    repeat' (first | (with_reducible refine codeT_seq ?_) | (with_reducible refine codeT_skip ?_) | (with_reducible refine codeT_ret ?_) | (with_reducible refine codeT_regionL ?_) | (with_reducible refine lx_nil ?_) | (with_reducible refine q_then ?_) | (with_reducible refine q_then_ret ?_) | ((with_reducible refine g_move ?_); first | refine lx_move (r := (.t _)) rfl rfl rfl rfl rfl ?_) | ((with_reducible refine g_binOp ?_); first | refine lx_arith rfl rfl rfl rfl rfl rfl rfl ?_) | ((with_reducible refine g_assign ?_); first | refine lx_assign (r := (.t _)) rfl rfl rfl rfl rfl ?_) | ((with_reducible refine g_alloc ?_); first | refine lx_alloc rfl rfl rfl rfl rfl rfl rfl ?_) | ((with_reducible refine g_store ?_); first | refine lx_store_var (r := (.t (.agg _))) rfl rfl rfl rfl rfl rfl rfl rfl rfl rfl ?_) | ((with_reducible refine g_build ?_); first | refine lx_build (r := (.t (.agg _))) rfl rfl rfl rfl rfl rfl rfl ?_) | ((with_reducible refine g_len ?_); first | refine lx_len_str rfl rfl rfl rfl rfl ?_) | ((with_reducible refine g_call ?_); first | exact absurd h0' ‹_›) | refine c_condP rfl (fun hc => ?_) (fun hc => ?_))
    refine q_ret ?_ (stHas_spec ⟨rfl, rfl, trivial⟩); refine resT_cell_tmp rfl rfl rfl inferInstance rfl inferInstance rfl ?_ ?_; exact TLe.av (by repeat first | exact TLe.refl _ | exact TLe.nil _ | exact TLe.esl _ | refine TLe.agg ?_ | refine TLs.cons ?_ ?_ | exact TLs.nil); exact AVLE.refl _
  · rw [if_neg h0]
    have hW := qVal_call s (by omega) (s.size + 1) 8 0 (by omega) (by omega) (by omega)
    have hgd := qVal_good s (s.size + 1) 8 0
    obtain ⟨ox, glo, gg⟩ := hgd
    try simp only at ox glo gg
    have hT := (qVal s (s.size + 1) 8 0).1.toT_full
    have hVa := rValid_spec hS _ ox
    have hWr := fun (h : (qVal s (s.size + 1) 8 0).2 ≠ -1) (hv : (qVal s (s.size + 1) 8 0).1.validB V 8 = true) => qWrite_spec (qVal s (s.size + 1) 8 0).1 8 hv (gg h).2.2.2 (by have := gg h; omega)
    generalize qVal s (s.size + 1) 8 0 = y at *
    obtain ⟨x, q⟩ := y
    simp only at hW hT hVa hWr glo ⊢
    rw [hT] at hW hVa
    have hq : ((s.size : Int) = q) = (q = (s.size : Int)) := propext ⟨Eq.symm, Eq.symm⟩
    by_cases hc1 : q = s.size
    · subst hc1
      have hWr := hWr (by omega)
      cases hv : x.validB V 8 with
      | false =>
        rw [hv] at hVa
        rw [if_neg (by simp)]
        simp only
        rw [zero_toT]
        refine spec_intro (env0 := [(0, _)]) (st0 := [(_, some _), (_, some _)]) Tryd.func46 rfl rfl rfl rfl ?_
        repeat' (first | (with_reducible refine codeT_seq ?_) | (with_reducible refine codeT_skip ?_) | (with_reducible refine codeT_ret ?_) | (with_reducible refine codeT_regionL ?_) | (with_reducible refine lx_nil ?_) | (with_reducible refine q_then ?_) | (with_reducible refine q_then_ret ?_) | refine c_condT rfl ?_ | ((with_reducible refine g_guard ?_); first | refine lx_skip rfl rfl rfl ?_) | ((with_reducible refine g_move ?_); first | refine lx_move (r := (.t _)) rfl rfl rfl rfl rfl ?_ | refine lx_move (r := (.tup _)) rfl rfl rfl rfl rfl ?_) | ((with_reducible refine g_load ?_); first | refine lx_load_varA (r := (.t (.agg _))) rfl rfl rfl rfl rfl rfl rfl rfl rfl ?_) | ((with_reducible refine g_binOp ?_); first | refine lx_arith rfl rfl rfl rfl rfl rfl rfl ?_) | ((with_reducible refine g_assign ?_); first | refine lx_assign (r := (.t _)) rfl rfl rfl rfl rfl ?_) | ((with_reducible refine g_pick ?_); first | refine lx_pickT (r := (.t _)) rfl rfl rfl rfl rfl rfl ?_ | refine lx_pickF (r := (.t _)) rfl rfl rfl rfl rfl rfl ?_) | ((with_reducible refine g_alloc ?_); first | refine lx_alloc rfl rfl rfl rfl rfl rfl rfl ?_) | ((with_reducible refine g_store ?_); first | refine lx_store_var (r := (.t (.agg _))) rfl rfl rfl rfl rfl rfl rfl rfl rfl rfl ?_) | ((with_reducible refine g_unOp ?_); first | refine lx_not rfl rfl rfl rfl rfl ?_) | ((with_reducible refine g_extract ?_); first | refine lx_extract rfl rfl rfl rfl rfl rfl ?_) | ((with_reducible refine g_build ?_); first | refine lx_build (r := (.t (.agg _))) rfl rfl rfl rfl rfl rfl rfl ?_) | ((with_reducible refine g_len ?_); first | refine lx_len_str rfl rfl rfl rfl rfl ?_) | ((with_reducible refine g_call ?_); first | refine lx_callT rfl rfl hW rfl rfl (ArgsLE.refl _) rfl rfl rfl rfl rfl ?_ | refine lx_call (r' := .t (.bool false)) [] rfl rfl hVa (ArgsLE.refl _) rfl ⟨rfl, rfl, trivial⟩ rfl rfl rfl rfl rfl rfl rfl rfl rfl rfl ?_) | refine c_condP rfl (fun hc => ?_) (fun hc => ?_) | refine lx_splitN rfl (fun hc => ?_) (fun hc => ?_))
        all_goals try (exact absurd hc hw)
        all_goals try (exfalso; omega)
        all_goals refine q_ret ?_ (stHas_spec ⟨rfl, rfl, trivial⟩); refine resT_cell_tmp rfl rfl rfl inferInstance rfl inferInstance rfl ?_ ?_; exact TLe.av (by repeat first | exact TLe.refl _ | exact TLe.nil _ | exact TLe.esl _ | refine TLe.agg ?_ | refine TLs.cons ?_ ?_ | exact TLs.nil); exact AVLE.refl _
      | true =>
        rw [hv] at hVa
        have hWr := hWr hv
        rw [hT] at hWr
        generalize ofL x.pb = w at hWr ⊢
        by_cases hw : w = s
        · rw [if_pos ⟨rfl, rfl, hw⟩]
          rw [hw] at hWr
          clear hw
          simp only
          rw [hT]
          refine spec_intro (env0 := [(0, _)]) (st0 := [(_, some _), (_, some _)]) Tryd.func46 rfl rfl rfl rfl ?_
          repeat' (first | (with_reducible refine codeT_seq ?_) | (with_reducible refine codeT_skip ?_) | (with_reducible refine codeT_ret ?_) | (with_reducible refine codeT_regionL ?_) | (with_reducible refine lx_nil ?_) | (with_reducible refine q_then ?_) | (with_reducible refine q_then_ret ?_) | refine c_condT rfl ?_ | ((with_reducible refine g_guard ?_); first | refine lx_skip rfl rfl rfl ?_) | ((with_reducible refine g_move ?_); first | refine lx_move (r := (.t _)) rfl rfl rfl rfl rfl ?_ | refine lx_move (r := (.tup _)) rfl rfl rfl rfl rfl ?_) | ((with_reducible refine g_load ?_); first | refine lx_load_varA (r := (.t (.agg _))) rfl rfl rfl rfl rfl rfl rfl rfl rfl ?_) | ((with_reducible refine g_binOp ?_); first | refine lx_arith rfl rfl rfl rfl rfl rfl rfl ?_ | refine lx_str_ne rfl rfl rfl rfl rfl rfl ?_) | ((with_reducible refine g_assign ?_); first | refine lx_assign (r := (.t _)) rfl rfl rfl rfl rfl ?_) | ((with_reducible refine g_pick ?_); first | refine lx_pickT (r := (.t _)) rfl rfl rfl rfl rfl rfl ?_ | refine lx_pickF (r := (.t _)) rfl rfl rfl rfl rfl rfl ?_) | ((with_reducible refine g_alloc ?_); first | refine lx_alloc rfl rfl rfl rfl rfl rfl rfl ?_) | ((with_reducible refine g_store ?_); first | refine lx_store_var (r := (.t (.agg _))) rfl rfl rfl rfl rfl rfl rfl rfl rfl rfl ?_) | ((with_reducible refine g_unOp ?_); first | refine lx_not rfl rfl rfl rfl rfl ?_) | ((with_reducible refine g_extract ?_); first | refine lx_extract rfl rfl rfl rfl rfl rfl ?_) | ((with_reducible refine g_build ?_); first | refine lx_build (r := (.t (.agg _))) rfl rfl rfl rfl rfl rfl rfl ?_) | ((with_reducible refine g_len ?_); first | refine lx_len_str rfl rfl rfl rfl rfl ?_) | ((with_reducible refine g_call ?_); first | refine lx_callT rfl rfl hW rfl rfl (ArgsLE.refl _) rfl rfl rfl rfl rfl ?_ | refine lx_call (r' := .t (.bool true)) [] rfl rfl hVa (ArgsLE.refl _) rfl ⟨rfl, rfl, trivial⟩ rfl rfl rfl rfl rfl rfl rfl rfl rfl rfl ?_ | refine lx_callT rfl rfl hWr rfl rfl (ArgsLE.refl _) rfl rfl rfl rfl rfl ?_) | refine c_condP rfl (fun hc => ?_) (fun hc => ?_) | refine c_condN rfl (fun hc => ?_) (fun hc => ?_) | refine lx_splitN rfl (fun hc => ?_) (fun hc => ?_))
          all_goals try (exact absurd h0 (by omega))
          · refine q_ret ?_ (stHas_spec ⟨rfl, rfl, trivial⟩); refine resT_cell_tmp rfl rfl rfl inferInstance rfl inferInstance rfl ?_ ?_; exact TLe.av (by repeat first | exact TLe.refl _ | exact TLe.nil _ | exact TLe.esl _ | refine TLe.agg ?_ | refine TLs.cons ?_ ?_ | exact TLs.nil); exact AVLE.refl _
          all_goals exact absurd rfl hc
        · rw [if_neg (fun h => hw h.2.2)]
          simp only
          rw [zero_toT]
          refine spec_intro (env0 := [(0, _)]) (st0 := [(_, some _), (_, some _)]) Tryd.func46 rfl rfl rfl rfl ?_
          repeat' (first | (with_reducible refine codeT_seq ?_) | (with_reducible refine codeT_skip ?_) | (with_reducible refine codeT_ret ?_) | (with_reducible refine codeT_regionL ?_) | (with_reducible refine lx_nil ?_) | (with_reducible refine q_then ?_) | (with_reducible refine q_then_ret ?_) | refine c_condT rfl ?_ | ((with_reducible refine g_guard ?_); first | refine lx_skip rfl rfl rfl ?_) | ((with_reducible refine g_move ?_); first | refine lx_move (r := (.t _)) rfl rfl rfl rfl rfl ?_ | refine lx_move (r := (.tup _)) rfl rfl rfl rfl rfl ?_) | ((with_reducible refine g_load ?_); first | refine lx_load_varA (r := (.t (.agg _))) rfl rfl rfl rfl rfl rfl rfl rfl rfl ?_) | ((with_reducible refine g_binOp ?_); first | refine lx_arith rfl rfl rfl rfl rfl rfl rfl ?_ | refine lx_str_ne rfl rfl rfl rfl rfl rfl ?_) | ((with_reducible refine g_assign ?_); first | refine lx_assign (r := (.t _)) rfl rfl rfl rfl rfl ?_) | ((with_reducible refine g_pick ?_); first | refine lx_pickT (r := (.t _)) rfl rfl rfl rfl rfl rfl ?_ | refine lx_pickF (r := (.t _)) rfl rfl rfl rfl rfl rfl ?_) | ((with_reducible refine g_alloc ?_); first | refine lx_alloc rfl rfl rfl rfl rfl rfl rfl ?_) | ((with_reducible refine g_store ?_); first | refine lx_store_var (r := (.t (.agg _))) rfl rfl rfl rfl rfl rfl rfl rfl rfl rfl ?_) | ((with_reducible refine g_unOp ?_); first | refine lx_not rfl rfl rfl rfl rfl ?_) | ((with_reducible refine g_extract ?_); first | refine lx_extract rfl rfl rfl rfl rfl rfl ?_) | ((with_reducible refine g_build ?_); first | refine lx_build (r := (.t (.agg _))) rfl rfl rfl rfl rfl rfl rfl ?_) | ((with_reducible refine g_len ?_); first | refine lx_len_str rfl rfl rfl rfl rfl ?_) | ((with_reducible refine g_call ?_); first | refine lx_callT rfl rfl hW rfl rfl (ArgsLE.refl _) rfl rfl rfl rfl rfl ?_ | refine lx_call (r' := .t (.bool true)) [] rfl rfl hVa (ArgsLE.refl _) rfl ⟨rfl, rfl, trivial⟩ rfl rfl rfl rfl rfl rfl rfl rfl rfl rfl ?_ | refine lx_callT rfl rfl hWr rfl rfl (ArgsLE.refl _) rfl rfl rfl rfl rfl ?_) | refine c_condP rfl (fun hc => ?_) (fun hc => ?_) | refine c_condN rfl (fun hc => ?_) (fun hc => ?_) | refine lx_splitN rfl (fun hc => ?_) (fun hc => ?_))
          all_goals try (exact absurd hc hw)
          all_goals try (exfalso; omega)
          all_goals refine q_ret ?_ (stHas_spec ⟨rfl, rfl, trivial⟩); refine resT_cell_tmp rfl rfl rfl inferInstance rfl inferInstance rfl ?_ ?_; exact TLe.av (by repeat first | exact TLe.refl _ | exact TLe.nil _ | exact TLe.esl _ | refine TLe.agg ?_ | refine TLs.cons ?_ ?_ | exact TLs.nil); exact AVLE.refl _
    · rw [if_neg (fun h => hc1 h.1)]
      simp only
      rw [zero_toT]
      refine spec_intro (env0 := [(0, _)]) (st0 := [(_, some _), (_, some _)]) Tryd.func46 rfl rfl rfl rfl ?_
      repeat' (first | (with_reducible refine codeT_seq ?_) | (with_reducible refine codeT_skip ?_) | (with_reducible refine codeT_ret ?_) | (with_reducible refine codeT_regionL ?_) | (with_reducible refine lx_nil ?_) | (with_reducible refine q_then ?_) | (with_reducible refine q_then_ret ?_) | refine c_condT rfl ?_ | ((with_reducible refine g_guard ?_); first | refine lx_skip rfl rfl rfl ?_) | ((with_reducible refine g_move ?_); first | refine lx_move (r := (.t _)) rfl rfl rfl rfl rfl ?_ | refine lx_move (r := (.tup _)) rfl rfl rfl rfl rfl ?_) | ((with_reducible refine g_load ?_); first | refine lx_load_varA (r := (.t (.agg _))) rfl rfl rfl rfl rfl rfl rfl rfl rfl ?_) | ((with_reducible refine g_binOp ?_); first | refine lx_arith rfl rfl rfl rfl rfl rfl rfl ?_) | ((with_reducible refine g_assign ?_); first | refine lx_assign (r := (.t _)) rfl rfl rfl rfl rfl ?_) | ((with_reducible refine g_pick ?_); first | refine lx_pickT (r := (.t _)) rfl rfl rfl rfl rfl rfl ?_) | ((with_reducible refine g_alloc ?_); first | refine lx_alloc rfl rfl rfl rfl rfl rfl rfl ?_) | ((with_reducible refine g_store ?_); first | refine lx_store_var (r := (.t (.agg _))) rfl rfl rfl rfl rfl rfl rfl rfl rfl rfl ?_) | ((with_reducible refine g_extract ?_); first | refine lx_extract rfl rfl rfl rfl rfl rfl ?_) | ((with_reducible refine g_build ?_); first | refine lx_build (r := (.t (.agg _))) rfl rfl rfl rfl rfl rfl rfl ?_) | ((with_reducible refine g_len ?_); first | refine lx_len_str rfl rfl rfl rfl rfl ?_) | ((with_reducible refine g_call ?_); first | refine lx_callT rfl rfl hW rfl rfl (ArgsLE.refl _) rfl rfl rfl rfl rfl ?_ | exact absurd ‹_› hc1) | refine c_condP rfl (fun hc => ?_) (fun hc => ?_) | refine lx_splitN rfl (fun hc => ?_) (fun hc => ?_))
      all_goals try (exact absurd hc hw)
      all_goals try (exfalso; omega)
      all_goals refine q_ret ?_ (stHas_spec ⟨rfl, rfl, trivial⟩); refine resT_cell_tmp rfl rfl rfl inferInstance rfl inferInstance rfl ?_ ?_; exact TLe.av (by repeat first | exact TLe.refl _ | exact TLe.nil _ | exact TLe.esl _ | refine TLe.agg ?_ | refine TLs.cons ?_ ?_ | exact TLs.nil); exact AVLE.refl _
end Go.AL
/- That the law PackReads is true, as a contract. -/
set_option linter.unusedVariables false
namespace Go.AL
open Go Go.Proofs Go.RowKit

theorem pDec_ok {V : ByteArray → Bool} (s : ByteArray) : (gDec pkC V s).1.Ok := by
  rcases pDec_two (V := V) s with e | ⟨x, e, _, _, h, _, _⟩
  · rw [e]; exact zero_ok
  · rw [e]; exact h
set_option maxHeartbeats 16000000 in
theorem PackReads_spec {oF oA : Obj} {V : ByteArray → Bool} (hS : VSpec oF oA V) (hV : VOk V) (l : List Int) (s : ByteArray) (at_ by_ : Int) : Spec Tryd.prog 12 [.t (.sl 1 (l.map (T.int .i64))), .t (.str s), .t (.int .i64 at_), .t (.int .i64 by_)] [(.par 100, .dat (.fix 0 oF)), (.par 101, .dat (.fix 1 oA))] (.t (.bool true)) [(.par 100, .dat (.fix 0 oF)), (.par 101, .dat (.fix 1 oA))] := by
  have hA := awake8_spec hS hV
  have hL := Light_spec l
  by_cases hl : (l.length : Int) ≤ 500
  · rw [decide_eq_true hl] at hL
    by_cases hs : 1000 < (s.size : Int)
    · refine spec_intro (env0 := [(0, _), (1, _), (2, _), (3, _)]) (st0 := [(_, some _), (_, some _)]) Tryd.func12 rfl rfl rfl rfl ?_
      repeat' (first | (with_reducible refine codeT_seq ?_) | (with_reducible refine codeT_skip ?_) | (with_reducible refine codeT_ret ?_) | (with_reducible refine codeT_regionL ?_) | (with_reducible refine lx_nil ?_) | (with_reducible refine q_then ?_) | (with_reducible refine q_then_ret ?_) | ((with_reducible refine g_move ?_); first | refine lx_move (r := (.t _)) rfl rfl rfl rfl rfl ?_) | ((with_reducible refine g_binOp ?_); first | refine lx_arith rfl rfl rfl rfl rfl rfl rfl ?_) | ((with_reducible refine g_assign ?_); first | refine lx_assign (r := (.t _)) rfl rfl rfl rfl rfl ?_) | ((with_reducible refine g_pick ?_); first | refine lx_pickF (r := (.t _)) rfl rfl rfl rfl rfl rfl ?_) | ((with_reducible refine g_unOp ?_); first | refine lx_not rfl rfl rfl rfl rfl ?_) | ((with_reducible refine g_len ?_); first | refine lx_len_str rfl rfl rfl rfl rfl ?_) | ((with_reducible refine g_call ?_); first | refine lx_callT rfl rfl hL rfl rfl (ArgsLE.refl _) rfl rfl rfl rfl rfl ?_ | refine lx_call (r' := .t (.bool true)) [] rfl rfl hA (ArgsLE.refl _) rfl ⟨rfl, rfl, trivial⟩ rfl rfl rfl rfl rfl rfl rfl rfl rfl rfl ?_ | exact absurd hs ‹_›) | refine c_condP rfl (fun hc => ?_) (fun hc => ?_))
      all_goals try (exact absurd hs hc)
      all_goals exact q_ret (resT_oneE rfl rfl rfl) (stHas_spec ⟨rfl, rfl, trivial⟩)
    · have hR := Roll_spec l
      have hd0 : (Dc.mk l 0).l = l := rfl
      have hX2 := kNode_spec 4 (by omega) (Dc.mk l 0) (by rw [hd0]; omega)
      have vX2 := kNode_ok hV 4 (Dc.mk l 0) 8 (by omega) (by omega)
      have cX2 := kNode_cb 4 (Dc.mk l 0)
      generalize kNode 4 (Dc.mk l 0) = q2 at hX2 vX2 cX2
      obtain ⟨x2, d2⟩ := q2
      simp only at hX2 vX2 cX2
      have o2 := Nd.ok_of_valid x2 8 vX2
      have h1 : x2.pb.length ≤ 3 * x2.cb.length := pb_le x2
      have z2 : x2.pb.length ≤ 65536 := Nat.le_trans h1 (Nat.le_trans (Nat.mul_le_mul_left 3 cX2.1) (by decide))
      have hC2 := qEnc_spec hS x2 o2 cX2.2 (fun _ => by omega)
      rw [gEnc_ok (C := pkC) vX2 z2] at hC2
      have hpk : pkC.E x2 = x2.pb := rfl
      rw [hpk] at hC2
      clear h1 hpk
      have hP := Spoil_spec (ofL x2.pb) at_ by_ (by rw [ofL_size]; omega)
      have zP := spoil_size (ofL x2.pb) at_ by_
      have zO : (ofL x2.pb).size ≤ 65536 := by rw [ofL_size]; omega
      have t2 := x2.toT_full
      generalize ofL x2.pb = good at *
      generalize spoil good at_ by_ = sp at *
      have hM := Mod_spec at_ ((good.size : Int) + 1) (by omega)
      have hm := modI_lt at_ ((good.size : Int) + 1) (by omega)
      rw [← wrap64 (n := (good.size : Int) + 1) (by omega) (by omega)] at hM
      rw [wrap64 (n := (good.size : Int) + 1) (by omega) (by omega)] at hM
      generalize modI at_ ((good.size : Int) + 1) = k at hM hm
      rw [← wrap64 (n := (good.size : Int) + 1) (by omega) (by omega)] at hM
      simp only at hC2
      rw [t2] at hX2 hC2
      clear vX2 cX2 o2 z2 t2
      refine spec_intro (env0 := [(0, _), (1, _), (2, _), (3, _)]) (st0 := [(_, some _), (_, some _)]) Tryd.func12 rfl rfl rfl rfl ?_
      repeat' (first | (with_reducible refine codeT_seq ?_) | (with_reducible refine codeT_block ?_) | (with_reducible refine codeT_skip ?_) | (with_reducible refine codeT_regionL ?_) | (with_reducible refine lx_nil ?_) | (with_reducible refine q_then ?_) | ((with_reducible refine g_move ?_); first | refine lx_move (r := (.t _)) rfl rfl rfl rfl rfl ?_ | refine lx_move (r := (.tup _)) rfl rfl rfl rfl rfl ?_) | ((with_reducible refine g_binOp ?_); first | refine lx_arith rfl rfl rfl rfl rfl rfl rfl ?_ | refine lx_concat rfl rfl rfl rfl rfl rfl ?_ ?_) | ((with_reducible refine g_assign ?_); first | refine lx_assign (r := (.t _)) rfl rfl rfl rfl rfl ?_) | ((with_reducible refine g_pick ?_); first | refine lx_pickF (r := (.t _)) rfl rfl rfl rfl rfl rfl ?_) | ((with_reducible refine g_unOp ?_); first | refine lx_not rfl rfl rfl rfl rfl ?_) | ((with_reducible refine g_extract ?_); first | refine lx_extract rfl rfl rfl rfl rfl rfl ?_) | ((with_reducible refine g_slice ?_); first | refine lx_slice_str rfl rfl rfl ⟨_, rfl⟩ rfl rfl rfl ?_ ?_ ?_ ?_) | ((with_reducible refine g_buildSlice ?_); first | refine lx_buildSlice rfl rfl rfl rfl rfl rfl rfl ?_) | ((with_reducible refine g_len ?_); first | refine lx_len_str rfl rfl rfl rfl rfl ?_ | refine lx_len_row rfl rfl rfl rfl rfl rfl ?_) | ((with_reducible refine g_call ?_); first | refine lx_callT rfl rfl hL rfl rfl (ArgsLE.refl _) rfl rfl rfl rfl rfl ?_ | refine lx_call (r' := .ref (.loc 900) 0 0 0) [(.res 0, .loc 900)] rfl rfl hR (ArgsLE.refl _) rfl trivial rfl rfl rfl rfl rfl rfl rfl rfl rfl rfl ?_ | refine lx_call (r' := .t (.agg [_, _, _, _, _, _])) [(.par 0, .loc 900)] rfl rfl hX2 (ArgsLE.refl _) rfl ⟨rfl, trivial⟩ rfl rfl rfl rfl rfl rfl rfl rfl rfl rfl ?_ | refine lx_call (r' := .tup [.t (.str good), .t (.int .i64 0)]) [] rfl rfl hC2 (ArgsLE.refl _) rfl ⟨rfl, rfl, trivial⟩ rfl rfl rfl rfl rfl rfl rfl rfl rfl rfl ?_ | refine lx_callT rfl rfl hP rfl rfl (ArgsLE.refl _) rfl rfl rfl rfl rfl ?_ | refine lx_callT rfl rfl hM rfl rfl (ArgsLE.refl _) rfl rfl rfl rfl rfl ?_) | refine c_condP rfl (fun hc => ?_) (fun hc => ?_))
      all_goals try (exact absurd hc hs)
      all_goals try omega
      refine codeT_ghost (ghost_keep2 [52, 53, 54] [.loc 52, .par 100, .par 101] rfl rfl) ?_
      refine codeT_ghost (ghost_freezeL (id := .loc 52) rfl rfl rfl) ?_
      obtain ⟨L, hLe⟩ : ∃ L, L = [s, good, sp, good.extract (Int.toNat 0) k.toNat, good ++ s, good ++ good] := ⟨_, rfl⟩
      have hLx : ∀ x ∈ L, x.size ≤ 200000 := by
        intro x hx
        rw [hLe] at hx
        simp only [List.mem_cons, List.not_mem_nil, or_false] at hx
        rcases hx with rfl | rfl | rfl | rfl | rfl | rfl
        · omega
        · omega
        · omega
        · simp only [ByteArray.size_extract]; omega
        · simp only [ByteArray.size_append]; omega
        · simp only [ByteArray.size_append]; omega
      refine codeT_ghost (ghost_le 52 (y := .sl 1 (L.map .str)) rfl (by rw [hLe]; exact .refl _) rfl) ?_
      have hL6 : L.length = 6 := by rw [hLe]; rfl
      clear hX2 hC2 hP hR hM hLe hd0
      refine codeT_ghost (ghost_keep2 [52, 53, 54] [.par 100, .par 101] rfl rfl) ?_
      refine codeT_loop (fun p env st => ∃ (j : Nat), j ≤ 6 ∧ p = 6 - j ∧
          env = EnvL.get [(52, .t (.sl 1 (L.map .str))), (53, .t (.int .i64 6)), (54, .t (.int .i64 (j : Int)))] ∧ st = StO.get [(.par 100, some (.dat (.fix 0 oF))), (.par 101, some (.dat (.fix 1 oA)))])
        ?_ (n := 6) ⟨0, by omega, rfl, rfl, rfl⟩
      rintro p env st ⟨j, hj, rfl, rfl, rfl⟩
      by_cases hlt : j < 6
      · have hm : L.getD (j : Int).toNat default ∈ L := by
          rw [List.getD_eq_getElem?_getD, List.getElem?_eq_getElem (by omega)]; exact List.getElem_mem _
        have hx := hLx _ hm
        have hD := pDec_spec hS (L.getD (j : Int).toNat default) (by omega)
        have hE := qDec_spec hS (L.getD (j : Int).toNat default) (by omega)
        have oD := pDec_ok (V := V) (L.getD (j : Int).toNat default)
        generalize gDec pkC V (L.getD (j : Int).toNat default) = y at hD hE oD
        obtain ⟨x, e⟩ := y
        have hZ := rSame_spec x oD x
        rw [Nd.same_refl] at hZ
        simp only at hD hE
        have tx := x.toT_full
        rw [tx] at hD hE hZ
        repeat' (first | (with_reducible refine codeT_seq ?_) | (with_reducible refine codeT_block ?_) | (with_reducible refine codeT_skip ?_) | (with_reducible refine codeT_ret ?_) | (with_reducible refine codeT_exit ?_) | (with_reducible refine codeT_regionL ?_) | (with_reducible refine lx_nil ?_) | (with_reducible refine q_then ?_) | (with_reducible refine q_then_exit ?_) | (with_reducible refine q_then_ret ?_) | (with_reducible refine q_block ?_) | (with_reducible refine q_block_ret ?_) | ((with_reducible refine q_block_same ?_ ?_); · rfl) | (with_reducible refine q_loop_exit ?_) | (with_reducible refine q_loop_ret ?_) | ((with_reducible refine g_move ?_); first | refine lx_move (r := (.t _)) rfl rfl rfl rfl rfl ?_ | refine lx_move (r := (.tup _)) rfl rfl rfl rfl rfl ?_) | ((with_reducible refine g_load ?_); first | refine lx_load_varA (r := (.t (.agg _))) rfl rfl rfl rfl rfl rfl rfl rfl rfl ?_ | refine lx_load_tp rfl rfl rfl rfl rfl rfl rfl ?_) | ((with_reducible refine g_binOp ?_); first | refine lx_arith rfl rfl rfl rfl rfl rfl rfl ?_) | ((with_reducible refine g_assign ?_); first | refine lx_assign (r := (.t _)) rfl rfl rfl rfl rfl ?_) | ((with_reducible refine g_pick ?_); first | refine lx_pickF (r := (.t _)) rfl rfl rfl rfl rfl rfl ?_) | ((with_reducible refine g_alloc ?_); first | refine lx_alloc rfl rfl rfl rfl rfl rfl rfl ?_) | ((with_reducible refine g_store ?_); first | refine lx_store_var (r := (.t (.agg _))) rfl rfl rfl rfl rfl rfl rfl rfl rfl rfl ?_) | ((with_reducible refine g_indexAddr ?_); first | refine lx_indexAddr_map rfl rfl rfl rfl rfl rfl ?_ ?_ ?_) | ((with_reducible refine g_unOp ?_); first | refine lx_not rfl rfl rfl rfl rfl ?_) | ((with_reducible refine g_extract ?_); first | refine lx_extract rfl rfl rfl rfl rfl rfl ?_) | ((with_reducible refine g_call ?_); first | refine lx_call (r' := .tup [.t (.agg [_, _, _, _, _, _]), .t (.int .i64 e)]) [] rfl rfl hD (ArgsLE.refl _) rfl ⟨rfl, rfl, trivial⟩ rfl rfl rfl rfl rfl rfl rfl rfl rfl rfl ?_ | refine lx_call (r' := .tup [.t (.agg [_, _, _, _, _, _]), .t (.int .i64 e)]) [] rfl rfl hE (ArgsLE.refl _) rfl ⟨rfl, rfl, trivial⟩ rfl rfl rfl rfl rfl rfl rfl rfl rfl rfl ?_ | refine lx_callT rfl rfl hZ rfl rfl (ArgsLE.refl _) rfl rfl rfl rfl rfl ?_) | refine c_condP rfl (fun hc => ?_) (fun hc => ?_) | refine c_condN rfl (fun hc => ?_) (fun hc => ?_))
        all_goals try omega
        exact q_loop (n' := 6 - (j + 1)) (by omega) (ghost_keep2 [52, 53, 54] [.par 100, .par 101] rfl rfl) ⟨j + 1, by omega, rfl, by rw [wrap64 (by omega) (by omega)]; rfl, rfl⟩
      · repeat' (first | (with_reducible refine codeT_seq ?_) | (with_reducible refine codeT_regionL ?_) | (with_reducible refine lx_nil ?_) | (with_reducible refine q_then ?_) | ((with_reducible refine g_binOp ?_); first | refine lx_arith rfl rfl rfl rfl rfl rfl rfl ?_))
        refine c_condP rfl (fun hc => absurd hc (by omega)) (fun hc => ?_)
        repeat' (first | (with_reducible refine codeT_seq ?_) | (with_reducible refine codeT_ret ?_) | (with_reducible refine codeT_exit ?_) | (with_reducible refine codeT_regionL ?_) | (with_reducible refine lx_nil ?_) | (with_reducible refine q_then ?_) | (with_reducible refine q_then_exit ?_) | ((with_reducible refine q_block_same ?_ ?_); · rfl) | (with_reducible refine q_loop_exit ?_) | ((with_reducible refine g_assign ?_); first | refine lx_assign (r := (.t _)) rfl rfl rfl rfl rfl ?_) | ((with_reducible refine g_call ?_); first | refine lx_call (r' := .t (.bool true)) [] rfl rfl hA (ArgsLE.refl _) rfl ⟨rfl, rfl, trivial⟩ rfl rfl rfl rfl rfl rfl rfl rfl rfl rfl ?_))
        exact q_ret (resT_oneE rfl rfl rfl) (stHas_spec ⟨rfl, rfl, trivial⟩)
  · rw [decide_eq_false hl] at hL
    refine spec_intro (env0 := [(0, _), (1, _), (2, _), (3, _)]) (st0 := [(_, some _), (_, some _)]) Tryd.func12 rfl rfl rfl rfl ?_
    repeat' (first | (with_reducible refine codeT_seq ?_) | (with_reducible refine codeT_ret ?_) | (with_reducible refine codeT_regionL ?_) | (with_reducible refine lx_nil ?_) | (with_reducible refine q_then ?_) | (with_reducible refine q_then_ret ?_) | refine c_condT rfl ?_ | ((with_reducible refine g_guard ?_); first | refine lx_skip rfl rfl rfl ?_) | ((with_reducible refine g_move ?_); first | refine lx_move (r := (.t _)) rfl rfl rfl rfl rfl ?_) | ((with_reducible refine g_assign ?_); first | refine lx_assign (r := (.t _)) rfl rfl rfl rfl rfl ?_) | ((with_reducible refine g_pick ?_); first | refine lx_pickT (r := (.t _)) rfl rfl rfl rfl rfl rfl ?_) | ((with_reducible refine g_unOp ?_); first | refine lx_not rfl rfl rfl rfl rfl ?_) | ((with_reducible refine g_call ?_); first | refine lx_callT rfl rfl hL rfl rfl (ArgsLE.refl _) rfl rfl rfl rfl rfl ?_ | refine lx_call (r' := .t (.bool true)) [] rfl rfl hA (ArgsLE.refl _) rfl ⟨rfl, rfl, trivial⟩ rfl rfl rfl rfl rfl rfl rfl rfl rfl rfl ?_))
    exact q_ret (resT_oneE rfl rfl rfl) (stHas_spec ⟨rfl, rfl, trivial⟩)
end Go.AL
