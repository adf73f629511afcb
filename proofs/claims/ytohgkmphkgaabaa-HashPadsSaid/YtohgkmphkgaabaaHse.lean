/- What the sums of pairs and lists answer, in the program and in the document. -/
import Derived.Test.YtohgkmphkgaabaaHsc
import Derived.Test.YtohgkmphkgaabaaHsd
set_option linter.unusedVariables false
namespace Go.AL
open Go Go.Proofs Go.RowKit

def fourS (n : Int) : ByteArray := strT [.int .u8 (IntKind.u8.wrap (n / 2 ^ 24)), .int .u8 (IntKind.u8.wrap (n / 2 ^ 16)), .int .u8 (IntKind.u8.wrap (n / 2 ^ 8)), .int .u8 (IntKind.u8.wrap n)]
theorem strT_size (es : List T) : (strT es).size = es.length := by
  unfold strT strOfNums
  rw [ByteArray.size, List.size_toArray, List.length_map, List.length_map]
def shortS (s : ByteArray) : ByteArray := (sha s).extract 0 16
def pairS (a b : ByteArray) : ByteArray := ⟨#[1]⟩ ++ fourS a.size ++ a ++ fourS b.size ++ b
def listPre (l : List ByteArray) (j : Nat) : ByteArray := (l.take j).foldl (fun s x => s ++ (fourS x.size ++ x)) (⟨#[2]⟩ ++ fourS l.length)
def listS (l : List ByteArray) : ByteArray := listPre l l.length
end Go.AL
/- That the laws HashPads, HashLong and HashLists are true, as contracts. -/
set_option linter.unusedVariables false
namespace Go.AL
open Go Go.Proofs Go.RowKit

theorem tmod_nat {m : Int} (h : 0 ≤ m) (k : Nat) (hk : 0 < k) : ∃ z : Nat, m.tmod k = (z : Int) ∧ z < k := ⟨(m % k).toNat, by rw [Int.tmod_eq_emod_of_nonneg h, Int.toNat_of_nonneg (Int.emod_nonneg _ (by omega))], by have := Int.emod_lt_of_pos m (show (0 : Int) < k by omega); have := Int.emod_nonneg m (show (k : Int) ≠ 0 by omega); omega⟩
theorem bAt_ofL (l : List UInt8) (i : Nat) : bAt (ofL l) (i : Int) = bL l i := by unfold bAt bL; rw [ofL_toList, Int.toNat_natCast]
theorem or8i {v b : Nat} (hv : v ≤ 3200) (hb : b < 256) : IntKind.i64.wrap ((BitVec.ofInt IntKind.i64.bits (IntKind.i64.wrap ((v : Int) * 2 ^ min (Int.toNat 8) IntKind.i64.bits)) ||| BitVec.ofInt IntKind.i64.bits (IntKind.i64.wrap (b : Int))).toNat : Int) = ((v * 256 + b : Nat) : Int) := by
  have e8 : min (Int.toNat 8) IntKind.i64.bits = 8 := by decide
  have e1 : IntKind.i64.wrap ((v : Int) * 2 ^ 8) = ((v * 256 : Nat) : Int) := by rw [wrap64 (by omega) (by omega)]; omega
  rw [e8, wrap64 (n := (b : Int)) (by omega) (by omega), e1]
  have e2 : (BitVec.ofInt IntKind.i64.bits ((v * 256 : Nat) : Int) ||| BitVec.ofInt IntKind.i64.bits (b : Int)).toNat = v * 256 + b := by
    rw [BitVec.toNat_or, BitVec.ofInt_natCast, BitVec.ofInt_natCast, BitVec.toNat_ofNat, BitVec.toNat_ofNat]
    have : IntKind.i64.bits = 64 := rfl
    rw [this, Nat.mod_eq_of_lt (by omega), Nat.mod_eq_of_lt (by omega)]
    have := Nat.shiftLeft_add_eq_or_of_lt (i := 8) (b := b) (by omega) v
    rw [Nat.shiftLeft_eq] at this
    rw [← this]
  rw [e2, wrap64 (by omega) (by omega)]
theorem bigL_get : ∀ (c N k : Nat), k < c → (bigL c N)[k]? = some (UInt8.ofNat (N / 256 ^ (c - 1 - k)))
  | 0, _, _, h => by omega
  | c + 1, N, 0, _ => by simp [bigL]
  | c + 1, N, k + 1, h => by
    rw [bigL, List.getElem?_cons_succ, bigL_get c N k (by omega), show c + 1 - 1 - (k + 1) = c - 1 - k by omega]
theorem pad_facts (X : ByteArray) : (ofL (padL X.data.toList)).size % 64 = 0 ∧ (X.size + 9 ≤ (ofL (padL X.data.toList)).size ∧ (ofL (padL X.data.toList)).size ≤ X.size + 72) ∧ (ofL (padL X.data.toList)).extract 0 X.size = X ∧ bAt (ofL (padL X.data.toList)) (X.size : Nat) = 128 ∧
    (∀ i : Nat, X.size + 1 ≤ i → i + 8 < (ofL (padL X.data.toList)).size → bAt (ofL (padL X.data.toList)) (i : Int) = 0) ∧
    (∀ k : Nat, k < 8 → bAt (ofL (padL X.data.toList)) (((ofL (padL X.data.toList)).size - 8 + k : Nat) : Int) = ((8 * X.size / 256 ^ (7 - k) % 256 : Nat) : Int)) := by
  have hl := padL_len X.data.toList
  rw [toList_len] at hl
  have hL : padL X.data.toList = X.data.toList ++ 128 :: (List.replicate ((119 - X.size % 64) % 64) 0 ++ bigL 8 (8 * X.size)) := by unfold padL restL; rw [toList_len]
  have hxl := toList_len X
  refine ⟨by rw [ofL_size]; exact hl.1, by rw [ofL_size]; exact hl.2, ?_, ?_, fun i h1 h2 => ?_, fun k hk => ?_⟩
  · rw [ofL_extract, List.drop_zero, Nat.sub_zero, hL, List.take_append_of_le_length (by omega), List.take_of_length_le (by omega), ofL_of]
  · rw [hL, ← hxl, bAt_mid]; rfl
  · rw [ofL_size] at h2
    rw [bAt_ofL]
    rw [hL] at h2 ⊢
    simp only [List.length_append, List.length_cons, List.length_replicate, bigL_len] at h2
    unfold bL
    rw [List.getD_eq_getElem?_getD, List.getElem?_append_right (by omega), show i - X.data.toList.length = (i - X.size - 1) + 1 by omega, List.getElem?_cons_succ, List.getElem?_append_left (by rw [List.length_replicate]; omega), List.getElem?_replicate, if_pos (by omega)]
    rfl
  · rw [bAt_ofL, ofL_size]
    have hlen : (padL X.data.toList).length = X.size + 1 + (119 - X.size % 64) % 64 + 8 := by
      rw [hL]; simp only [List.length_append, List.length_cons, List.length_replicate, bigL_len]; omega
    rw [hlen, hL]
    unfold bL
    rw [List.getD_eq_getElem?_getD, List.getElem?_append_right (by omega), show X.size + 1 + (119 - X.size % 64) % 64 + 8 - 8 + k - X.data.toList.length = ((119 - X.size % 64) % 64 + k) + 1 by omega, List.getElem?_cons_succ, List.getElem?_append_right (by rw [List.length_replicate]; omega), List.length_replicate, show (119 - X.size % 64) % 64 + k - (119 - X.size % 64) % 64 = k by omega, bigL_get _ _ _ hk]
    rw [Option.getD_some, UInt8.toNat_ofNat']
theorem pad_digits (N : Nat) (hN : N ≤ 3200) : ∃ (V B : Nat → Nat), V 0 = 0 ∧ V 8 = N ∧ (∀ k, V k ≤ 3200) ∧ (∀ k, k < 8 → V k * 256 + B k = V (k + 1)) ∧ (∀ k, B k < 256) ∧ ∀ k, N / 256 ^ (7 - k) % 256 = B k := by
  refine ⟨fun k => N / 256 ^ (8 - k), fun k => N / 256 ^ (7 - k) % 256, Nat.div_eq_of_lt (Nat.lt_of_le_of_lt hN (by decide)), by simp, fun k => Nat.le_trans (Nat.div_le_self _ _) hN, fun k hk => ?_, fun k => Nat.mod_lt _ (by decide), fun k => rfl⟩
  have e1 : 8 - k = (7 - k) + 1 := by omega
  have e2 : 8 - (k + 1) = 7 - k := by omega
  show N / 256 ^ (8 - k) * 256 + N / 256 ^ (7 - k) % 256 = N / 256 ^ (8 - (k + 1))
  rw [e1, e2, Nat.pow_succ, ← Nat.div_div_eq_div_mul]
  exact Nat.div_add_mod' _ _
set_option maxHeartbeats 8000000 in
theorem HashPads_spec (s : ByteArray) (m : Int) (m0 : 0 ≤ m) (m1 : m < 65536) : Spec Try.prog 5 [.t (.str s), .t (.int .u16 m)] [] (.t (.bool true)) [] := by
  have hA := awake2_spec
  obtain ⟨z, hz, hz1⟩ := tmod_nat m0 200 (by omega)
  rw [show ((200 : Nat) : Int) = 200 from rfl] at hz
  refine spec_intro (env0 := [(0, _), (1, _)]) (st0 := []) Try.func5 rfl rfl rfl rfl ?_
  repeat' (first | (with_reducible refine codeT_seq ?_) | (with_reducible refine codeT_regionL ?_) | ((with_reducible refine codeT_region_drawL ?_ ?_); · rfl) | (with_reducible refine lx_nil ?_) | (with_reducible refine q_then ?_) | ((with_reducible refine q_region_draw ?_ ?_); · rfl) | ((with_reducible refine g_move ?_); first | refine lx_move (r := (.t _)) rfl rfl rfl rfl rfl ?_) | ((with_reducible refine g_binOp ?_); first | refine lx_concat rfl rfl rfl rfl rfl rfl ?_ ?_ | refine lx_rem rfl rfl rfl rfl rfl rfl (by decide) ?_) | ((with_reducible refine g_assign ?_); first | refine lx_assign (r := (.t _)) rfl rfl rfl rfl rfl ?_) | ((with_reducible refine g_convert ?_); first | refine lx_ofBytes_row rfl rfl rfl rfl rfl rfl ?_ ?_) | ((with_reducible refine g_slice ?_); first | refine lx_slice_str rfl rfl rfl ⟨_, rfl⟩ rfl rfl rfl ?_ ?_ ?_ ?_) | ((with_reducible refine g_makeSlice ?_); first | refine lx_makeSlice (zT := .int _ _) rfl rfl rfl rfl rfl rfl rfl rfl rfl ?_ ?_ ?_ ?_ ?_) | ((with_reducible refine g_len ?_); first | refine lx_len_str rfl rfl rfl rfl rfl ?_) | ((with_reducible refine g_min ?_); first | refine lx_min rfl rfl rfl rfl rfl rfl ?_))
  · omega
  · split <;> omega
  · split <;> omega
  · omega
  · omega
  · omega
  · omega
  · exact isU8_rep _
  · rw [strT_size, List.length_replicate, hz, ByteArray.size_extract]; split <;> omega
  have hXs : (s.extract (Int.toNat 0) (if (200 : Int) < (s.size : Int) then (200 : Int) else (s.size : Int)).toNat ++ strT (List.replicate (m.tmod 200).toNat (T.int .u8 0))).size ≤ 400 := by
    rw [ByteArray.size_append, strT_size, List.length_replicate, hz, ByteArray.size_extract]; split <;> omega
  generalize s.extract (Int.toNat 0) (if (200 : Int) < (s.size : Int) then (200 : Int) else (s.size : Int)).toNat ++ strT (List.replicate (m.tmod 200).toNat (T.int .u8 0)) = X at hXs ⊢
  have hP := Pad_spec X (by omega)
  obtain ⟨f1, f2, f3, f4, f5, f6⟩ := pad_facts X
  rw [padR, if_neg (by omega)] at hP
  simp only at hP
  generalize ofL (padL X.data.toList) = P at hP f1 f2 f3 f4 f5 f6
  have c1 : (P.size : Int).tmod 64 = 0 := by rw [Int.tmod_eq_emod_of_nonneg (by omega)]; omega
  have wx9 : IntKind.i64.wrap ((X.size : Int) + 9) = (X.size : Int) + 9 := wrap64 (by omega) (by omega)
  have wx72 : IntKind.i64.wrap ((X.size : Int) + 72) = (X.size : Int) + 72 := wrap64 (by omega) (by omega)
  have wp8 : IntKind.i64.wrap ((P.size : Int) - 8) = (P.size : Int) - 8 := wrap64 (by omega) (by omega)
  have c2 : ¬ (P.size : Int) < IntKind.i64.wrap ((X.size : Int) + 9) := by omega
  have c3 : ¬ IntKind.i64.wrap ((X.size : Int) + 72) < (P.size : Int) := by omega
  have c4 : P.extract (Int.toNat 0) (X.size : Int).toNat = X := f3
  have c5 : bAt P (X.size : Int) = 128 := f4
  repeat' (first | refine lx_splitP rfl (fun hc => ?_) (fun hc => ?_) | (with_reducible refine codeT_seq ?_) | (with_reducible refine codeT_block ?_) | (with_reducible refine codeT_skip ?_) | (with_reducible refine codeT_ret ?_) | (with_reducible refine codeT_regionL ?_) | (with_reducible refine lx_nil ?_) | (with_reducible refine q_then ?_) | (with_reducible refine q_then_ret ?_) | refine c_condT rfl ?_ | ((with_reducible refine g_guard ?_); first | refine lx_skip rfl rfl rfl ?_) | ((with_reducible refine g_move ?_); first | refine lx_move (r := (.t _)) rfl rfl rfl rfl rfl ?_ | refine lx_move (r := (.tup _)) rfl rfl rfl rfl rfl ?_) | ((with_reducible refine g_binOp ?_); first | refine lx_arith rfl rfl rfl rfl rfl rfl rfl ?_ | refine lx_str_ne rfl rfl rfl rfl rfl rfl ?_ | refine lx_rem rfl rfl rfl rfl rfl rfl (by decide) ?_) | ((with_reducible refine g_assign ?_); first | refine lx_assign (r := (.t _)) rfl rfl rfl rfl rfl ?_) | ((with_reducible refine g_pick ?_); first | refine lx_pickT (r := (.t _)) rfl rfl rfl rfl rfl rfl ?_ | refine lx_pickF (r := (.t _)) rfl rfl rfl rfl rfl rfl ?_) | ((with_reducible refine g_index ?_); first | refine lx_index_str rfl rfl rfl rfl rfl rfl ?_ ?_ ?_) | ((with_reducible refine g_extract ?_); first | refine lx_extract rfl rfl rfl rfl rfl rfl ?_) | ((with_reducible refine g_slice ?_); first | refine lx_slice_str rfl rfl rfl ⟨_, rfl⟩ rfl rfl rfl ?_ ?_ ?_ ?_) | ((with_reducible refine g_len ?_); first | refine lx_len_str rfl rfl rfl rfl rfl ?_) | ((with_reducible refine g_call ?_); first | refine lx_callT rfl rfl hP rfl rfl (ArgsLE.refl _) rfl rfl rfl rfl rfl ?_) | refine c_condN rfl (fun hc => ?_) (fun hc => ?_) | refine lx_splitN rfl (fun hc => ?_) (fun hc => ?_))
  all_goals try (exact absurd c4 hc)
  all_goals try (exact absurd c5 hc)
  all_goals try omega
  all_goals try (exfalso; omega)
  rw [wp8]
  refine codeT_ghost (ghost_keep2 [5, 6, 8, 9] [] rfl rfl) ?_
  obtain ⟨V, B, v0, v8, vle, vst, blt, hB⟩ := pad_digits (8 * X.size) (by omega)
  refine codeT_loop (fun p env st => ∃ (k : Nat), k ≤ 8 ∧ p = 8 - k ∧
      env = EnvL.get [(5, .t (.str X)), (6, .t (.str P)), (8, .t (.int .i64 ((V k : Nat) : Int))), (9, .t (.int .i64 ((P.size - 8 + k : Nat) : Int)))] ∧ st = StO.get [])
    ?_ (n := 8) ⟨0, by omega, rfl, ?_, rfl⟩
  rotate_left
  · rw [show ((P.size : Int) - 8) = ((P.size - 8 + 0 : Nat) : Int) by omega, v0]; rfl
  rintro p env st ⟨k, hk, rfl, rfl, rfl⟩
  by_cases hlt : k < 8
  · have hb := f6 k hlt
    rw [hB] at hb
    have h1 := vle k
    have h2 := vst k hlt
    have h3 := blt k
    clear vle vst blt hB f6 f5 hP
    repeat' (first | refine c_condP rfl (fun hc => ?_) (fun hc => ?_) | (with_reducible refine codeT_seq ?_) | (with_reducible refine codeT_block ?_) | (with_reducible refine codeT_skip ?_) | (with_reducible refine codeT_exit ?_) | (with_reducible refine codeT_regionL ?_) | (with_reducible refine lx_nil ?_) | (with_reducible refine q_then ?_) | (with_reducible refine q_then_exit ?_) | (with_reducible refine q_block ?_) | ((with_reducible refine q_block_same ?_ ?_); · rfl) | (with_reducible refine q_loop_exit ?_) | ((with_reducible refine g_move ?_); first | refine lx_move (r := (.t _)) rfl rfl rfl rfl rfl ?_) | ((with_reducible refine g_binOp ?_); first | refine lx_arith rfl rfl rfl rfl rfl rfl rfl ?_ | refine lx_shl rfl rfl rfl rfl rfl rfl (by decide) ?_) | ((with_reducible refine g_assign ?_); first | refine lx_assign (r := (.t _)) rfl rfl rfl rfl rfl ?_) | ((with_reducible refine g_index ?_); first | refine lx_index_str rfl rfl rfl rfl rfl rfl ?_ ?_ ?_) | ((with_reducible refine g_convert ?_); first | refine lx_conv_int rfl rfl rfl rfl rfl ?_) | ((with_reducible refine g_len ?_); first | refine lx_len_str rfl rfl rfl rfl rfl ?_))
    all_goals try omega
    · rw [hb, or8i h1 h3, h2]
      exact q_loop (n' := 8 - (k + 1)) (by omega) (ghost_keep2 [5, 6, 8, 9] [] rfl rfl) ⟨k + 1, by omega, rfl, by rw [wrap64 (by omega) (by omega), show ((P.size - 8 + k : Nat) : Int) + 1 = ((P.size - 8 + (k + 1) : Nat) : Int) by omega]; rfl, rfl⟩
    all_goals (exfalso; omega)
  · obtain rfl : k = 8 := by omega
    rw [v8]
    clear vle vst blt hB f6 hP v0 v8
    repeat' (first | refine c_condP rfl (fun hc => ?_) (fun hc => ?_) | (with_reducible refine codeT_seq ?_) | (with_reducible refine codeT_block ?_) | (with_reducible refine codeT_skip ?_) | (with_reducible refine codeT_exit ?_) | (with_reducible refine codeT_regionL ?_) | (with_reducible refine lx_nil ?_) | (with_reducible refine q_then ?_) | (with_reducible refine q_then_exit ?_) | (with_reducible refine q_block ?_) | ((with_reducible refine q_block_same ?_ ?_); · rfl) | (with_reducible refine q_loop_exit ?_) | ((with_reducible refine g_move ?_); first | refine lx_move (r := (.t _)) rfl rfl rfl rfl rfl ?_) | ((with_reducible refine g_binOp ?_); first | refine lx_arith rfl rfl rfl rfl rfl rfl rfl ?_ | refine lx_shl rfl rfl rfl rfl rfl rfl (by decide) ?_) | ((with_reducible refine g_assign ?_); first | refine lx_assign (r := (.t _)) rfl rfl rfl rfl rfl ?_) | ((with_reducible refine g_index ?_); first | refine lx_index_str rfl rfl rfl rfl rfl rfl ?_ ?_ ?_) | ((with_reducible refine g_convert ?_); first | refine lx_conv_int rfl rfl rfl rfl rfl ?_) | ((with_reducible refine g_len ?_); first | refine lx_len_str rfl rfl rfl rfl rfl ?_))
    all_goals try omega
    all_goals try (exfalso; omega)
    have wx1 : IntKind.i64.wrap ((X.size : Int) + 1) = ((X.size + 1 : Nat) : Int) := by rw [wrap64 (by omega) (by omega)]; omega
    rw [wx1]
    refine codeT_ghost (ghost_keep2 [5, 6, 8, 10] [] rfl rfl) ?_
    refine codeT_loop (fun p env st => ∃ (k : Nat), X.size + 1 + k + 8 ≤ P.size ∧ p = P.size - k ∧
        env = EnvL.get [(5, .t (.str X)), (6, .t (.str P)), (8, .t (.int .i64 ((8 * X.size : Nat) : Int))), (10, .t (.int .i64 ((X.size + 1 + k : Nat) : Int)))] ∧ st = StO.get [])
      ?_ (n := P.size) ⟨0, by omega, rfl, rfl, rfl⟩
    rintro p env st ⟨k, hk, rfl, rfl, rfl⟩
    by_cases hlt : X.size + 1 + k + 8 < P.size
    · have hb := f5 (X.size + 1 + k) (by omega) hlt
      clear f5
      refine codeT_seq ?_
      refine codeT_seq ?_
      repeat' (first | (with_reducible refine codeT_regionL ?_) | (with_reducible refine lx_nil ?_) | ((with_reducible refine g_move ?_); first | refine lx_move (r := (.t _)) rfl rfl rfl rfl rfl ?_) | ((with_reducible refine g_binOp ?_); first | refine lx_arith rfl rfl rfl rfl rfl rfl rfl ?_) | ((with_reducible refine g_len ?_); first | refine lx_len_str rfl rfl rfl rfl rfl ?_))
      refine q_then ?_
      refine c_condP rfl (fun hc => ?_) (fun hc => absurd (by omega) hc)
      refine codeT_skip ?_
      refine q_then ?_
      refine codeT_seq ?_
      refine codeT_block ?_
      refine codeT_seq ?_
      repeat' (first | (with_reducible refine codeT_regionL ?_) | (with_reducible refine lx_nil ?_) | ((with_reducible refine g_move ?_); first | refine lx_move (r := (.t _)) rfl rfl rfl rfl rfl ?_) | ((with_reducible refine g_binOp ?_); first | refine lx_arith rfl rfl rfl rfl rfl rfl rfl ?_) | ((with_reducible refine g_index ?_); first | refine lx_index_str rfl rfl rfl rfl rfl rfl ?_ ?_ ?_))
      · omega
      · omega
      refine q_then ?_
      refine c_condN rfl (fun hc => ?_) (fun hc => absurd hb hc)
      repeat' (first | (with_reducible refine codeT_skip ?_) | (with_reducible refine codeT_regionL ?_) | (with_reducible refine lx_nil ?_) | (with_reducible refine q_then ?_) | (with_reducible refine q_block ?_) | ((with_reducible refine g_move ?_); first | refine lx_move (r := (.t _)) rfl rfl rfl rfl rfl ?_) | ((with_reducible refine g_binOp ?_); first | refine lx_arith rfl rfl rfl rfl rfl rfl rfl ?_) | ((with_reducible refine g_assign ?_); first | refine lx_assign (r := (.t _)) rfl rfl rfl rfl rfl ?_))
      exact q_loop (n' := P.size - (k + 1)) (by omega) (ghost_keep2 [5, 6, 8, 10] [] rfl rfl) ⟨k + 1, by omega, rfl, by rw [wrap64 (by omega) (by omega), show ((X.size + 1 + k : Nat) : Int) + 1 = ((X.size + 1 + (k + 1) : Nat) : Int) by omega]; rfl, rfl⟩
    · clear f5
      have w8 : IntKind.i64.wrap (8 * (X.size : Int)) = ((8 * X.size : Nat) : Int) := by rw [wrap64 (by omega) (by omega)]; omega
      refine codeT_seq ?_
      refine codeT_seq ?_
      repeat' (first | (with_reducible refine codeT_regionL ?_) | (with_reducible refine lx_nil ?_) | ((with_reducible refine g_move ?_); first | refine lx_move (r := (.t _)) rfl rfl rfl rfl rfl ?_) | ((with_reducible refine g_binOp ?_); first | refine lx_arith rfl rfl rfl rfl rfl rfl rfl ?_) | ((with_reducible refine g_len ?_); first | refine lx_len_str rfl rfl rfl rfl rfl ?_))
      refine q_then ?_
      refine c_condP rfl (fun hc => absurd hc (by omega)) (fun hc => ?_)
      repeat' (first | (with_reducible refine codeT_seq ?_) | (with_reducible refine codeT_exit ?_) | (with_reducible refine codeT_regionL ?_) | (with_reducible refine q_then ?_) | (with_reducible refine q_then_exit ?_) | ((with_reducible refine q_block_same ?_ ?_); · rfl) | (with_reducible refine q_loop_exit ?_) | ((with_reducible refine g_move ?_); first | refine lx_move (r := (.t _)) rfl rfl rfl rfl rfl ?_) | ((with_reducible refine g_binOp ?_); first | refine lx_arith rfl rfl rfl rfl rfl rfl rfl ?_) | ((with_reducible refine g_len ?_); first | refine lx_len_str rfl rfl rfl rfl rfl ?_))
      refine lx_splitP rfl (fun hx => ?_) (fun hx => absurd w8.symm hx)
      repeat' (first | (with_reducible refine codeT_ret ?_) | (with_reducible refine lx_nil ?_) | (with_reducible refine q_then ?_) | ((with_reducible refine g_assign ?_); first | refine lx_assign (r := (.t _)) rfl rfl rfl rfl rfl ?_) | ((with_reducible refine g_pick ?_); first | refine lx_pickT (r := (.t _)) rfl rfl rfl rfl rfl rfl ?_) | ((with_reducible refine g_call ?_); first | refine lx_callT rfl rfl hA rfl rfl (ArgsLE.refl _) rfl rfl rfl rfl rfl ?_))
      exact q_ret (resT_oneE rfl rfl rfl) (by simp)

def sumL (l : List ByteArray) : Nat := (l.map ByteArray.size).sum
end Go.AL
