/- What the sums of pairs and lists answer, in the program and in the document. -/
import Derived.Test.YtohgkmphkgaabaaHsc
import Derived.Test.YtohgkmphkgaabaaHsd
set_option linter.unusedVariables false
namespace Go.AL
open Go Go.Proofs Go.RowKit

def fourS (n : Int) : ByteArray := strT [.int .u8 (IntKind.u8.wrap (n / 2 ^ 24)), .int .u8 (IntKind.u8.wrap (n / 2 ^ 16)), .int .u8 (IntKind.u8.wrap (n / 2 ^ 8)), .int .u8 (IntKind.u8.wrap n)]
theorem strT_size (es : List T) : (strT es).size = es.length := by
  unfold strT strOfNums
  rw [ByteArray.size, List.size_toArray, List.length_map, List.length_map]
def shortS (s : ByteArray) : ByteArray := (sha s).extract 0 16
def pairS (a b : ByteArray) : ByteArray := ⟨#[1]⟩ ++ fourS a.size ++ a ++ fourS b.size ++ b
def listPre (l : List ByteArray) (j : Nat) : ByteArray := (l.take j).foldl (fun s x => s ++ (fourS x.size ++ x)) (⟨#[2]⟩ ++ fourS l.length)
def listS (l : List ByteArray) : ByteArray := listPre l l.length
end Go.AL
/- That the laws HashPads, HashLong and HashLists are true, as contracts. -/
set_option linter.unusedVariables false
namespace Go.AL
open Go Go.Proofs Go.RowKit

theorem tmod_nat {m : Int} (h : 0 ≤ m) (k : Nat) (hk : 0 < k) : ∃ z : Nat, m.tmod k = (z : Int) ∧ z < k := ⟨(m % k).toNat, by rw [Int.tmod_eq_emod_of_nonneg h, Int.toNat_of_nonneg (Int.emod_nonneg _ (by omega))], by have := Int.emod_lt_of_pos m (show (0 : Int) < k by omega); have := Int.emod_nonneg m (show (k : Int) ≠ 0 by omega); omega⟩
set_option maxHeartbeats 4000000 in
theorem HashLong_spec (n m : Int) (n0 : 0 ≤ n) (n1 : n < 65536) (m0 : 0 ≤ m) (m1 : m < 256) : Spec Try.prog 6 [.t (.int .u16 n), .t (.int .u8 m)] [] (.t (.bool true)) [] := by
  have hA := awake2_spec
  obtain ⟨z, hz, hz1⟩ := tmod_nat n0 3000 (by omega)
  obtain ⟨q, hq, hq1⟩ := tmod_nat m0 2 (by omega)
  rw [show ((3000 : Nat) : Int) = 3000 from rfl] at hz
  rw [show ((2 : Nat) : Int) = 2 from rfl] at hq
  have wz : IntKind.i64.wrap (z : Int) = (z : Int) := wrap64 (by omega) (by omega)
  have wq : IntKind.i64.wrap (1048576 + IntKind.i64.wrap (q : Int)) = ((1048576 + q : Nat) : Int) := by rw [wrap64 (n := (q : Int)) (by omega) (by omega), wrap64 (by omega) (by omega)]; omega
  have w1 : IntKind.i64.wrap (n.tmod 3000) = (z : Int) := by rw [hz, wz]
  have w2 : IntKind.i64.wrap (1048576 + IntKind.i64.wrap (m.tmod 2)) = ((1048576 + q : Nat) : Int) := by rw [hq, wq]
  have e1 : (IntKind.i64.wrap (n.tmod 3000)).toNat = z := by rw [hz, wz]; omega
  have e2 : (IntKind.i64.wrap (1048576 + IntKind.i64.wrap (m.tmod 2))).toNat = 1048576 + q := by rw [hq, wq]; omega
  have hSz : (strT (List.replicate (IntKind.i64.wrap (n.tmod 3000)).toNat (T.int .u8 0)) ++ ⟨#[101, 110, 100]⟩).size = z + 3 := by rw [e1, ByteArray.size_append, strT_size, List.length_replicate]; rfl
  have hS := Sum_spec (strT (List.replicate (IntKind.i64.wrap (n.tmod 3000)).toNat (T.int .u8 0)) ++ ⟨#[101, 110, 100]⟩) (by rw [hSz]; omega)
  have hT := qSum_spec (strT (List.replicate (IntKind.i64.wrap (n.tmod 3000)).toNat (T.int .u8 0)) ++ ⟨#[101, 110, 100]⟩) (by rw [hSz]; omega)
  have hLz : (strT (List.replicate (IntKind.i64.wrap (1048576 + IntKind.i64.wrap (m.tmod 2))).toNat (T.int .u8 0))).size = 1048576 + q := by rw [strT_size, List.length_replicate, e2]
  have hP := Pad_spec (strT (List.replicate (IntKind.i64.wrap (1048576 + IntKind.i64.wrap (m.tmod 2))).toNat (T.int .u8 0))) (by rw [hLz]; omega)
  have h1 : 1048576 < 1048576 + q → (padR (strT (List.replicate (IntKind.i64.wrap (1048576 + IntKind.i64.wrap (m.tmod 2))).toNat (T.int .u8 0)))).1.size = 0 ∧ (padR (strT (List.replicate (IntKind.i64.wrap (1048576 + IntKind.i64.wrap (m.tmod 2))).toNat (T.int .u8 0)))).2 = 3 := fun h => by
    unfold padR; rw [hLz, if_pos h]; exact ⟨rfl, rfl⟩
  have h0 : q = 0 → (padR (strT (List.replicate (IntKind.i64.wrap (1048576 + IntKind.i64.wrap (m.tmod 2))).toNat (T.int .u8 0)))).1.size = 1048640 ∧ (padR (strT (List.replicate (IntKind.i64.wrap (1048576 + IntKind.i64.wrap (m.tmod 2))).toNat (T.int .u8 0)))).2 = 0 := fun h => by
    unfold padR; rw [hLz, if_neg (by omega)]
    refine ⟨?_, rfl⟩
    show (ofL _).size = _
    rw [ofL_size]
    unfold padL
    rw [restL_len, toList_len, hLz, h]
  generalize padR (strT (List.replicate (IntKind.i64.wrap (1048576 + IntKind.i64.wrap (m.tmod 2))).toNat (T.int .u8 0))) = pr at hP h0 h1
  obtain ⟨P, e⟩ := pr
  simp only at hP h0 h1
  generalize sha (strT (List.replicate (IntKind.i64.wrap (n.tmod 3000)).toNat (T.int .u8 0)) ++ ⟨#[101, 110, 100]⟩) = Y at hS hT
  have eY : Y = Y := rfl
  by_cases hq0 : q = 0
  · obtain ⟨g1, g2⟩ := h0 hq0
    have g1' : (P.size : Int) = 1048640 := by omega
    refine spec_intro (env0 := [(0, _), (1, _)]) (st0 := []) Try.func6 rfl rfl rfl rfl ?_
    repeat' (first | refine c_condP rfl (fun hc => ?_) (fun hc => ?_) | refine lx_splitP rfl (fun hc => ?_) (fun hc => ?_) | (with_reducible refine codeT_seq ?_) | (with_reducible refine codeT_skip ?_) | (with_reducible refine codeT_ret ?_) | (with_reducible refine codeT_regionL ?_) | (with_reducible refine lx_nil ?_) | (with_reducible refine q_then ?_) | (with_reducible refine q_then_ret ?_) | ((with_reducible refine g_guard ?_); first | refine lx_skip rfl rfl rfl ?_) | ((with_reducible refine g_move ?_); first | refine lx_move (r := (.t _)) rfl rfl rfl rfl rfl ?_ | refine lx_move (r := (.tup _)) rfl rfl rfl rfl rfl ?_) | ((with_reducible refine g_binOp ?_); first | refine lx_arith rfl rfl rfl rfl rfl rfl rfl ?_ | refine lx_str_eq rfl rfl rfl rfl rfl rfl ?_ | refine lx_concat rfl rfl rfl rfl rfl rfl ?_ ?_ | refine lx_rem rfl rfl rfl rfl rfl rfl (by decide) ?_) | ((with_reducible refine g_assign ?_); first | refine lx_assign (r := (.t _)) rfl rfl rfl rfl rfl ?_) | ((with_reducible refine g_pick ?_); first | refine lx_pickT (r := (.t _)) rfl rfl rfl rfl rfl rfl ?_ | refine lx_pickF (r := (.t _)) rfl rfl rfl rfl rfl rfl ?_) | ((with_reducible refine g_convert ?_); first | refine lx_conv_int rfl rfl rfl rfl rfl ?_ | refine lx_ofBytes_row rfl rfl rfl rfl rfl rfl ?_ ?_) | ((with_reducible refine g_extract ?_); first | refine lx_extract rfl rfl rfl rfl rfl rfl ?_) | ((with_reducible refine g_makeSlice ?_); first | refine lx_makeSlice (zT := .int _ _) rfl rfl rfl rfl rfl rfl rfl rfl rfl ?_ ?_ ?_ ?_ ?_) | ((with_reducible refine g_len ?_); first | refine lx_len_str rfl rfl rfl rfl rfl ?_) | ((with_reducible refine g_call ?_); first | refine lx_callT rfl rfl hA rfl rfl (ArgsLE.refl _) rfl rfl rfl rfl rfl ?_ | refine lx_callT rfl rfl hP rfl rfl (ArgsLE.refl _) rfl rfl rfl rfl rfl ?_ | refine lx_callT rfl rfl hS rfl rfl (ArgsLE.refl _) rfl rfl rfl rfl rfl ?_ | refine lx_callT rfl rfl hT rfl rfl (ArgsLE.refl _) rfl rfl rfl rfl rfl ?_))
    all_goals try exact isU8_rep _
    all_goals try omega
    all_goals try (rw [strT_size, List.length_replicate, e1]; show z + 3 ≤ _; omega)
    all_goals try (exact absurd rfl hc)
    all_goals try (exfalso; omega)
    all_goals exact q_ret (resT_oneE rfl rfl rfl) (by simp)
  · obtain ⟨g1, g2⟩ := h1 (by omega)
    have g1' : (P.size : Int) = 0 := by omega
    refine spec_intro (env0 := [(0, _), (1, _)]) (st0 := []) Try.func6 rfl rfl rfl rfl ?_
    repeat' (first | refine c_condP rfl (fun hc => ?_) (fun hc => ?_) | refine lx_splitP rfl (fun hc => ?_) (fun hc => ?_) | (with_reducible refine codeT_seq ?_) | (with_reducible refine codeT_skip ?_) | (with_reducible refine codeT_ret ?_) | (with_reducible refine codeT_regionL ?_) | (with_reducible refine lx_nil ?_) | (with_reducible refine q_then ?_) | (with_reducible refine q_then_ret ?_) | ((with_reducible refine g_guard ?_); first | refine lx_skip rfl rfl rfl ?_) | ((with_reducible refine g_move ?_); first | refine lx_move (r := (.t _)) rfl rfl rfl rfl rfl ?_ | refine lx_move (r := (.tup _)) rfl rfl rfl rfl rfl ?_) | ((with_reducible refine g_binOp ?_); first | refine lx_arith rfl rfl rfl rfl rfl rfl rfl ?_ | refine lx_str_eq rfl rfl rfl rfl rfl rfl ?_ | refine lx_concat rfl rfl rfl rfl rfl rfl ?_ ?_ | refine lx_rem rfl rfl rfl rfl rfl rfl (by decide) ?_) | ((with_reducible refine g_assign ?_); first | refine lx_assign (r := (.t _)) rfl rfl rfl rfl rfl ?_) | ((with_reducible refine g_pick ?_); first | refine lx_pickT (r := (.t _)) rfl rfl rfl rfl rfl rfl ?_ | refine lx_pickF (r := (.t _)) rfl rfl rfl rfl rfl rfl ?_) | ((with_reducible refine g_convert ?_); first | refine lx_conv_int rfl rfl rfl rfl rfl ?_ | refine lx_ofBytes_row rfl rfl rfl rfl rfl rfl ?_ ?_) | ((with_reducible refine g_extract ?_); first | refine lx_extract rfl rfl rfl rfl rfl rfl ?_) | ((with_reducible refine g_makeSlice ?_); first | refine lx_makeSlice (zT := .int _ _) rfl rfl rfl rfl rfl rfl rfl rfl rfl ?_ ?_ ?_ ?_ ?_) | ((with_reducible refine g_len ?_); first | refine lx_len_str rfl rfl rfl rfl rfl ?_) | ((with_reducible refine g_call ?_); first | refine lx_callT rfl rfl hA rfl rfl (ArgsLE.refl _) rfl rfl rfl rfl rfl ?_ | refine lx_callT rfl rfl hP rfl rfl (ArgsLE.refl _) rfl rfl rfl rfl rfl ?_ | refine lx_callT rfl rfl hS rfl rfl (ArgsLE.refl _) rfl rfl rfl rfl rfl ?_ | refine lx_callT rfl rfl hT rfl rfl (ArgsLE.refl _) rfl rfl rfl rfl rfl ?_))
    all_goals try exact isU8_rep _
    all_goals try omega
    all_goals try (rw [strT_size, List.length_replicate, e1]; show z + 3 ≤ _; omega)
    all_goals try (exact absurd rfl hc)
    all_goals try (exfalso; omega)
    all_goals exact q_ret (resT_oneE rfl rfl rfl) (by simp)

def sumL (l : List ByteArray) : Nat := (l.map ByteArray.size).sum
end Go.AL
