/- What the sums of pairs and lists answer, in the program and in the document. -/
import Derived.Test.YtohgkmphkgaabaaHsc
import Derived.Test.YtohgkmphkgaabaaHsd
set_option linter.unusedVariables false
namespace Go.AL
open Go Go.Proofs Go.RowKit

def fourS (n : Int) : ByteArray := strT [.int .u8 (IntKind.u8.wrap (n / 2 ^ 24)), .int .u8 (IntKind.u8.wrap (n / 2 ^ 16)), .int .u8 (IntKind.u8.wrap (n / 2 ^ 8)), .int .u8 (IntKind.u8.wrap n)]
theorem strT_size (es : List T) : (strT es).size = es.length := by
  unfold strT strOfNums
  rw [ByteArray.size, List.size_toArray, List.length_map, List.length_map]
theorem fourS_size (n : Int) : (fourS n).size = 4 := strT_size _
theorem isU8_four (a b c d : Int) : IsU8 [T.int .u8 a, .int .u8 b, .int .u8 c, .int .u8 d] := by
  intro e he
  simp only [List.mem_cons, List.not_mem_nil, or_false] at he
  rcases he with rfl | rfl | rfl | rfl <;> rfl
set_option maxHeartbeats 1000000 in
theorem four_spec (n : Int) : Spec Try.prog 70 [.t (.int .i64 n)] [] (.t (.str (fourS n))) [] := by
  refine spec_intro (env0 := [(0, _)]) (st0 := []) Try.func70 rfl rfl rfl rfl ?_
  repeat' (first | (with_reducible refine codeT_seq ?_) | (with_reducible refine codeT_ret ?_) | (with_reducible refine codeT_regionL ?_) | (with_reducible refine lx_nil ?_) | (with_reducible refine q_then ?_) | ((with_reducible refine g_move ?_); first | refine lx_move (r := (.t _)) rfl rfl rfl rfl rfl ?_) | ((with_reducible refine g_binOp ?_); first | refine lx_shr rfl rfl rfl rfl rfl rfl (by decide) ?_) | ((with_reducible refine g_assign ?_); first | refine lx_assign (r := (.t _)) rfl rfl rfl rfl rfl ?_) | ((with_reducible refine g_convert ?_); first | refine lx_conv_int rfl rfl rfl rfl rfl ?_ | refine lx_ofBytes_row rfl rfl rfl rfl rfl rfl ?_ ?_) | ((with_reducible refine g_buildSlice ?_); first | refine lx_buildSlice rfl rfl rfl rfl rfl rfl rfl ?_))
  all_goals try exact isU8_four _ _ _ _
  exact q_ret (resT_oneE rfl rfl rfl) (by simp)
set_option maxHeartbeats 1000000 in
theorem qFour_spec (n : Int) : Spec Try.prog 71 [.t (.int .i64 n)] [] (.t (.str (fourS n))) [] := by
  refine spec_intro (env0 := [(0, _)]) (st0 := []) Try.func71 rfl rfl rfl rfl ?_
  repeat' (first | (with_reducible refine codeT_seq ?_) | (with_reducible refine codeT_ret ?_) | (with_reducible refine codeT_regionL ?_) | (with_reducible refine lx_nil ?_) | (with_reducible refine q_then ?_) | ((with_reducible refine g_move ?_); first | refine lx_move (r := (.t _)) rfl rfl rfl rfl rfl ?_) | ((with_reducible refine g_binOp ?_); first | refine lx_shr rfl rfl rfl rfl rfl rfl (by decide) ?_) | ((with_reducible refine g_assign ?_); first | refine lx_assign (r := (.t _)) rfl rfl rfl rfl rfl ?_) | ((with_reducible refine g_convert ?_); first | refine lx_conv_int rfl rfl rfl rfl rfl ?_ | refine lx_ofBytes_row rfl rfl rfl rfl rfl rfl ?_ ?_) | ((with_reducible refine g_buildSlice ?_); first | refine lx_buildSlice rfl rfl rfl rfl rfl rfl rfl ?_))
  all_goals try exact isU8_four _ _ _ _
  exact q_ret (resT_oneE rfl rfl rfl) (by simp)
def shortS (s : ByteArray) : ByteArray := (sha s).extract 0 16
set_option maxHeartbeats 1000000 in
theorem Short_spec (s : ByteArray) (hs : s.size ≤ 40000000) : Spec Try.prog 29 [.t (.str s)] [] (.t (.str (shortS s))) [] := by
  have hS := Sum_spec s hs
  have hz := sha_size s
  unfold shortS
  generalize sha s = Y at hS hz ⊢
  refine spec_intro (env0 := [(0, _)]) (st0 := []) Try.func29 rfl rfl rfl rfl ?_
  repeat' (first | (with_reducible refine codeT_seq ?_) | (with_reducible refine codeT_ret ?_) | (with_reducible refine codeT_regionL ?_) | (with_reducible refine lx_nil ?_) | (with_reducible refine q_then ?_) | ((with_reducible refine g_move ?_); first | refine lx_move (r := (.t _)) rfl rfl rfl rfl rfl ?_) | ((with_reducible refine g_assign ?_); first | refine lx_assign (r := (.t _)) rfl rfl rfl rfl rfl ?_) | ((with_reducible refine g_slice ?_); first | refine lx_slice_str rfl rfl rfl ⟨_, rfl⟩ rfl rfl rfl ?_ ?_ ?_ ?_) | ((with_reducible refine g_call ?_); first | refine lx_callT rfl rfl hS rfl rfl (ArgsLE.refl _) rfl rfl rfl rfl rfl ?_))
  all_goals try omega
  exact q_ret (resT_oneE rfl rfl rfl) (by simp)
set_option maxHeartbeats 1000000 in
theorem qShort_spec (s : ByteArray) (hs : s.size ≤ 40000000) : Spec Try.prog 30 [.t (.str s)] [] (.t (.str (shortS s))) [] := by
  have hS := qSum_spec s hs
  have hz := sha_size s
  unfold shortS
  generalize sha s = Y at hS hz ⊢
  refine spec_intro (env0 := [(0, _)]) (st0 := []) Try.func30 rfl rfl rfl rfl ?_
  repeat' (first | (with_reducible refine codeT_seq ?_) | (with_reducible refine codeT_ret ?_) | (with_reducible refine codeT_regionL ?_) | (with_reducible refine lx_nil ?_) | (with_reducible refine q_then ?_) | ((with_reducible refine g_move ?_); first | refine lx_move (r := (.t _)) rfl rfl rfl rfl rfl ?_) | ((with_reducible refine g_assign ?_); first | refine lx_assign (r := (.t _)) rfl rfl rfl rfl rfl ?_) | ((with_reducible refine g_slice ?_); first | refine lx_slice_str rfl rfl rfl ⟨_, rfl⟩ rfl rfl rfl ?_ ?_ ?_ ?_) | ((with_reducible refine g_call ?_); first | refine lx_callT rfl rfl hS rfl rfl (ArgsLE.refl _) rfl rfl rfl rfl rfl ?_))
  all_goals try omega
  exact q_ret (resT_oneE rfl rfl rfl) (by simp)
def pairS (a b : ByteArray) : ByteArray := ⟨#[1]⟩ ++ fourS a.size ++ a ++ fourS b.size ++ b
theorem pairS_size (a b : ByteArray) : (pairS a b).size = 9 + a.size + b.size := by
  unfold pairS
  simp only [ByteArray.size_append, fourS_size]
  show 1 + 4 + _ + 4 + _ = _; omega
set_option maxHeartbeats 2000000 in
theorem Pair_spec (a b : ByteArray) (ha : a.size ≤ 10000000) (hb : b.size ≤ 10000000) : Spec Try.prog 25 [.t (.str a), .t (.str b)] [] (.t (.str (sha (pairS a b)))) [] := by
  have h1 := four_spec (a.size : Int)
  have h2 := four_spec (b.size : Int)
  have z1 := fourS_size (a.size : Int)
  have z2 := fourS_size (b.size : Int)
  have hS := Sum_spec (pairS a b) (by rw [pairS_size]; omega)
  generalize sha (pairS a b) = Y at hS ⊢
  unfold pairS at hS
  generalize fourS (a.size : Int) = A at *
  generalize fourS (b.size : Int) = B at *
  have o1 : (⟨#[1]⟩ : ByteArray).size = 1 := rfl
  refine spec_intro (env0 := [(0, _), (1, _)]) (st0 := []) Try.func25 rfl rfl rfl rfl ?_
  repeat' (first | (with_reducible refine codeT_seq ?_) | (with_reducible refine codeT_ret ?_) | (with_reducible refine codeT_regionL ?_) | (with_reducible refine lx_nil ?_) | (with_reducible refine q_then ?_) | ((with_reducible refine g_move ?_); first | refine lx_move (r := (.t _)) rfl rfl rfl rfl rfl ?_) | ((with_reducible refine g_binOp ?_); first | refine lx_concat rfl rfl rfl rfl rfl rfl ?_ ?_) | ((with_reducible refine g_assign ?_); first | refine lx_assign (r := (.t _)) rfl rfl rfl rfl rfl ?_) | ((with_reducible refine g_len ?_); first | refine lx_len_str rfl rfl rfl rfl rfl ?_) | ((with_reducible refine g_call ?_); first | refine lx_callT rfl rfl h1 rfl rfl (ArgsLE.refl _) rfl rfl rfl rfl rfl ?_ | refine lx_callT rfl rfl h2 rfl rfl (ArgsLE.refl _) rfl rfl rfl rfl rfl ?_ | refine lx_callT rfl rfl hS rfl rfl (ArgsLE.refl _) rfl rfl rfl rfl rfl ?_))
  all_goals try (simp only [ByteArray.size_append, o1]; omega)
  exact q_ret (resT_oneE rfl rfl rfl) (by simp)
set_option maxHeartbeats 2000000 in
theorem qPair_spec (a b : ByteArray) (ha : a.size ≤ 10000000) (hb : b.size ≤ 10000000) : Spec Try.prog 26 [.t (.str a), .t (.str b)] [] (.t (.str (sha (pairS a b)))) [] := by
  have h1 := qFour_spec (a.size : Int)
  have h2 := qFour_spec (b.size : Int)
  have z1 := fourS_size (a.size : Int)
  have z2 := fourS_size (b.size : Int)
  have hS := qSum_spec (pairS a b) (by rw [pairS_size]; omega)
  generalize sha (pairS a b) = Y at hS ⊢
  unfold pairS at hS
  generalize fourS (a.size : Int) = A at *
  generalize fourS (b.size : Int) = B at *
  have o1 : (⟨#[1]⟩ : ByteArray).size = 1 := rfl
  refine spec_intro (env0 := [(0, _), (1, _)]) (st0 := []) Try.func26 rfl rfl rfl rfl ?_
  repeat' (first | (with_reducible refine codeT_seq ?_) | (with_reducible refine codeT_ret ?_) | (with_reducible refine codeT_regionL ?_) | (with_reducible refine lx_nil ?_) | (with_reducible refine q_then ?_) | ((with_reducible refine g_move ?_); first | refine lx_move (r := (.t _)) rfl rfl rfl rfl rfl ?_) | ((with_reducible refine g_binOp ?_); first | refine lx_concat rfl rfl rfl rfl rfl rfl ?_ ?_) | ((with_reducible refine g_assign ?_); first | refine lx_assign (r := (.t _)) rfl rfl rfl rfl rfl ?_) | ((with_reducible refine g_len ?_); first | refine lx_len_str rfl rfl rfl rfl rfl ?_) | ((with_reducible refine g_call ?_); first | refine lx_callT rfl rfl h1 rfl rfl (ArgsLE.refl _) rfl rfl rfl rfl rfl ?_ | refine lx_callT rfl rfl h2 rfl rfl (ArgsLE.refl _) rfl rfl rfl rfl rfl ?_ | refine lx_callT rfl rfl hS rfl rfl (ArgsLE.refl _) rfl rfl rfl rfl rfl ?_))
  all_goals try (simp only [ByteArray.size_append, o1]; omega)
  exact q_ret (resT_oneE rfl rfl rfl) (by simp)
def listPre (l : List ByteArray) (j : Nat) : ByteArray := (l.take j).foldl (fun s x => s ++ (fourS x.size ++ x)) (⟨#[2]⟩ ++ fourS l.length)
def listS (l : List ByteArray) : ByteArray := listPre l l.length
theorem listPre_succ (l : List ByteArray) (j : Nat) (h : j < l.length) : listPre l (j + 1) = listPre l j ++ (fourS (l.getD j default).size ++ l.getD j default) := by
  unfold listPre
  rw [List.take_add_one, List.getElem?_eq_getElem h, Option.toList_some, List.foldl_append]
  simp [List.getD_eq_getElem?_getD, h]
theorem listPre_size {B : Nat} (l : List ByteArray) (hB : ∀ x ∈ l, x.size ≤ B) : ∀ j, j ≤ l.length → (listPre l j).size ≤ 5 + j * (B + 4)
  | 0, _ => by
    unfold listPre
    rw [List.take_zero, List.foldl_nil, ByteArray.size_append, fourS_size]
    show 1 + 4 ≤ _; omega
  | j + 1, h => by
    have ih := listPre_size l hB j (by omega)
    have hm : l.getD j default ∈ l := by rw [List.getD_eq_getElem?_getD, List.getElem?_eq_getElem (by omega)]; exact List.getElem_mem _
    have := hB _ hm
    rw [listPre_succ l j (by omega), ByteArray.size_append, ByteArray.size_append, fourS_size, Nat.add_mul]
    omega
theorem listPre_pos (l : List ByteArray) : ∀ j, 1 ≤ (listPre l j).size
  | 0 => by
    unfold listPre
    rw [List.take_zero, List.foldl_nil, ByteArray.size_append]
    show 1 ≤ 1 + _; omega
  | j + 1 => by
    have ih := listPre_pos l j
    rcases Nat.lt_or_ge j l.length with h | h
    · rw [listPre_succ l j h, ByteArray.size_append]; omega
    · have e : listPre l (j + 1) = listPre l j := by
        unfold listPre; rw [List.take_of_length_le (by omega), List.take_of_length_le h]
      rw [e]; exact ih
theorem bytesT_append (a b : ByteArray) : bytesT (a ++ b) = bytesT a ++ bytesT b := by
  unfold bytesT
  rw [ByteArray.data_append, Array.toList_append, List.map_append]
set_option maxHeartbeats 4000000 in
theorem List_spec (l : List ByteArray) (B : Nat) (hB : ∀ x ∈ l, x.size ≤ B) (hl : l.length ≤ 100000) (hm : l.length * (B + 4) ≤ 20000000) : Spec Try.prog 27 [.t (.sl 1 (l.map .str))] [] (.t (.str (sha (listS l)))) [] := by
  have hsz := listPre_size l hB
  have hmul : ∀ j, j ≤ l.length → j * (B + 4) ≤ l.length * (B + 4) := fun j hj => Nat.mul_le_mul_right _ hj
  have hSum := Sum_spec (listS l) (by have := hsz l.length (Nat.le_refl _); unfold listS; omega)
  have h1 := four_spec (l.length : Int)
  have z1 := fourS_size (l.length : Int)
  have hp0 : listPre l 0 = ⟨#[2]⟩ ++ fourS (l.length : Int) := rfl
  generalize sha (listS l) = Y at hSum ⊢
  have o2 : (⟨#[2]⟩ : ByteArray).size = 1 := rfl
  have hw := wsN_spec (⟨#[2]⟩ ++ fourS (l.length : Int)) (by rw [ByteArray.size_append, o2]; omega)
  rw [← hp0] at hw
  unfold bldN bldR at hw
  refine spec_intro (env0 := [(0, _)]) (st0 := []) Try.func27 rfl rfl rfl rfl ?_
  repeat' (first | (with_reducible refine codeT_seq ?_) | (with_reducible refine codeT_block ?_) | (with_reducible refine codeT_regionL ?_) | (with_reducible refine lx_nil ?_) | (with_reducible refine q_then ?_) | ((with_reducible refine g_move ?_); first | refine lx_move (r := (.t _)) rfl rfl rfl rfl rfl ?_) | ((with_reducible refine g_binOp ?_); first | refine lx_concat rfl rfl rfl rfl rfl rfl ?_ ?_) | ((with_reducible refine g_assign ?_); first | refine lx_assign (r := (.t _)) rfl rfl rfl rfl rfl ?_) | ((with_reducible refine g_alloc ?_); first | refine lx_alloc rfl rfl rfl rfl rfl rfl rfl ?_) | ((with_reducible refine g_len ?_); first | refine lx_len_map rfl rfl rfl rfl rfl ?_) | ((with_reducible refine g_call ?_); first | refine lx_callT rfl rfl h1 rfl rfl (ArgsLE.refl _) rfl rfl rfl rfl rfl ?_ | refine lx_call (r' := .tup [_, _]) [(.par 0, .loc 3), (.res 0, .loc 901)] rfl rfl hw (ArgsLE.refl _) rfl ⟨rfl, trivial⟩ rfl rfl rfl rfl rfl rfl rfl rfl rfl rfl ?_))
  · rw [o2]; omega
  refine codeT_ghost (ghost_keep2 [3, 11, 12, 13] [.loc 3, .loc 901] rfl rfl) ?_
  refine codeT_loop (fun p env st => ∃ (j : Nat), j ≤ l.length ∧ p = l.length - j ∧
      env = EnvL.get [(3, .ref (.loc 3) 0 0 0), (11, .t (.sl 1 (l.map .str))), (12, .t (.int .i64 (l.length : Int))), (13, .t (.int .i64 (j : Int)))] ∧
      st = StO.get [(.loc 3, some (.var 102 [.ref (.loc 3) 0 0 0, .row (.loc 901)])), (.loc 901, some (.slt 5 1 (bytesT (listPre l j))))])
    ?_ (n := l.length) ⟨0, by omega, rfl, rfl, rfl⟩
  clear hw h1
  rintro p env st ⟨j, hj, rfl, rfl, rfl⟩
  have hsj := hsz j hj
  have hmj := hmul j hj
  by_cases hlt : j < l.length
  · have hm2 : l.getD (j : Int).toNat default ∈ l := by rw [List.getD_eq_getElem?_getD, List.getElem?_eq_getElem (by omega)]; exact List.getElem_mem _
    have hx := hB _ hm2
    have hsucc := listPre_succ l j hlt
    have hg : l.getD (j : Int).toNat default = l.getD j default := rfl
    have hmj1 := hmul (j + 1) (by omega)
    rw [Nat.add_mul] at hmj1
    rw [← hg] at hsucc
    have h2 := four_spec ((l.getD (j : Int).toNat default).size : Int)
    have z2 := fourS_size ((l.getD (j : Int).toNat default).size : Int)
    have hw := wsU_spec (bytesT (listPre l j)) (fourS ((l.getD (j : Int).toNat default).size : Int) ++ l.getD (j : Int).toNat default) (by rw [bytesT_len, ByteArray.size_append, z2]; omega)
    unfold bldU bldR at hw
    repeat' (first | (with_reducible refine codeT_seq ?_) | (with_reducible refine codeT_block ?_) | (with_reducible refine codeT_skip ?_) | (with_reducible refine codeT_exit ?_) | (with_reducible refine codeT_regionL ?_) | (with_reducible refine lx_nil ?_) | (with_reducible refine q_then ?_) | (with_reducible refine q_then_exit ?_) | (with_reducible refine q_block ?_) | ((with_reducible refine q_block_same ?_ ?_); · rfl) | (with_reducible refine q_loop_exit ?_) | ((with_reducible refine g_move ?_); first | refine lx_move (r := (.t _)) rfl rfl rfl rfl rfl ?_) | ((with_reducible refine g_load ?_); first | refine lx_load_tp rfl rfl rfl rfl rfl rfl rfl ?_) | ((with_reducible refine g_binOp ?_); first | refine lx_arith rfl rfl rfl rfl rfl rfl rfl ?_ | refine lx_concat rfl rfl rfl rfl rfl rfl ?_ ?_) | ((with_reducible refine g_assign ?_); first | refine lx_assign (r := (.t _)) rfl rfl rfl rfl rfl ?_) | ((with_reducible refine g_indexAddr ?_); first | refine lx_indexAddr_map rfl rfl rfl rfl rfl rfl ?_ ?_ ?_) | ((with_reducible refine g_len ?_); first | refine lx_len_str rfl rfl rfl rfl rfl ?_) | ((with_reducible refine g_call ?_); first | refine lx_callT rfl rfl h2 rfl rfl (ArgsLE.refl _) rfl rfl rfl rfl rfl ?_ | refine lx_call (r' := .tup [_, _]) [(.par 0, .loc 3), (.par 1, .loc 901), (.res 0, .loc 902)] rfl rfl hw (ArgsLE.refl _) rfl ⟨rfl, rfl, trivial⟩ rfl rfl rfl rfl rfl rfl rfl rfl rfl rfl ?_) | refine c_condP rfl (fun hc => ?_) (fun hc => ?_))
    all_goals try (exfalso; omega)
    all_goals try omega
    refine q_loop (n' := l.length - (j + 1)) (by omega) ((ghost_keep2 [3, 11, 12, 13] [.loc 3, .loc 902] rfl rfl).trans (ghost_renL2 (.loc 902) (.loc 901) rfl rfl rfl rfl)) ⟨j + 1, by omega, rfl, by rw [wrap64 (by omega) (by omega)]; rfl, ?_⟩
    rw [hsucc, bytesT_append (listPre l j)]; rfl
  · obtain rfl : j = l.length := by omega
    have hne : (listPre l l.length).data.toList ≠ [] := by
      intro h
      have h3 := toList_len (listPre l l.length)
      rw [h] at h3
      have := listPre_pos l l.length
      simp at h3; omega
    have hS := strU_spec (listPre l l.length).data.toList (by rw [toList_len]; omega) hne
    rw [ofL_of, ← bytesT_map] at hS
    unfold bldU at hS
    rw [show listS l = listPre l l.length from rfl] at hSum
    generalize listPre l l.length = X at hS hSum ⊢
    repeat' (first | (with_reducible refine codeT_seq ?_) | (with_reducible refine codeT_block ?_) | (with_reducible refine codeT_skip ?_) | (with_reducible refine codeT_ret ?_) | (with_reducible refine codeT_exit ?_) | (with_reducible refine codeT_regionL ?_) | (with_reducible refine lx_nil ?_) | (with_reducible refine q_then ?_) | (with_reducible refine q_then_exit ?_) | ((with_reducible refine q_block_same ?_ ?_); · rfl) | (with_reducible refine q_loop_exit ?_) | ((with_reducible refine g_move ?_); first | refine lx_move (r := (.t _)) rfl rfl rfl rfl rfl ?_) | ((with_reducible refine g_load ?_); first | refine lx_load_tp rfl rfl rfl rfl rfl rfl rfl ?_) | ((with_reducible refine g_binOp ?_); first | refine lx_arith rfl rfl rfl rfl rfl rfl rfl ?_) | ((with_reducible refine g_assign ?_); first | refine lx_assign (r := (.t _)) rfl rfl rfl rfl rfl ?_) | ((with_reducible refine g_indexAddr ?_); first | refine lx_indexAddr_map rfl rfl rfl rfl rfl rfl ?_ ?_ ?_) | ((with_reducible refine g_len ?_); first | refine lx_len_str rfl rfl rfl rfl rfl ?_) | ((with_reducible refine g_call ?_); first | refine lx_call (r' := .t (.str _)) [(.par 0, .loc 3), (.par 1, .loc 901)] rfl rfl hS (ArgsLE.refl _) rfl ⟨rfl, rfl, trivial⟩ rfl rfl rfl rfl rfl rfl rfl rfl rfl rfl ?_ | refine lx_callT rfl rfl hSum rfl rfl (ArgsLE.refl _) rfl rfl rfl rfl rfl ?_) | refine c_condP rfl (fun hc => ?_) (fun hc => ?_))
    all_goals try (exfalso; omega)
    exact q_ret (resT_oneE rfl rfl rfl) (by simp)
set_option maxHeartbeats 4000000 in
theorem qList_spec (l : List ByteArray) (B : Nat) (hB : ∀ x ∈ l, x.size ≤ B) (hl : l.length ≤ 100000) (hm : l.length * (B + 4) ≤ 20000000) : Spec Try.prog 28 [.t (.sl 1 (l.map .str))] [] (.t (.str (sha (listS l)))) [] := by
  have hsz := listPre_size l hB
  have hmul : ∀ j, j ≤ l.length → j * (B + 4) ≤ l.length * (B + 4) := fun j hj => Nat.mul_le_mul_right _ hj
  have hSum := qSum_spec (listS l) (by have := hsz l.length (Nat.le_refl _); unfold listS; omega)
  have h1 := qFour_spec (l.length : Int)
  have z1 := fourS_size (l.length : Int)
  have hp0 : listPre l 0 = ⟨#[2]⟩ ++ fourS (l.length : Int) := rfl
  generalize sha (listS l) = Y at hSum ⊢
  have o2 : (⟨#[2]⟩ : ByteArray).size = 1 := rfl
  refine spec_intro (env0 := [(0, _)]) (st0 := []) Try.func28 rfl rfl rfl rfl ?_
  repeat' (first | (with_reducible refine codeT_seq ?_) | (with_reducible refine codeT_block ?_) | (with_reducible refine codeT_regionL ?_) | (with_reducible refine lx_nil ?_) | (with_reducible refine q_then ?_) | ((with_reducible refine g_move ?_); first | refine lx_move (r := (.t _)) rfl rfl rfl rfl rfl ?_) | ((with_reducible refine g_binOp ?_); first | refine lx_concat rfl rfl rfl rfl rfl rfl ?_ ?_) | ((with_reducible refine g_assign ?_); first | refine lx_assign (r := (.t _)) rfl rfl rfl rfl rfl ?_) | ((with_reducible refine g_len ?_); first | refine lx_len_map rfl rfl rfl rfl rfl ?_) | ((with_reducible refine g_call ?_); first | refine lx_callT rfl rfl h1 rfl rfl (ArgsLE.refl _) rfl rfl rfl rfl rfl ?_))
  · rw [o2]; omega
  refine codeT_ghost (ghost_keep2 [3, 10, 11, 12] [] rfl rfl) ?_
  refine codeT_loop (fun p env st => ∃ (j : Nat), j ≤ l.length ∧ p = l.length - j ∧
      env = EnvL.get [(3, .t (.str (listPre l j))), (10, .t (.sl 1 (l.map .str))), (11, .t (.int .i64 (l.length : Int))), (12, .t (.int .i64 (j : Int)))] ∧ st = StO.get [])
    ?_ (n := l.length) ⟨0, by omega, rfl, rfl, rfl⟩
  clear h1
  rintro p env st ⟨j, hj, rfl, rfl, rfl⟩
  have hsj := hsz j hj
  have hmj := hmul j hj
  by_cases hlt : j < l.length
  · have hm2 : l.getD (j : Int).toNat default ∈ l := by rw [List.getD_eq_getElem?_getD, List.getElem?_eq_getElem (by omega)]; exact List.getElem_mem _
    have hx := hB _ hm2
    have hsucc := listPre_succ l j hlt
    have hg : l.getD (j : Int).toNat default = l.getD j default := rfl
    have hmj1 := hmul (j + 1) (by omega)
    rw [Nat.add_mul] at hmj1
    rw [← hg] at hsucc
    have h2 := qFour_spec ((l.getD (j : Int).toNat default).size : Int)
    have z2 := fourS_size ((l.getD (j : Int).toNat default).size : Int)
    repeat' (first | (with_reducible refine codeT_seq ?_) | (with_reducible refine codeT_block ?_) | (with_reducible refine codeT_skip ?_) | (with_reducible refine codeT_exit ?_) | (with_reducible refine codeT_regionL ?_) | (with_reducible refine lx_nil ?_) | (with_reducible refine q_then ?_) | (with_reducible refine q_then_exit ?_) | (with_reducible refine q_block ?_) | ((with_reducible refine q_block_same ?_ ?_); · rfl) | (with_reducible refine q_loop_exit ?_) | ((with_reducible refine g_move ?_); first | refine lx_move (r := (.t _)) rfl rfl rfl rfl rfl ?_) | ((with_reducible refine g_load ?_); first | refine lx_load_tp rfl rfl rfl rfl rfl rfl rfl ?_) | ((with_reducible refine g_binOp ?_); first | refine lx_arith rfl rfl rfl rfl rfl rfl rfl ?_ | refine lx_concat rfl rfl rfl rfl rfl rfl ?_ ?_) | ((with_reducible refine g_assign ?_); first | refine lx_assign (r := (.t _)) rfl rfl rfl rfl rfl ?_) | ((with_reducible refine g_indexAddr ?_); first | refine lx_indexAddr_map rfl rfl rfl rfl rfl rfl ?_ ?_ ?_) | ((with_reducible refine g_len ?_); first | refine lx_len_str rfl rfl rfl rfl rfl ?_) | ((with_reducible refine g_call ?_); first | refine lx_callT rfl rfl h2 rfl rfl (ArgsLE.refl _) rfl rfl rfl rfl rfl ?_) | refine c_condP rfl (fun hc => ?_) (fun hc => ?_))
    all_goals try (exfalso; omega)
    all_goals try omega
    · rw [ByteArray.size_append, z2]; omega
    refine q_loop (n' := l.length - (j + 1)) (by omega) (ghost_keep2 [3, 10, 11, 12] [] rfl rfl) ⟨j + 1, by omega, rfl, by rw [wrap64 (by omega) (by omega), hsucc]; rfl, rfl⟩
  · obtain rfl : j = l.length := by omega
    rw [show listS l = listPre l l.length from rfl] at hSum
    generalize listPre l l.length = X at hSum ⊢
    repeat' (first | (with_reducible refine codeT_seq ?_) | (with_reducible refine codeT_block ?_) | (with_reducible refine codeT_skip ?_) | (with_reducible refine codeT_ret ?_) | (with_reducible refine codeT_exit ?_) | (with_reducible refine codeT_regionL ?_) | (with_reducible refine lx_nil ?_) | (with_reducible refine q_then ?_) | (with_reducible refine q_then_exit ?_) | ((with_reducible refine q_block_same ?_ ?_); · rfl) | (with_reducible refine q_loop_exit ?_) | ((with_reducible refine g_move ?_); first | refine lx_move (r := (.t _)) rfl rfl rfl rfl rfl ?_) | ((with_reducible refine g_load ?_); first | refine lx_load_tp rfl rfl rfl rfl rfl rfl rfl ?_) | ((with_reducible refine g_binOp ?_); first | refine lx_arith rfl rfl rfl rfl rfl rfl rfl ?_) | ((with_reducible refine g_assign ?_); first | refine lx_assign (r := (.t _)) rfl rfl rfl rfl rfl ?_) | ((with_reducible refine g_indexAddr ?_); first | refine lx_indexAddr_map rfl rfl rfl rfl rfl rfl ?_ ?_ ?_) | ((with_reducible refine g_len ?_); first | refine lx_len_str rfl rfl rfl rfl rfl ?_) | ((with_reducible refine g_call ?_); first | refine lx_callT rfl rfl hSum rfl rfl (ArgsLE.refl _) rfl rfl rfl rfl rfl ?_) | refine c_condP rfl (fun hc => ?_) (fun hc => ?_))
    all_goals try (exfalso; omega)
    exact q_ret (resT_oneE rfl rfl rfl) (by simp)
end Go.AL
/- That the laws HashPads, HashLong and HashLists are true, as contracts. -/
set_option linter.unusedVariables false
namespace Go.AL
open Go Go.Proofs Go.RowKit

def sumL (l : List ByteArray) : Nat := (l.map ByteArray.size).sum
theorem sumL_take (l : List ByteArray) (j : Nat) (h : j < l.length) : sumL (l.take (j + 1)) = sumL (l.take j) + (l.getD j default).size := by
  unfold sumL
  rw [List.take_add_one, List.getElem?_eq_getElem h, Option.toList_some, List.map_append, List.sum_append]
  simp [List.getD_eq_getElem?_getD, h]
theorem sumL_le {B : Nat} : ∀ (l : List ByteArray), (∀ x ∈ l, x.size ≤ B) → sumL l ≤ l.length * B
  | [], _ => by simp [sumL]
  | x :: l, h => by
    have h1 := h x (by simp)
    have h2 := sumL_le l (fun y hy => h y (by simp [hy]))
    unfold sumL at h2 ⊢
    rw [List.map_cons, List.sum_cons, List.length_cons, Nat.add_mul]; omega
theorem sumL_mem : ∀ (l : List ByteArray), ∀ x ∈ l, x.size ≤ sumL l
  | y :: l, x, h => by
    unfold sumL
    rw [List.map_cons, List.sum_cons]
    rcases List.mem_cons.1 h with rfl | h
    · omega
    · have := sumL_mem l x h
      unfold sumL at this
      omega
set_option maxHeartbeats 8000000 in
theorem HashLists_spec (a b : ByteArray) (l : List ByteArray) (B : Nat) (hBB : B ≤ 200000000000000) (hB : ∀ x ∈ l, x.size ≤ B) : Spec Try.prog 7 [.t (.str a), .t (.str b), .t (.sl 1 (l.map .str))] [] (.t (.bool true)) [] := by
  have hA := awake2_spec
  by_cases hg : (a.size : Int) ≤ 300 ∧ (b.size : Int) ≤ 300 ∧ (l.length : Int) ≤ 30
  · obtain ⟨g1, g2, g3⟩ := hg
    refine spec_intro (env0 := [(0, _), (1, _), (2, _)]) (st0 := []) Try.func7 rfl rfl rfl rfl ?_
    repeat' (first | (with_reducible refine codeT_seq ?_) | (with_reducible refine codeT_block ?_) | (with_reducible refine codeT_skip ?_) | (with_reducible refine codeT_regionL ?_) | (with_reducible refine lx_nil ?_) | (with_reducible refine q_then ?_) | refine c_condT rfl ?_ | ((with_reducible refine g_guard ?_); first | refine lx_skip rfl rfl rfl ?_) | ((with_reducible refine g_move ?_); first | refine lx_move (r := (.t _)) rfl rfl rfl rfl rfl ?_) | ((with_reducible refine g_binOp ?_); first | refine lx_arith rfl rfl rfl rfl rfl rfl rfl ?_) | ((with_reducible refine g_assign ?_); first | refine lx_assign (r := (.t _)) rfl rfl rfl rfl rfl ?_) | ((with_reducible refine g_pick ?_); first | refine lx_pickT (r := (.t _)) rfl rfl rfl rfl rfl rfl ?_ | refine lx_pickF (r := (.t _)) rfl rfl rfl rfl rfl rfl ?_) | ((with_reducible refine g_len ?_); first | refine lx_len_map rfl rfl rfl rfl rfl ?_ | refine lx_len_str rfl rfl rfl rfl rfl ?_) | refine c_condP rfl (fun hc => ?_) (fun hc => ?_) | refine lx_splitP rfl (fun hc => ?_) (fun hc => ?_))
    all_goals try (exfalso; omega)
    refine codeT_ghost (ghost_keep2 [0, 1, 2, 7, 24, 25, 26] [] rfl rfl) ?_
    have hsle : ∀ j, j ≤ l.length → sumL (l.take j) ≤ 6000000000000000 := fun j hj => by
      have h1 := sumL_le (B := B) (l.take j) (fun x hx => hB x (List.mem_of_mem_take hx))
      have h2 : (l.take j).length * B ≤ 30 * 200000000000000 := Nat.mul_le_mul (by rw [List.length_take]; omega) hBB
      omega
    refine codeT_loop (fun p env st => ∃ (j : Nat), j ≤ l.length ∧ p = l.length - j ∧
        env = EnvL.get [(0, .t (.str a)), (1, .t (.str b)), (2, .t (.sl 1 (l.map .str))), (7, .t (.int .i64 (sumL (l.take j) : Int))), (24, .t (.sl 1 (l.map .str))), (25, .t (.int .i64 (l.length : Int))), (26, .t (.int .i64 (j : Int)))] ∧ st = StO.get [])
      ?_ (n := l.length) ⟨0, by omega, rfl, rfl, rfl⟩
    rintro p env st ⟨j, hj, rfl, rfl, rfl⟩
    have hs1 := hsle j hj
    by_cases hlt : j < l.length
    · have hs2 := hsle (j + 1) (by omega)
      rw [sumL_take l j hlt] at hs2
      have hsu := sumL_take l j hlt
      have hg : l.getD (j : Int).toNat default = l.getD j default := rfl
      rw [← hg] at hsu hs2
      repeat' (first | (with_reducible refine codeT_seq ?_) | (with_reducible refine codeT_block ?_) | (with_reducible refine codeT_skip ?_) | (with_reducible refine codeT_exit ?_) | (with_reducible refine codeT_regionL ?_) | (with_reducible refine lx_nil ?_) | (with_reducible refine q_then ?_) | (with_reducible refine q_then_exit ?_) | (with_reducible refine q_block ?_) | ((with_reducible refine q_block_same ?_ ?_); · rfl) | (with_reducible refine q_loop_exit ?_) | ((with_reducible refine g_move ?_); first | refine lx_move (r := (.t _)) rfl rfl rfl rfl rfl ?_) | ((with_reducible refine g_load ?_); first | refine lx_load_tp rfl rfl rfl rfl rfl rfl rfl ?_) | ((with_reducible refine g_binOp ?_); first | refine lx_arith rfl rfl rfl rfl rfl rfl rfl ?_) | ((with_reducible refine g_assign ?_); first | refine lx_assign (r := (.t _)) rfl rfl rfl rfl rfl ?_) | ((with_reducible refine g_indexAddr ?_); first | refine lx_indexAddr_map rfl rfl rfl rfl rfl rfl ?_ ?_ ?_) | ((with_reducible refine g_len ?_); first | refine lx_len_str rfl rfl rfl rfl rfl ?_) | refine c_condP rfl (fun hc => ?_) (fun hc => ?_))
      all_goals try (exfalso; omega)
      all_goals try omega
      exact q_loop (n' := l.length - (j + 1)) (by omega) (ghost_keep2 [0, 1, 2, 7, 24, 25, 26] [] rfl rfl) ⟨j + 1, by omega, rfl, by rw [wrap64 (n := (j : Int) + 1) (by omega) (by omega), wrap64 (by omega) (by omega), hsu]; rfl, rfl⟩
    · have hje : j = l.length := by omega
      have e1 : sumL (l.take j) = sumL l := by rw [hje, List.take_length]
      rw [e1] at hs1 ⊢
      by_cases h3000 : (3000 : Int) < (sumL l : Int)
      · repeat' (first | (with_reducible refine codeT_seq ?_) | (with_reducible refine codeT_block ?_) | (with_reducible refine codeT_skip ?_) | (with_reducible refine codeT_ret ?_) | (with_reducible refine codeT_exit ?_) | (with_reducible refine codeT_regionL ?_) | (with_reducible refine lx_nil ?_) | (with_reducible refine q_then ?_) | (with_reducible refine q_then_exit ?_) | (with_reducible refine q_then_ret ?_) | (with_reducible refine q_block ?_) | ((with_reducible refine q_block_same ?_ ?_); · rfl) | (with_reducible refine q_loop_exit ?_) | ((with_reducible refine g_move ?_); first | refine lx_move (r := (.t _)) rfl rfl rfl rfl rfl ?_) | ((with_reducible refine g_load ?_); first | refine lx_load_tp rfl rfl rfl rfl rfl rfl rfl ?_) | ((with_reducible refine g_binOp ?_); first | refine lx_arith rfl rfl rfl rfl rfl rfl rfl ?_) | ((with_reducible refine g_assign ?_); first | refine lx_assign (r := (.t _)) rfl rfl rfl rfl rfl ?_) | ((with_reducible refine g_indexAddr ?_); first | refine lx_indexAddr_map rfl rfl rfl rfl rfl rfl ?_ ?_ ?_) | ((with_reducible refine g_len ?_); first | refine lx_len_str rfl rfl rfl rfl rfl ?_) | ((with_reducible refine g_call ?_); first | refine lx_callT rfl rfl hA rfl rfl (ArgsLE.refl _) rfl rfl rfl rfl rfl ?_) | refine c_condP rfl (fun hc => ?_) (fun hc => ?_))
        all_goals try (exfalso; omega)
        exact q_ret (resT_oneE rfl rfl rfl) (by simp)
      · have hx : ∀ x ∈ l, x.size ≤ 3000 := fun x hx => by have := sumL_mem l x hx; omega
        have p1 := Pair_spec a b (by omega) (by omega)
        have p2 := qPair_spec a b (by omega) (by omega)
        have l1 := List_spec l 3000 hx (by omega) (by omega)
        have l2 := qList_spec l 3000 hx (by omega) (by omega)
        have s1 := Short_spec a (by omega)
        have s2 := qShort_spec a (by omega)
        generalize sha (pairS a b) = Y1 at p1 p2
        generalize sha (listS l) = Y2 at l1 l2
        generalize shortS a = Y3 at s1 s2
        repeat' (first | (with_reducible refine codeT_seq ?_) | (with_reducible refine codeT_block ?_) | (with_reducible refine codeT_skip ?_) | (with_reducible refine codeT_ret ?_) | (with_reducible refine codeT_exit ?_) | (with_reducible refine codeT_regionL ?_) | (with_reducible refine lx_nil ?_) | (with_reducible refine q_then ?_) | (with_reducible refine q_then_exit ?_) | (with_reducible refine q_then_ret ?_) | (with_reducible refine q_block ?_) | ((with_reducible refine q_block_same ?_ ?_); · rfl) | (with_reducible refine q_loop_exit ?_) | ((with_reducible refine g_guard ?_); first | refine lx_skip rfl rfl rfl ?_) | ((with_reducible refine g_move ?_); first | refine lx_move (r := (.t _)) rfl rfl rfl rfl rfl ?_) | ((with_reducible refine g_load ?_); first | refine lx_load_tp rfl rfl rfl rfl rfl rfl rfl ?_) | ((with_reducible refine g_binOp ?_); first | refine lx_arith rfl rfl rfl rfl rfl rfl rfl ?_ | refine lx_str_eq rfl rfl rfl rfl rfl rfl ?_) | ((with_reducible refine g_assign ?_); first | refine lx_assign (r := (.t _)) rfl rfl rfl rfl rfl ?_) | ((with_reducible refine g_pick ?_); first | refine lx_pickT (r := (.t _)) rfl rfl rfl rfl rfl rfl ?_ | refine lx_pickF (r := (.t _)) rfl rfl rfl rfl rfl rfl ?_) | ((with_reducible refine g_indexAddr ?_); first | refine lx_indexAddr_map rfl rfl rfl rfl rfl rfl ?_ ?_ ?_) | ((with_reducible refine g_len ?_); first | refine lx_len_str rfl rfl rfl rfl rfl ?_) | ((with_reducible refine g_call ?_); first | refine lx_callT rfl rfl hA rfl rfl (ArgsLE.refl _) rfl rfl rfl rfl rfl ?_ | refine lx_callT rfl rfl p1 rfl rfl (ArgsLE.refl _) rfl rfl rfl rfl rfl ?_ | refine lx_callT rfl rfl p2 rfl rfl (ArgsLE.refl _) rfl rfl rfl rfl rfl ?_ | refine lx_callT rfl rfl l1 rfl rfl (ArgsLE.refl _) rfl rfl rfl rfl rfl ?_ | refine lx_callT rfl rfl l2 rfl rfl (ArgsLE.refl _) rfl rfl rfl rfl rfl ?_ | refine lx_callT rfl rfl s1 rfl rfl (ArgsLE.refl _) rfl rfl rfl rfl rfl ?_ | refine lx_callT rfl rfl s2 rfl rfl (ArgsLE.refl _) rfl rfl rfl rfl rfl ?_) | refine c_condP rfl (fun hc => ?_) (fun hc => ?_) | refine lx_splitP rfl (fun hc => ?_) (fun hc => ?_))
        all_goals try (exfalso; omega)
        all_goals try (exact absurd rfl hc)
        exact q_ret (resT_oneE rfl rfl rfl) (by simp)
  · refine spec_intro (env0 := [(0, _), (1, _), (2, _)]) (st0 := []) Try.func7 rfl rfl rfl rfl ?_
    repeat' (first | (with_reducible refine codeT_seq ?_) | (with_reducible refine codeT_block ?_) | (with_reducible refine codeT_skip ?_) | (with_reducible refine codeT_ret ?_) | (with_reducible refine codeT_regionL ?_) | (with_reducible refine lx_nil ?_) | (with_reducible refine q_then ?_) | (with_reducible refine q_then_ret ?_) | refine c_condT rfl ?_ | ((with_reducible refine g_guard ?_); first | refine lx_skip rfl rfl rfl ?_) | ((with_reducible refine g_move ?_); first | refine lx_move (r := (.t _)) rfl rfl rfl rfl rfl ?_) | ((with_reducible refine g_binOp ?_); first | refine lx_arith rfl rfl rfl rfl rfl rfl rfl ?_) | ((with_reducible refine g_assign ?_); first | refine lx_assign (r := (.t _)) rfl rfl rfl rfl rfl ?_) | ((with_reducible refine g_pick ?_); first | refine lx_pickT (r := (.t _)) rfl rfl rfl rfl rfl rfl ?_ | refine lx_pickF (r := (.t _)) rfl rfl rfl rfl rfl rfl ?_) | ((with_reducible refine g_len ?_); first | refine lx_len_map rfl rfl rfl rfl rfl ?_ | refine lx_len_str rfl rfl rfl rfl rfl ?_) | ((with_reducible refine g_call ?_); first | refine lx_callT rfl rfl hA rfl rfl (ArgsLE.refl _) rfl rfl rfl rfl rfl ?_) | refine c_condP rfl (fun hc => ?_) (fun hc => ?_) | refine lx_splitP rfl (fun hc => ?_) (fun hc => ?_))
    all_goals try (exfalso; omega)
    all_goals exact q_ret (resT_oneE rfl rfl rfl) (by simp)
end Go.AL
