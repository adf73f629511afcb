/- One-time signatures: what their parts answer; no program in sight. -/
import Derived.Test.YtohgkmphkgaabaaPur
import Derived.Test.YtohgkmphkgaabaaHsf
set_option linter.unusedVariables false
namespace Go.AL
open Go Go.RowKit

/-- One string behind the other. -/
def catP (f : Nat → ByteArray) : Nat → ByteArray
  | 0 => ⟨#[]⟩
  | j + 1 => catP f j ++ f j
theorem catP_size {f : Nat → ByteArray} (hf : ∀ i, (f i).size = 16) : ∀ j, (catP f j).size = 16 * j
  | 0 => rfl
  | j + 1 => by rw [catP, ByteArray.size_append, catP_size hf j, hf j]; omega
theorem catP_congr {f g : Nat → ByteArray} : ∀ j, (∀ i, i < j → f i = g i) → catP f j = catP g j
  | 0, _ => rfl
  | j + 1, h => by rw [catP, catP, catP_congr j (fun i hi => h i (by omega)), h j (by omega)]
theorem catP_part {f : Nat → ByteArray} (hf : ∀ i, (f i).size = 16) : ∀ j c, c < j → (catP f j).extract (16 * c) (16 * (c + 1)) = f c
  | 0, c, h => by omega
  | j + 1, c, h => by
    have hz := catP_size hf j
    have hj := hf j
    have hc := hf c
    rw [catP]
    rcases Nat.lt_or_ge c j with h' | h'
    · have ih := catP_part hf j c h'
      rw [ByteArray.extract_append, ih, hz]
      have : (f j).extract (16 * c - 16 * j) (16 * (c + 1) - 16 * j) = ByteArray.empty := by
        apply ByteArray.size_eq_zero_iff.1
        rw [ByteArray.size_extract]; omega
      rw [this, ByteArray.append_empty]
    · obtain rfl : c = j := by omega
      rw [ByteArray.extract_append, hz]
      have e1 : (catP f c).extract (16 * c) (16 * (c + 1)) = ByteArray.empty := by
        apply ByteArray.size_eq_zero_iff.1
        rw [ByteArray.size_extract]; omega
      rw [e1, ByteArray.empty_append, show 16 * c - 16 * c = 0 by omega, show 16 * (c + 1) - 16 * c = (f c).size by omega, ByteArray.extract_zero_size]
/-- The digit of a sum. -/
def digN (Y : ByteArray) (j : Nat) : Nat := (bAt Y ((j / 4 : Nat) : Int)).toNat / 2 ^ (6 - 2 * (j % 4)) % 4
theorem digN_lt (Y : ByteArray) (j : Nat) : digN Y j < 4 := Nat.mod_lt _ (by decide)
/-- What is left of the digits. -/
def restN (Y : ByteArray) : Nat → Nat
  | 0 => 0
  | j + 1 => restN Y j + 3 - digN Y j
theorem restN_le (Y : ByteArray) : ∀ j, restN Y j ≤ 3 * j
  | 0 => Nat.le_refl _
  | j + 1 => by have := restN_le Y j; have := digN_lt Y j; rw [restN]; omega
def digA (Y : ByteArray) (j : Nat) : Nat := if j < 32 then digN Y j else restN Y 32 / 2 ^ (2 * (35 - j)) % 4
theorem digA_lt (Y : ByteArray) (j : Nat) : digA Y j < 4 := by
  unfold digA
  split
  · exact digN_lt _ _
  · exact Nat.mod_lt _ (by decide)
def digL (Y : ByteArray) (j : Nat) : List T := (List.range j).map (fun i => T.int .i64 (digA Y i : Int))
theorem digL_len (Y : ByteArray) (j : Nat) : (digL Y j).length = j := by simp [digL]
theorem digL_succ (Y : ByteArray) (j : Nat) : digL Y (j + 1) = digL Y j ++ [.int .i64 (digA Y j : Int)] := by simp [digL, List.range_succ]
end Go.AL
/- One-time signatures: chains, values, what they lead to; no program in sight. -/
set_option linter.unusedVariables false
namespace Go.AL
open Go Go.Proofs Go.RowKit

def chanS (c p : Int) : ByteArray := strT [.int .u8 (IntKind.u8.wrap c), .int .u8 (IntKind.u8.wrap p)]
theorem chanS_size (c p : Int) : (chanS c p).size = 2 := strT_size _
theorem isU8_two (a b : Int) : IsU8 [T.int .u8 a, .int .u8 b] := by
  intro e he
  simp only [List.mem_cons, List.not_mem_nil, or_false] at he
  rcases he with rfl | rfl <;> rfl
theorem isU8_one (a : Int) : IsU8 [T.int .u8 a] := by
  intro e he
  simp only [List.mem_cons, List.not_mem_nil, or_false] at he
  rcases he with rfl; rfl
def stepS (v : ByteArray) (c p : Int) : ByteArray := shortS (v ++ chanS c p)
theorem stepS_size (v : ByteArray) (c p : Int) : (stepS v c p).size = 16 := shortS_size _
def secS (v : ByteArray) (c : Int) : ByteArray := shortS (v ++ chanS 128 c)
theorem secS_size (v : ByteArray) (c : Int) : (secS v c).size = 16 := shortS_size _
theorem chan_sec (c : Int) : (⟨#[128]⟩ : ByteArray) ++ strT [.int .u8 (IntKind.u8.wrap c)] = chanS 128 c := rfl
/-- Some steps of a chain, from a place. -/
def stepsS (v : ByteArray) (c : Int) (p : Nat) : Nat → ByteArray
  | 0 => v
  | n + 1 => stepS (stepsS v c p n) c ((p + n : Nat) : Int)
theorem stepsS_size {v : ByteArray} (hv : v.size = 16) (c : Int) (p : Nat) : ∀ n, (stepsS v c p n).size = 16
  | 0 => hv
  | n + 1 => stepS_size _ _ _
theorem stepsS_le (v : ByteArray) (c : Int) (p : Nat) : ∀ n, (stepsS v c p n).size ≤ v.size + 16
  | 0 => by rw [stepsS]; omega
  | n + 1 => by rw [stepsS, stepS_size]; omega
theorem stepsS_add (v : ByteArray) (c : Int) (m : Nat) : ∀ n, stepsS (stepsS v c 0 m) c m n = stepsS v c 0 (m + n)
  | 0 => rfl
  | n + 1 => by
    rw [stepsS, stepsS_add v c m n, ← Nat.add_assoc, stepsS, Nat.zero_add]
/-- Where the chains of a seed end, given how many steps each goes. -/
def wlkF (v : ByteArray) (d : Nat → Nat) (c : Nat) : ByteArray := stepsS (secS v (c : Int)) (c : Int) 0 (d c)
theorem wlkF_size (v : ByteArray) (d : Nat → Nat) (c : Nat) : (wlkF v d c).size = 16 := stepsS_size (secS_size _ _) _ _ _
def wlkS (v : ByteArray) (d : Nat → Nat) (n : Nat) : ByteArray := catP (wlkF v d) n
theorem wlkS_size (v : ByteArray) (d : Nat → Nat) (n : Nat) : (wlkS v d n).size = 16 * n := catP_size (wlkF_size v d) n
def pubS (v : ByteArray) : ByteArray := shortS (wlkS v (fun _ => 3) 36)
def sigS (v m : ByteArray) : ByteArray := wlkS v (digA (sha m)) 36
theorem sigS_size (v m : ByteArray) : (sigS v m).size = 576 := by unfold sigS; rw [wlkS_size]
/-- To what the values of a signature lead. -/
def recF (d : Nat → Nat) (w : ByteArray) (c : Nat) : ByteArray := stepsS (w.extract (16 * c) (16 * (c + 1))) (c : Int) (d c) (3 - d c)
theorem recF_size {d : Nat → Nat} {w : ByteArray} {c : Nat} (h : 16 * (c + 1) ≤ w.size) : (recF d w c).size = 16 := stepsS_size (by rw [ByteArray.size_extract]; omega) _ _ _
def recS (d : Nat → Nat) (w : ByteArray) (n : Nat) : ByteArray := catP (recF d w) n
theorem recS_size {d : Nat → Nat} {w : ByteArray} : ∀ n, 16 * n ≤ w.size → (recS d w n).size = 16 * n
  | 0, _ => rfl
  | n + 1, h => by
    have := recS_size (d := d) (w := w) n (by omega)
    unfold recS at this ⊢
    rw [catP, ByteArray.size_append, recF_size h, this]; omega
def recV (m w : ByteArray) : ByteArray := shortS (recS (digA (sha m)) w 36)
/-- A signature leads to the public value. -/
theorem rec_sig (v m : ByteArray) : recV m (sigS v m) = pubS v := by
  unfold recV pubS recS wlkS
  refine congrArg shortS (catP_congr 36 (fun c hc => ?_))
  unfold recF sigS wlkS
  rw [catP_part (wlkF_size v _) 36 c hc]
  unfold wlkF
  rw [stepsS_add]
  have := digA_lt (sha m) c
  rw [show digA (sha m) c + (3 - digA (sha m) c) = 3 by omega]
end Go.AL
/- What the digits of one-time signatures are, in the program and in the document. -/
set_option linter.unusedVariables false
namespace Go.AL
open Go Go.Proofs Go.RowKit

theorem and3 : ∀ n : Fin 256, IntKind.i64.wrap ((BitVec.ofInt IntKind.i64.bits (n.val : Int) &&& BitVec.ofInt IntKind.i64.bits 3).toNat : Int) = ((n.val % 4 : Nat) : Int) := by decide +kernel
theorem and3N {n : Nat} (h : n < 256) : IntKind.i64.wrap ((BitVec.ofInt IntKind.i64.bits (n : Int) &&& BitVec.ofInt IntKind.i64.bits 3).toNat : Int) = ((n % 4 : Nat) : Int) := and3 ⟨n, h⟩
theorem ix4 : ∀ j : Fin 32, IntKind.i64.wrap ((j.val : Int).tdiv 4) = ((j.val / 4 : Nat) : Int) := by decide +kernel
theorem sh4 : ∀ j : Fin 32, IntKind.i64.wrap (6 - IntKind.i64.wrap (2 * (j.val : Int).tmod 4)) = ((6 - 2 * (j.val % 4) : Nat) : Int) := by decide +kernel
theorem mn4 (j : Nat) : min ((6 - 2 * (j % 4) : Nat) : Int).toNat IntKind.u8.bits = 6 - 2 * (j % 4) := by
  have : IntKind.u8.bits = 8 := rfl
  omega
theorem dig_val (Y : ByteArray) (j : Nat) (hj : j < 32) : IntKind.i64.wrap ((BitVec.ofInt IntKind.i64.bits (IntKind.i64.wrap (bAt Y ((j / 4 : Nat) : Int) / 2 ^ (6 - 2 * (j % 4)))) &&& BitVec.ofInt IntKind.i64.bits 3).toNat : Int) = (digA Y j : Int) := by
  unfold digA
  rw [if_pos hj]
  unfold digN
  have hb := bAt_range Y ((j / 4 : Nat) : Int)
  generalize bAt Y ((j / 4 : Nat) : Int) = b at hb ⊢
  obtain ⟨n, rfl⟩ : ∃ n : Nat, b = n := ⟨b.toNat, by omega⟩
  have hn : n < 256 := by omega
  have hq : n / 2 ^ (6 - 2 * (j % 4)) ≤ n := Nat.div_le_self _ _
  have e : (n : Int) / 2 ^ (6 - 2 * (j % 4)) = ((n / 2 ^ (6 - 2 * (j % 4)) : Nat) : Int) := by simp
  rw [e]
  have hm : (n : Int).toNat / 2 ^ (6 - 2 * (j % 4)) = n / 2 ^ (6 - 2 * (j % 4)) := by rw [Int.toNat_natCast]
  generalize n / 2 ^ (6 - 2 * (j % 4)) = m at hq hm ⊢
  rw [wrap64 (n := (m : Int)) (by omega) (by omega), and3N (by omega)]
  exact congrArg (fun k : Nat => ((k % 4 : Nat) : Int)) hm.symm
theorem rest_val (Y : ByteArray) (k : Nat) (hk : k < 4) : IntKind.i64.wrap ((BitVec.ofInt IntKind.i64.bits ((restN Y 32 : Int) / 2 ^ (2 * (3 - k))) &&& BitVec.ofInt IntKind.i64.bits 3).toNat : Int) = (digA Y (32 + k) : Int) := by
  unfold digA
  rw [if_neg (by omega), show 35 - (32 + k) = 3 - k by omega]
  have hr := restN_le Y 32
  generalize restN Y 32 = n at hr ⊢
  have hq : n / 2 ^ (2 * (3 - k)) ≤ n := Nat.div_le_self _ _
  have e : (n : Int) / 2 ^ (2 * (3 - k)) = ((n / 2 ^ (2 * (3 - k)) : Nat) : Int) := by simp
  rw [e]
  generalize n / 2 ^ (2 * (3 - k)) = m at hq ⊢
  rw [and3N (by omega)]
theorem sh3 : ∀ k : Fin 4, 0 ≤ IntKind.i64.wrap (2 * (3 - (k.val : Int))) ∧ min (IntKind.i64.wrap (2 * (3 - (k.val : Int)))).toNat IntKind.i64.bits = 2 * (3 - k.val) := by decide +kernel
set_option maxHeartbeats 4000000 in
theorem Digits_spec (s : ByteArray) (hs : s.size ≤ 40000000) : Spec Try.prog 32 [.t (.str s)] [] (.t (.sl 1 (digL (sha s) 36))) [] := by
  have hS := Sum_spec s hs
  have hz := sha_size s
  generalize sha s = Y at hS hz ⊢
  refine spec_introG (env0 := [(0, _)]) (st0 := []) Try.func32 rfl rfl rfl rfl ?_
  repeat' (first | (with_reducible refine codeT_seq ?_) | (with_reducible refine codeT_block ?_) | (with_reducible refine codeT_regionL ?_) | (with_reducible refine lx_nil ?_) | (with_reducible refine q_then ?_) | ((with_reducible refine g_move ?_); first | refine lx_move (r := (.t _)) rfl rfl rfl rfl rfl ?_) | ((with_reducible refine g_assign ?_); first | refine lx_assign (r := (.t _)) rfl rfl rfl rfl rfl ?_ | refine lx_assign (r := (.row _)) rfl rfl rfl rfl rfl ?_) | ((with_reducible refine g_makeSlice ?_); first | refine lx_makeSlice (zT := .int _ _) rfl rfl rfl rfl rfl rfl rfl rfl rfl ?_ ?_ ?_ ?_ ?_) | ((with_reducible refine g_call ?_); first | refine lx_callT rfl rfl hS rfl rfl (ArgsLE.refl _) rfl rfl rfl rfl rfl ?_))
  all_goals try decide
  refine codeT_ghost (ghost_keep2 [3, 4, 5, 12] [.loc 11] rfl rfl) ?_
  refine codeT_loop (fun p env st => ∃ (j : Nat), j ≤ 32 ∧ p = 32 - j ∧
      env = EnvL.get [(3, .t (.str Y)), (4, .row (.loc 11)), (5, .t (.int .i64 (restN Y j : Int))), (12, .t (.int .i64 (j : Int)))] ∧ st = StO.get [(.loc 11, some (.slt 3 1 (digL Y j)))])
    ?_ (n := 32) ⟨0, by omega, rfl, rfl, rfl⟩
  rintro p env st ⟨j, hj, rfl, rfl, rfl⟩
  by_cases hlt : j < 32
  · have h1 := ix4 ⟨j, hlt⟩
    have h2 := sh4 ⟨j, hlt⟩
    have h3 := mn4 j
    have h4 := dig_val Y j hlt
    have h5 := digA_lt Y j
    have h6 := restN_le Y j
    simp only at h1 h2
    repeat' (first | (with_reducible refine codeT_seq ?_) | (with_reducible refine codeT_block ?_) | (with_reducible refine codeT_skip ?_) | (with_reducible refine codeT_exit ?_) | (with_reducible refine codeT_regionL ?_) | (with_reducible refine lx_nil ?_) | (with_reducible refine q_then ?_) | (with_reducible refine q_then_exit ?_) | (with_reducible refine q_block ?_) | ((with_reducible refine q_block_same ?_ ?_); · rfl) | (with_reducible refine q_loop_exit ?_) | (exfalso; omega) | ((with_reducible refine g_move ?_); first | refine lx_move (r := (.t _)) rfl rfl rfl rfl rfl ?_ | refine lx_move (r := (.row _)) rfl rfl rfl rfl rfl ?_) | ((with_reducible refine g_binOp ?_); first | refine lx_arith rfl rfl rfl rfl rfl rfl rfl ?_ | refine lx_quo rfl rfl rfl rfl rfl rfl (by decide) ?_ | refine lx_rem rfl rfl rfl rfl rfl rfl (by decide) ?_ | refine lx_shr rfl rfl rfl rfl rfl rfl ?_ ?_) | ((with_reducible refine g_assign ?_); first | refine lx_assign (r := (.t _)) rfl rfl rfl rfl rfl ?_ | refine lx_assign (r := (.row _)) rfl rfl rfl rfl rfl ?_) | ((with_reducible refine g_index ?_); first | refine lx_index_str rfl rfl rfl rfl rfl rfl ?_ ?_ ?_) | ((with_reducible refine g_convert ?_); first | refine lx_conv_int rfl rfl rfl rfl rfl ?_) | ((with_reducible refine g_buildSlice ?_); first | refine lx_buildSlice rfl rfl rfl rfl rfl rfl rfl ?_) | ((with_reducible refine g_append ?_); first | refine lx_append_row rfl rfl rfl rfl rfl rfl rfl rfl rfl rfl ?_ ?_ ?_) | refine c_condP rfl (fun hc => ?_) (fun hc => ?_))
    all_goals try simp only [h1, h2, h3, h4, digL_len, List.length_singleton]
    all_goals try omega
    refine q_loop (n' := 32 - (j + 1)) (by omega) ((ghost_keep2 [3, 4, 5, 12] [.loc 29] rfl rfl).trans (ghost_renL2 (.loc 29) (.loc 11) rfl rfl rfl rfl)) ⟨j + 1, by omega, rfl, ?_, ?_⟩
    · try simp only [h1, h2, h3, h4]
      have : restN Y (j + 1) = restN Y j + 3 - digA Y j := by rw [restN, digA, if_pos hlt]
      rw [this, wrap64 (n := (restN Y j : Int) + 3) (by omega) (by omega), wrap64 (by omega) (by omega), wrap64 (by omega) (by omega), show ((restN Y j : Int) + 3 - (digA Y j : Int)) = ((restN Y j + 3 - digA Y j : Nat) : Int) by omega]
      rfl
    · try simp only [h1, h2, h3, h4]
      rw [digL_succ]
      rfl
  · obtain rfl : j = 32 := by omega
    repeat' (first | (with_reducible refine codeT_seq ?_) | (with_reducible refine codeT_block ?_) | (with_reducible refine codeT_exit ?_) | (with_reducible refine codeT_regionL ?_) | (with_reducible refine lx_nil ?_) | (with_reducible refine q_then ?_) | (with_reducible refine q_then_exit ?_) | ((with_reducible refine q_block_same ?_ ?_); · rfl) | (with_reducible refine q_loop_exit ?_) | refine c_condF rfl ?_ | ((with_reducible refine g_binOp ?_); first | refine lx_arith rfl rfl rfl rfl rfl rfl rfl ?_) | ((with_reducible refine g_assign ?_); first | refine lx_assign (r := (.t _)) rfl rfl rfl rfl rfl ?_))
    refine codeT_ghost (ghost_keep2 [4, 5, 8] [.loc 11] rfl rfl) ?_
    refine codeT_loop (fun p env st => ∃ (k : Nat), k ≤ 4 ∧ p = 4 - k ∧
        env = EnvL.get [(4, .row (.loc 11)), (5, .t (.int .i64 (restN Y 32 : Int))), (8, .t (.int .i64 (3 - (k : Int))))] ∧ st = StO.get [(.loc 11, some (.slt 3 1 (digL Y (32 + k))))])
      ?_ (n := 4) ⟨0, by omega, rfl, rfl, rfl⟩
    rintro p env st ⟨k, hk, rfl, rfl, rfl⟩
    by_cases hlt : k < 4
    · have h1 := sh3 ⟨k, hlt⟩
      have h4 := rest_val Y k hlt
      simp only at h1
      obtain ⟨h1, h2⟩ := h1
      repeat' (first | (with_reducible refine codeT_seq ?_) | (with_reducible refine codeT_block ?_) | (with_reducible refine codeT_skip ?_) | (with_reducible refine codeT_exit ?_) | (with_reducible refine codeT_regionL ?_) | (with_reducible refine lx_nil ?_) | (with_reducible refine q_then ?_) | (with_reducible refine q_then_exit ?_) | (with_reducible refine q_block ?_) | ((with_reducible refine q_block_same ?_ ?_); · rfl) | (with_reducible refine q_loop_exit ?_) | (exfalso; omega) | ((with_reducible refine g_move ?_); first | refine lx_move (r := (.t _)) rfl rfl rfl rfl rfl ?_ | refine lx_move (r := (.row _)) rfl rfl rfl rfl rfl ?_) | ((with_reducible refine g_binOp ?_); first | refine lx_arith rfl rfl rfl rfl rfl rfl rfl ?_ | refine lx_shr rfl rfl rfl rfl rfl rfl ?_ ?_) | ((with_reducible refine g_assign ?_); first | refine lx_assign (r := (.t _)) rfl rfl rfl rfl rfl ?_ | refine lx_assign (r := (.row _)) rfl rfl rfl rfl rfl ?_) | ((with_reducible refine g_buildSlice ?_); first | refine lx_buildSlice rfl rfl rfl rfl rfl rfl rfl ?_) | ((with_reducible refine g_append ?_); first | refine lx_append_row rfl rfl rfl rfl rfl rfl rfl rfl rfl rfl ?_ ?_ ?_) | refine c_condP rfl (fun hc => ?_) (fun hc => ?_))
      all_goals try simp only [h2, h4, digL_len, List.length_singleton]
      all_goals try omega
      refine q_loop (n' := 4 - (k + 1)) (by omega) ((ghost_keep2 [4, 5, 8] [.loc 46] rfl rfl).trans (ghost_renL2 (.loc 46) (.loc 11) rfl rfl rfl rfl)) ⟨k + 1, by omega, rfl, ?_, ?_⟩
      · rw [wrap64 (by omega) (by omega), show (3 : Int) - (k : Int) - 1 = 3 - ((k + 1 : Nat) : Int) by omega]
        rfl
      · try simp only [h2, h4]
        rw [show 32 + (k + 1) = 32 + k + 1 by omega, digL_succ]
        rfl
    · obtain rfl : k = 4 := by omega
      repeat' (first | (with_reducible refine codeT_seq ?_) | (with_reducible refine codeT_ret ?_) | (with_reducible refine codeT_exit ?_) | (with_reducible refine codeT_regionL ?_) | (with_reducible refine lx_nil ?_) | (with_reducible refine q_then ?_) | (with_reducible refine q_then_exit ?_) | ((with_reducible refine q_block_same ?_ ?_); · rfl) | (with_reducible refine q_loop_exit ?_) | refine c_condF rfl ?_ | ((with_reducible refine g_move ?_); first | refine lx_move (r := (.t _)) rfl rfl rfl rfl rfl ?_ | refine lx_move (r := (.row _)) rfl rfl rfl rfl rfl ?_) | ((with_reducible refine g_binOp ?_); first | refine lx_arith rfl rfl rfl rfl rfl rfl rfl ?_) | ((with_reducible refine g_assign ?_); first | refine lx_assign (r := (.row _)) rfl rfl rfl rfl rfl ?_))
      refine q_ghost (ghost_freezeL (id := .loc 11) rfl rfl rfl) ?_
      exact q_done (q_ret (resT_oneE rfl rfl rfl) (stHas_spec trivial))
end Go.AL
/- What a step, a secret and some steps of one-time signatures are, in the program and in the document. -/
set_option linter.unusedVariables false
namespace Go.AL
open Go Go.Proofs Go.RowKit

set_option maxHeartbeats 1000000 in
theorem Step_spec (v : ByteArray) (hv : v.size ≤ 1000000) (c p : Int) : Spec Try.prog 34 [.t (.str v), .t (.int .i64 c), .t (.int .i64 p)] [] (.t (.str (stepS v c p))) [] := by
  have hz := chanS_size c p
  have hS := Short_spec (v ++ chanS c p) (by rw [ByteArray.size_append]; omega)
  unfold stepS
  generalize shortS (v ++ chanS c p) = Y at hS ⊢
  unfold chanS at hS hz
  refine spec_intro (env0 := [(0, _), (1, _), (2, _)]) (st0 := []) Try.func34 rfl rfl rfl rfl ?_
  repeat' (first | (with_reducible refine codeT_seq ?_) | (with_reducible refine codeT_ret ?_) | (with_reducible refine codeT_regionL ?_) | (with_reducible refine lx_nil ?_) | (with_reducible refine q_then ?_) | ((with_reducible refine g_move ?_); first | refine lx_move (r := (.t _)) rfl rfl rfl rfl rfl ?_) | ((with_reducible refine g_binOp ?_); first | refine lx_concat rfl rfl rfl rfl rfl rfl ?_ ?_) | ((with_reducible refine g_assign ?_); first | refine lx_assign (r := (.t _)) rfl rfl rfl rfl rfl ?_) | ((with_reducible refine g_convert ?_); first | refine lx_conv_int rfl rfl rfl rfl rfl ?_ | refine lx_ofBytes_row rfl rfl rfl rfl rfl rfl ?_ ?_) | ((with_reducible refine g_buildSlice ?_); first | refine lx_buildSlice rfl rfl rfl rfl rfl rfl rfl ?_) | ((with_reducible refine g_call ?_); first | refine lx_callT rfl rfl hS rfl rfl (ArgsLE.refl _) rfl rfl rfl rfl rfl ?_))
  all_goals try exact isU8_two _ _
  all_goals try omega
  exact q_ret (resT_oneE rfl rfl rfl) (by simp)
set_option maxHeartbeats 1000000 in
theorem Secret_spec (v : ByteArray) (hv : v.size ≤ 1000000) (c : Int) : Spec Try.prog 36 [.t (.str v), .t (.int .i64 c)] [] (.t (.str (secS v c))) [] := by
  have hz := chanS_size 128 c
  have hS := Short_spec (v ++ chanS 128 c) (by rw [ByteArray.size_append]; omega)
  unfold secS
  generalize shortS (v ++ chanS 128 c) = Y at hS ⊢
  rw [← chan_sec, ← ByteArray.append_assoc] at hS
  have z1 : (⟨#[128]⟩ : ByteArray).size = 1 := rfl
  have z2 : (strT [T.int .u8 (IntKind.u8.wrap c)]).size = 1 := strT_size _
  refine spec_intro (env0 := [(0, _), (1, _)]) (st0 := []) Try.func36 rfl rfl rfl rfl ?_
  repeat' (first | (with_reducible refine codeT_seq ?_) | (with_reducible refine codeT_ret ?_) | (with_reducible refine codeT_regionL ?_) | (with_reducible refine lx_nil ?_) | (with_reducible refine q_then ?_) | ((with_reducible refine g_move ?_); first | refine lx_move (r := (.t _)) rfl rfl rfl rfl rfl ?_) | ((with_reducible refine g_binOp ?_); first | refine lx_concat rfl rfl rfl rfl rfl rfl ?_ ?_) | ((with_reducible refine g_assign ?_); first | refine lx_assign (r := (.t _)) rfl rfl rfl rfl rfl ?_) | ((with_reducible refine g_convert ?_); first | refine lx_conv_int rfl rfl rfl rfl rfl ?_ | refine lx_ofBytes_row rfl rfl rfl rfl rfl rfl ?_ ?_) | ((with_reducible refine g_buildSlice ?_); first | refine lx_buildSlice rfl rfl rfl rfl rfl rfl rfl ?_) | ((with_reducible refine g_call ?_); first | refine lx_callT rfl rfl hS rfl rfl (ArgsLE.refl _) rfl rfl rfl rfl rfl ?_))
  all_goals try exact isU8_one _
  all_goals try (simp only [ByteArray.size_append, z1, z2]; omega)
  exact q_ret (resT_oneE rfl rfl rfl) (by simp)
set_option maxHeartbeats 2000000 in
theorem steps_spec (v : ByteArray) (hv : v.size ≤ 900000) (c : Int) (p n : Nat) (hp : p + n ≤ 1000) : Spec Try.prog 77 [.t (.str v), .t (.int .i64 c), .t (.int .i64 (p : Int)), .t (.int .i64 ((p + n : Nat) : Int))] [] (.t (.str (stepsS v c p n))) [] := by
  refine spec_intro (env0 := [(0, _), (1, _), (2, _), (3, _)]) (st0 := []) Try.func77 rfl rfl rfl rfl ?_
  repeat' (first | (with_reducible refine codeT_seq ?_) | (with_reducible refine codeT_block ?_) | (with_reducible refine codeT_regionL ?_) | (with_reducible refine lx_nil ?_) | (with_reducible refine q_then ?_) | ((with_reducible refine g_move ?_); first | refine lx_move (r := (.t _)) rfl rfl rfl rfl rfl ?_) | ((with_reducible refine g_assign ?_); first | refine lx_assign (r := (.t _)) rfl rfl rfl rfl rfl ?_))
  refine codeT_ghost (ghost_keep2 [0, 1, 3, 9] [] rfl rfl) ?_
  refine codeT_loop (fun q env st => ∃ (j : Nat), j ≤ n ∧ q = n - j ∧
      env = EnvL.get [(0, .t (.str (stepsS v c p j))), (1, .t (.int .i64 c)), (3, .t (.int .i64 ((p + n : Nat) : Int))), (9, .t (.int .i64 ((p + j : Nat) : Int)))] ∧ st = StO.get [])
    ?_ (n := n) ⟨0, by omega, rfl, rfl, rfl⟩
  rintro q env st ⟨j, hj, rfl, rfl, rfl⟩
  have hz := stepsS_le v c p j
  by_cases hlt : j < n
  · have hS := Step_spec (stepsS v c p j) (by omega) c ((p + j : Nat) : Int)
    rw [show stepS (stepsS v c p j) c ((p + j : Nat) : Int) = stepsS v c p (j + 1) from rfl] at hS
    repeat' (first | (with_reducible refine codeT_seq ?_) | (with_reducible refine codeT_block ?_) | (with_reducible refine codeT_skip ?_) | (with_reducible refine codeT_exit ?_) | (with_reducible refine codeT_regionL ?_) | (with_reducible refine lx_nil ?_) | (with_reducible refine q_then ?_) | (with_reducible refine q_then_exit ?_) | (with_reducible refine q_block ?_) | ((with_reducible refine q_block_same ?_ ?_); · rfl) | (with_reducible refine q_loop_exit ?_) | (exfalso; omega) | ((with_reducible refine g_move ?_); first | refine lx_move (r := (.t _)) rfl rfl rfl rfl rfl ?_) | ((with_reducible refine g_binOp ?_); first | refine lx_arith rfl rfl rfl rfl rfl rfl rfl ?_) | ((with_reducible refine g_assign ?_); first | refine lx_assign (r := (.t _)) rfl rfl rfl rfl rfl ?_) | ((with_reducible refine g_call ?_); first | refine lx_callT rfl rfl hS rfl rfl (ArgsLE.refl _) rfl rfl rfl rfl rfl ?_) | refine c_condP rfl (fun hc => ?_) (fun hc => ?_))
    refine q_loop (n' := n - (j + 1)) (by omega) (ghost_keep2 [0, 1, 3, 9] [] rfl rfl) ⟨j + 1, by omega, rfl, ?_, rfl⟩
    rw [wrap64 (by omega) (by omega), show ((p + j : Nat) : Int) + 1 = ((p + (j + 1) : Nat) : Int) by omega]
    rfl
  · obtain rfl : j = n := by omega
    repeat' (first | (with_reducible refine codeT_seq ?_) | (with_reducible refine codeT_block ?_) | (with_reducible refine codeT_skip ?_) | (with_reducible refine codeT_ret ?_) | (with_reducible refine codeT_exit ?_) | (with_reducible refine codeT_regionL ?_) | (with_reducible refine lx_nil ?_) | (with_reducible refine q_then ?_) | (with_reducible refine q_then_exit ?_) | ((with_reducible refine q_block_same ?_ ?_); · rfl) | (with_reducible refine q_loop_exit ?_) | (exfalso; omega) | ((with_reducible refine g_move ?_); first | refine lx_move (r := (.t _)) rfl rfl rfl rfl rfl ?_) | ((with_reducible refine g_binOp ?_); first | refine lx_arith rfl rfl rfl rfl rfl rfl rfl ?_) | ((with_reducible refine g_assign ?_); first | refine lx_assign (r := (.t _)) rfl rfl rfl rfl rfl ?_) | refine c_condP rfl (fun hc => ?_) (fun hc => ?_))
    exact q_ret (resT_oneE rfl rfl rfl) (by simp)
end Go.AL
/- What walks of all chains, public values and signatures are, in the program and in the document. -/
set_option linter.unusedVariables false
namespace Go.AL
open Go Go.Proofs Go.RowKit

def natL (d : Nat → Nat) : List Int := (List.range 36).map (fun i => (d i : Int))
theorem natL_len (d : Nat → Nat) : (natL d).length = 36 := by simp [natL]
theorem natL_get (d : Nat → Nat) {j : Nat} (hj : j < 36) : (natL d).getD (j : Int).toNat default = (d j : Int) := by
  simp [natL, List.getD_eq_getElem?_getD, hj]
theorem digL_natL (Y : ByteArray) : digL Y 36 = (natL (digA Y)).map (T.int .i64) := by simp [digL, natL, Function.comp_def]
/-- A Builder after some strings. -/
def bst (q : Id) (t : Nat) (s : ByteArray) : Nat → StO
  | 0 => [(q, some (.var t [.t .nilp, .t .nilsl]))]
  | _ + 1 => [(q, some (.var t [.ref q 0 0 0, .row (.loc 901)])), (.loc 901, some (.slt 5 1 (bytesT s)))]
theorem wlkS_succ (v : ByteArray) (d : Nat → Nat) (j : Nat) : wlkS v d (j + 1) = wlkS v d j ++ wlkF v d j := rfl
set_option maxHeartbeats 4000000 in
theorem walk_spec (v : ByteArray) (hv : v.size ≤ 900000) (d : Nat → Nat) (hd : ∀ i, d i < 4) : Spec Try.prog 75 [.t (.str v), .t (.sl 1 ((natL d).map (T.int .i64)))] [] (.t (.str (wlkS v d 36))) [] := by
  have hlen := natL_len d
  refine spec_intro (env0 := [(0, _), (1, _)]) (st0 := []) Try.func75 rfl rfl rfl rfl ?_
  repeat' (first | (with_reducible refine codeT_seq ?_) | (with_reducible refine codeT_block ?_) | (with_reducible refine codeT_regionL ?_) | (with_reducible refine lx_nil ?_) | (with_reducible refine q_then ?_) | ((with_reducible refine g_move ?_); first | refine lx_move (r := (.t _)) rfl rfl rfl rfl rfl ?_) | ((with_reducible refine g_assign ?_); first | refine lx_assign (r := (.t _)) rfl rfl rfl rfl rfl ?_) | ((with_reducible refine g_alloc ?_); first | refine lx_alloc rfl rfl rfl rfl rfl rfl rfl ?_) | ((with_reducible refine g_len ?_); first | refine lx_len_map rfl rfl rfl rfl rfl ?_))
  refine codeT_ghost (ghost_keep2 [0, 5, 8, 9, 10] [.loc 5] rfl rfl) ?_
  refine codeT_loop (fun q env st => ∃ (j : Nat), j ≤ 36 ∧ q = 36 - j ∧
      env = EnvL.get [(0, .t (.str v)), (5, .ref (.loc 5) 0 0 0), (8, .t (.sl 1 ((natL d).map (T.int .i64)))), (9, .t (.int .i64 ((natL d).length : Int))), (10, .t (.int .i64 (j : Int)))] ∧
      st = StO.get (bst (.loc 5) 102 (wlkS v d j) j))
    ?_ (n := 36) ⟨0, by omega, rfl, rfl, rfl⟩
  rintro q env st ⟨j, hj, rfl, rfl, rfl⟩
  rw [hlen]
  have hzj := wlkS_size v d j
  by_cases hlt : j < 36
  · have hg := natL_get d hlt
    have hd4 := hd j
    have hS1 := Secret_spec v (by omega) (j : Int)
    have hz1 := secS_size v (j : Int)
    have hS2 := steps_spec (secS v (j : Int)) (by omega) (j : Int) 0 (d j) (by omega)
    rw [show stepsS (secS v (j : Int)) (j : Int) 0 (d j) = wlkF v d j from rfl, Nat.zero_add, ← hg] at hS2
    have hz2 := wlkF_size v d j
    have hsucc := wlkS_succ v d j
    generalize secS v (j : Int) = X at *
    cases j with
    | zero =>
      have e0 : wlkS v d 0 ++ wlkF v d 0 = wlkF v d 0 := ByteArray.empty_append
      rw [e0] at hsucc
      rw [← hsucc] at hS2 hz2
      have hw := wsN_spec (wlkS v d (0 + 1)) (by omega)
      unfold bldN bldR at hw
      repeat' (first | (with_reducible refine codeT_seq ?_) | (with_reducible refine codeT_block ?_) | (with_reducible refine codeT_skip ?_) | (with_reducible refine codeT_regionL ?_) | (with_reducible refine lx_nil ?_) | (with_reducible refine q_then ?_) | (with_reducible refine q_block ?_) | refine c_condT rfl ?_ | ((with_reducible refine g_move ?_); first | refine lx_move (r := (.t _)) rfl rfl rfl rfl rfl ?_) | ((with_reducible refine g_load ?_); first | refine lx_load_tp rfl rfl rfl rfl rfl rfl rfl ?_) | ((with_reducible refine g_binOp ?_); first | refine lx_arith rfl rfl rfl rfl rfl rfl rfl ?_) | ((with_reducible refine g_assign ?_); first | refine lx_assign (r := (.t _)) rfl rfl rfl rfl rfl ?_) | ((with_reducible refine g_indexAddr ?_); first | refine lx_indexAddr_map rfl rfl rfl rfl rfl rfl ?_ ?_ ?_) | ((with_reducible refine g_call ?_); first | refine lx_callT rfl rfl hS1 rfl rfl (ArgsLE.refl _) rfl rfl rfl rfl rfl ?_ | refine lx_callT rfl rfl hS2 rfl rfl (ArgsLE.refl _) rfl rfl rfl rfl rfl ?_ | refine lx_call (r' := .tup [_, _]) [(.par 0, .loc 5), (.res 0, .loc 901)] rfl rfl hw (ArgsLE.refl _) rfl ⟨rfl, trivial⟩ rfl rfl rfl rfl rfl rfl rfl rfl rfl rfl ?_))
      all_goals try omega
      exact q_loop (n' := 36 - (0 + 1)) (by omega) (ghost_keep2 [0, 5, 8, 9, 10] [.loc 5, .loc 901] rfl rfl) ⟨0 + 1, by omega, rfl, rfl, rfl⟩
    | succ k =>
      have hw := wsU_spec (bytesT (wlkS v d (k + 1))) (wlkF v d (k + 1)) (by rw [bytesT_len]; omega)
      rw [← bytesT_append, ← hsucc] at hw
      unfold bldU bldR at hw
      unfold bst
      repeat' (first | (with_reducible refine codeT_seq ?_) | (with_reducible refine codeT_block ?_) | (with_reducible refine codeT_skip ?_) | (with_reducible refine codeT_exit ?_) | (with_reducible refine codeT_regionL ?_) | (with_reducible refine lx_nil ?_) | (with_reducible refine q_then ?_) | (with_reducible refine q_then_exit ?_) | (with_reducible refine q_block ?_) | ((with_reducible refine q_block_same ?_ ?_); · rfl) | (with_reducible refine q_loop_exit ?_) | (exfalso; omega) | ((with_reducible refine g_move ?_); first | refine lx_move (r := (.t _)) rfl rfl rfl rfl rfl ?_) | ((with_reducible refine g_load ?_); first | refine lx_load_tp rfl rfl rfl rfl rfl rfl rfl ?_) | ((with_reducible refine g_binOp ?_); first | refine lx_arith rfl rfl rfl rfl rfl rfl rfl ?_) | ((with_reducible refine g_assign ?_); first | refine lx_assign (r := (.t _)) rfl rfl rfl rfl rfl ?_) | ((with_reducible refine g_indexAddr ?_); first | refine lx_indexAddr_map rfl rfl rfl rfl rfl rfl ?_ ?_ ?_) | ((with_reducible refine g_call ?_); first | refine lx_callT rfl rfl hS1 rfl rfl (ArgsLE.refl _) rfl rfl rfl rfl rfl ?_ | refine lx_callT rfl rfl hS2 rfl rfl (ArgsLE.refl _) rfl rfl rfl rfl rfl ?_ | refine lx_call (r' := .tup [_, _]) [(.par 0, .loc 5), (.par 1, .loc 901), (.res 0, .loc 902)] rfl rfl hw (ArgsLE.refl _) rfl ⟨rfl, rfl, trivial⟩ rfl rfl rfl rfl rfl rfl rfl rfl rfl rfl ?_) | refine c_condP rfl (fun hc => ?_) (fun hc => ?_))
      all_goals try omega
      refine q_loop (n' := 36 - (k + 1 + 1)) (by omega) ((ghost_keep2 [0, 5, 8, 9, 10] [.loc 5, .loc 902] rfl rfl).trans (ghost_renL2 (.loc 902) (.loc 901) rfl rfl rfl rfl)) ⟨k + 1 + 1, by omega, rfl, by rw [wrap64 (by omega) (by omega)]; rfl, rfl⟩
  · obtain rfl : j = 36 := by omega
    have hne : (wlkS v d 36).data.toList ≠ [] := by
      intro h
      have h3 := toList_len (wlkS v d 36)
      rw [h] at h3
      simp at h3; omega
    have hS := strU_spec (wlkS v d 36).data.toList (by rw [toList_len]; omega) hne
    rw [ofL_of, ← bytesT_map] at hS
    unfold bldU at hS
    generalize wlkS v d 36 = X at hS ⊢
    unfold bst
    repeat' (first | (with_reducible refine codeT_seq ?_) | (with_reducible refine codeT_ret ?_) | (with_reducible refine codeT_exit ?_) | (with_reducible refine codeT_regionL ?_) | (with_reducible refine lx_nil ?_) | (with_reducible refine q_then ?_) | (with_reducible refine q_then_exit ?_) | ((with_reducible refine q_block_same ?_ ?_); · rfl) | (with_reducible refine q_loop_exit ?_) | refine c_condF rfl ?_ | ((with_reducible refine g_binOp ?_); first | refine lx_arith rfl rfl rfl rfl rfl rfl rfl ?_) | ((with_reducible refine g_assign ?_); first | refine lx_assign (r := (.t _)) rfl rfl rfl rfl rfl ?_) | ((with_reducible refine g_call ?_); first | refine lx_call (r' := .t (.str _)) [(.par 0, .loc 5), (.par 1, .loc 901)] rfl rfl hS (ArgsLE.refl _) rfl ⟨rfl, rfl, trivial⟩ rfl rfl rfl rfl rfl rfl rfl rfl rfl rfl ?_))
    exact q_ret (resT_oneE rfl rfl rfl) (by simp)
set_option maxHeartbeats 2000000 in
theorem Sign_spec (v m : ByteArray) (hv : v.size ≤ 900000) (hm : m.size ≤ 900000) : Spec Try.prog 41 [.t (.str v), .t (.str m)] [] (.t (.str (sigS v m))) [] := by
  have h1 := Digits_spec m (by omega)
  have h2 := walk_spec v hv (digA (sha m)) (digA_lt _)
  rw [digL_natL] at h1
  unfold sigS
  generalize wlkS v (digA (sha m)) 36 = Y at h2 ⊢
  generalize natL (digA (sha m)) = L at h1 h2
  refine spec_intro (env0 := [(0, _), (1, _)]) (st0 := []) Try.func41 rfl rfl rfl rfl ?_
  repeat' (first | (with_reducible refine codeT_seq ?_) | (with_reducible refine codeT_ret ?_) | (with_reducible refine codeT_regionL ?_) | (with_reducible refine lx_nil ?_) | (with_reducible refine q_then ?_) | ((with_reducible refine g_move ?_); first | refine lx_move (r := (.t _)) rfl rfl rfl rfl rfl ?_) | ((with_reducible refine g_assign ?_); first | refine lx_assign (r := (.t _)) rfl rfl rfl rfl rfl ?_) | ((with_reducible refine g_call ?_); first | refine lx_callT rfl rfl h1 rfl rfl (ArgsLE.refl _) rfl rfl rfl rfl rfl ?_ | refine lx_callT rfl rfl h2 rfl rfl (ArgsLE.refl _) rfl rfl rfl rfl rfl ?_))
  exact q_ret (resT_oneE rfl rfl rfl) (by simp)
def pub3 (j : Nat) : List T := (List.range 36).map (fun i => T.int .i64 (if i < j then 3 else 0))
theorem pub3_set (j : Nat) (hj : j < 36) : (pub3 j).set (j : Int).toNat (.int .i64 3) = pub3 (j + 1) := by
  apply List.ext_getElem
  · simp [pub3]
  · intro i h1 h2
    simp only [pub3, List.length_set, List.length_map, List.length_range] at h1
    simp only [pub3, List.getElem_set, List.getElem_map, List.getElem_range, Int.toNat_natCast]
    by_cases h : j = i
    · subst h; rw [if_pos rfl, if_pos (by omega)]
    · rw [if_neg h]
      by_cases h' : i < j
      · rw [if_pos h', if_pos (by omega)]
      · rw [if_neg h', if_neg (by omega)]
theorem pub3_all : pub3 36 = (natL (fun _ => 3)).map (T.int .i64) := rfl
set_option maxHeartbeats 2000000 in
theorem Public_spec (v : ByteArray) (hv : v.size ≤ 900000) : Spec Try.prog 38 [.t (.str v)] [] (.t (.str (pubS v))) [] := by
  have h2 := walk_spec v hv (fun _ => 3) (fun _ => by omega)
  have hz := wlkS_size v (fun _ => 3) 36
  have hS := Short_spec (wlkS v (fun _ => 3) 36) (by omega)
  unfold pubS
  generalize shortS (wlkS v (fun _ => 3) 36) = Y at hS ⊢
  generalize wlkS v (fun _ => 3) 36 = W at *
  rw [← pub3_all] at h2
  refine spec_intro (env0 := [(0, _)]) (st0 := []) Try.func38 rfl rfl rfl rfl ?_
  repeat' (first | (with_reducible refine codeT_seq ?_) | (with_reducible refine codeT_block ?_) | (with_reducible refine codeT_regionL ?_) | (with_reducible refine lx_nil ?_) | (with_reducible refine q_then ?_) | ((with_reducible refine g_move ?_); first | refine lx_move (r := (.t _)) rfl rfl rfl rfl rfl ?_ | refine lx_move (r := (.row _)) rfl rfl rfl rfl rfl ?_) | ((with_reducible refine g_assign ?_); first | refine lx_assign (r := (.t _)) rfl rfl rfl rfl rfl ?_ | refine lx_assign (r := (.row _)) rfl rfl rfl rfl rfl ?_) | ((with_reducible refine g_makeSlice ?_); first | refine lx_makeSlice (zT := .int _ _) rfl rfl rfl rfl rfl rfl rfl rfl rfl ?_ ?_ ?_ ?_ ?_) | ((with_reducible refine g_len ?_); first | refine lx_len_row rfl rfl rfl rfl rfl rfl ?_))
  all_goals try decide
  refine codeT_ghost (ghost_keep2 [0, 3, 7, 8] [.loc 5] rfl rfl) ?_
  refine codeT_loop (fun q env st => ∃ (j : Nat), j ≤ 36 ∧ q = 36 - j ∧
      env = EnvL.get [(0, .t (.str v)), (3, .row (.loc 5)), (7, .t (.int .i64 36)), (8, .t (.int .i64 (j : Int)))] ∧
      st = StO.get [(.loc 5, some (.slt 3 1 (pub3 j)))])
    ?_ (n := 36) ⟨0, by omega, rfl, rfl, rfl⟩
  rintro q env st ⟨j, hj, rfl, rfl, rfl⟩
  have hlen : (pub3 j).length = 36 := by simp [pub3]
  by_cases hlt : j < 36
  · have hset := pub3_set j hlt
    repeat' (first | (with_reducible refine codeT_seq ?_) | (with_reducible refine codeT_block ?_) | (with_reducible refine codeT_skip ?_) | (with_reducible refine codeT_exit ?_) | (with_reducible refine codeT_regionL ?_) | (with_reducible refine lx_nil ?_) | (with_reducible refine q_then ?_) | (with_reducible refine q_then_exit ?_) | (with_reducible refine q_block ?_) | ((with_reducible refine q_block_same ?_ ?_); · rfl) | (with_reducible refine q_loop_exit ?_) | (exfalso; omega) | ((with_reducible refine g_move ?_); first | refine lx_move (r := (.t _)) rfl rfl rfl rfl rfl ?_ | refine lx_move (r := (.row _)) rfl rfl rfl rfl rfl ?_) | ((with_reducible refine g_binOp ?_); first | refine lx_arith rfl rfl rfl rfl rfl rfl rfl ?_) | ((with_reducible refine g_assign ?_); first | refine lx_assign (r := (.t _)) rfl rfl rfl rfl rfl ?_) | ((with_reducible refine g_store ?_); first | refine lx_store_slt rfl rfl rfl rfl rfl rfl ?_ ?_ ?_) | ((with_reducible refine g_indexAddr ?_); first | refine lx_indexAddr_row rfl rfl rfl rfl rfl rfl rfl ?_ ?_ ?_) | refine c_condP rfl (fun hc => ?_) (fun hc => ?_))
    all_goals try omega
    · rfl
    refine q_loop (n' := 36 - (j + 1)) (by omega) (ghost_keep2 [0, 3, 7, 8] [.loc 5] rfl rfl) ⟨j + 1, by omega, rfl, by rw [wrap64 (by omega) (by omega)]; rfl, ?_⟩
    rw [← hset]; rfl
  · obtain rfl : j = 36 := by omega
    refine codeT_ghost (ghost_freezeL (id := .loc 5) rfl rfl rfl) ?_
    repeat' (first | (with_reducible refine codeT_seq ?_) | (with_reducible refine codeT_ret ?_) | (with_reducible refine codeT_exit ?_) | (with_reducible refine codeT_regionL ?_) | (with_reducible refine lx_nil ?_) | (with_reducible refine q_then ?_) | (with_reducible refine q_then_exit ?_) | ((with_reducible refine q_block_same ?_ ?_); · rfl) | (with_reducible refine q_loop_exit ?_) | refine c_condF rfl ?_ | ((with_reducible refine g_move ?_); first | refine lx_move (r := (.t _)) rfl rfl rfl rfl rfl ?_) | ((with_reducible refine g_binOp ?_); first | refine lx_arith rfl rfl rfl rfl rfl rfl rfl ?_) | ((with_reducible refine g_assign ?_); first | refine lx_assign (r := (.t _)) rfl rfl rfl rfl rfl ?_) | ((with_reducible refine g_call ?_); first | refine lx_callT rfl rfl h2 rfl rfl (ArgsLE.refl _) rfl rfl rfl rfl rfl ?_ | refine lx_callT rfl rfl hS rfl rfl (ArgsLE.refl _) rfl rfl rfl rfl rfl ?_))
    all_goals exact q_ret (resT_oneE rfl rfl rfl) (by simp)
end Go.AL
/- What the document's public values and signatures are, and to what a signature leads, in the program and in the document. -/
set_option linter.unusedVariables false
namespace Go.AL
open Go Go.Proofs Go.RowKit

theorem recS_succ (d : Nat → Nat) (w : ByteArray) (j : Nat) : recS d w (j + 1) = recS d w j ++ recF d w j := rfl
def recE (w : ByteArray) : Int := if w.size = 576 then 0 else 8
def recR (m w : ByteArray) : ByteArray := if w.size = 576 then recV m w else ⟨#[]⟩
set_option maxHeartbeats 4000000 in
theorem Recover_spec (m w : ByteArray) (hm : m.size ≤ 900000) (hw : w.size ≤ 900000) : Spec Try.prog 43 [.t (.str m), .t (.str w)] [] (.tup [.t (.str (recR m w)), .t (.int .i64 (recE w))]) [] := by
  unfold recR recE
  by_cases h0 : w.size = 576
  · rw [if_pos h0, if_pos h0]
    have h0' : (w.size : Int) = 576 := by omega
    have h1 := Digits_spec m (by omega)
    rw [digL_natL] at h1
    unfold recV
    have hd := digA_lt (sha m)
    generalize digA (sha m) = d at h1 hd ⊢
    have hlen := natL_len d
    have hze := recS_size (d := d) (w := w) 36 (by omega)
    have hSh := Short_spec (recS d w 36) (by omega)
    generalize shortS (recS d w 36) = Y at hSh ⊢
    refine spec_intro (env0 := [(0, _), (1, _)]) (st0 := []) Try.func43 rfl rfl rfl rfl ?_
    repeat' (first | (with_reducible refine codeT_seq ?_) | (with_reducible refine codeT_block ?_) | (with_reducible refine codeT_skip ?_) | (with_reducible refine codeT_regionL ?_) | (with_reducible refine lx_nil ?_) | (with_reducible refine q_then ?_) | (exfalso; omega) | ((with_reducible refine g_move ?_); first | refine lx_move (r := (.t _)) rfl rfl rfl rfl rfl ?_) | ((with_reducible refine g_binOp ?_); first | refine lx_arith rfl rfl rfl rfl rfl rfl rfl ?_) | ((with_reducible refine g_assign ?_); first | refine lx_assign (r := (.t _)) rfl rfl rfl rfl rfl ?_) | ((with_reducible refine g_alloc ?_); first | refine lx_alloc rfl rfl rfl rfl rfl rfl rfl ?_) | ((with_reducible refine g_len ?_); first | refine lx_len_map rfl rfl rfl rfl rfl ?_ | refine lx_len_str rfl rfl rfl rfl rfl ?_) | ((with_reducible refine g_call ?_); first | refine lx_callT rfl rfl h1 rfl rfl (ArgsLE.refl _) rfl rfl rfl rfl rfl ?_) | refine c_condN rfl (fun hc => ?_) (fun hc => ?_))
    refine codeT_ghost (ghost_keep2 [1, 6, 13, 14, 15] [.loc 6] rfl rfl) ?_
    refine codeT_loop (fun q env st => ∃ (j : Nat), j ≤ 36 ∧ q = 36 - j ∧
        env = EnvL.get [(1, .t (.str w)), (6, .ref (.loc 6) 0 0 0), (13, .t (.sl 1 ((natL d).map (T.int .i64)))), (14, .t (.int .i64 36)), (15, .t (.int .i64 (j : Int)))] ∧
        st = StO.get (bst (.loc 6) 102 (recS d w j) j))
      ?_ (n := 36) ⟨0, by omega, rfl, rfl, rfl⟩
    rintro q env st ⟨j, hj, rfl, rfl, rfl⟩
    have hzj := recS_size (d := d) (w := w) j (by omega)
    by_cases hlt : j < 36
    · have hg := natL_get d hlt
      have hd4 := hd j
      have hex : (w.extract (16 * j) (16 * (j + 1))).size = 16 := by rw [ByteArray.size_extract]; omega
      have hS2 := steps_spec (w.extract (16 * j) (16 * (j + 1))) (by omega) (j : Int) (d j) (3 - d j) (by omega)
      rw [show stepsS (w.extract (16 * j) (16 * (j + 1))) (j : Int) (d j) (3 - d j) = recF d w j from rfl, show d j + (3 - d j) = 3 by omega, ← hg] at hS2
      have hz2 : (recF d w j).size = 16 := recF_size (by omega)
      have hsucc := recS_succ d w j
      have i1 : IntKind.i64.wrap ((j : Int) * 16) = ((16 * j : Nat) : Int) := by rw [wrap64 (by omega) (by omega)]; omega
      have i2 : IntKind.i64.wrap ((j : Int) + 1) = ((j + 1 : Nat) : Int) := by rw [wrap64 (by omega) (by omega)]; omega
      have i3 : IntKind.i64.wrap (((j + 1 : Nat) : Int) * 16) = ((16 * (j + 1) : Nat) : Int) := by rw [wrap64 (by omega) (by omega)]; omega
      have e1 : w.extract (IntKind.i64.wrap ((j : Int) * 16)).toNat (IntKind.i64.wrap (IntKind.i64.wrap ((j : Int) + 1) * 16)).toNat = w.extract (16 * j) (16 * (j + 1)) := by rw [i2, i1, i3]; rfl
      rw [← e1] at hS2
      cases j with
      | zero =>
        have e0 : recS d w 0 ++ recF d w 0 = recF d w 0 := ByteArray.empty_append
        rw [e0] at hsucc
        rw [← hsucc] at hS2 hz2
        have hw := wsN_spec (recS d w (0 + 1)) (by omega)
        unfold bldN bldR at hw
        repeat' (first | (with_reducible refine codeT_seq ?_) | (with_reducible refine codeT_block ?_) | (with_reducible refine codeT_skip ?_) | (with_reducible refine codeT_regionL ?_) | (with_reducible refine lx_nil ?_) | (with_reducible refine q_then ?_) | (with_reducible refine q_block ?_) | refine c_condT rfl ?_ | ((with_reducible refine g_move ?_); first | refine lx_move (r := (.t _)) rfl rfl rfl rfl rfl ?_) | ((with_reducible refine g_load ?_); first | refine lx_load_tp rfl rfl rfl rfl rfl rfl rfl ?_) | ((with_reducible refine g_binOp ?_); first | refine lx_arith rfl rfl rfl rfl rfl rfl rfl ?_) | ((with_reducible refine g_assign ?_); first | refine lx_assign (r := (.t _)) rfl rfl rfl rfl rfl ?_) | ((with_reducible refine g_indexAddr ?_); first | refine lx_indexAddr_map rfl rfl rfl rfl rfl rfl ?_ ?_ ?_) | ((with_reducible refine g_slice ?_); first | refine lx_slice_str rfl rfl ⟨_, rfl⟩ ⟨_, rfl⟩ rfl rfl rfl ?_ ?_ ?_ ?_) | ((with_reducible refine g_call ?_); first | refine lx_callT rfl rfl hS2 rfl rfl (ArgsLE.refl _) rfl rfl rfl rfl rfl ?_ | refine lx_call (r' := .tup [_, _]) [(.par 0, .loc 6), (.res 0, .loc 901)] rfl rfl hw (ArgsLE.refl _) rfl ⟨rfl, trivial⟩ rfl rfl rfl rfl rfl rfl rfl rfl rfl rfl ?_))
        all_goals try (simp only [i1, i2, i3]; omega)
        all_goals try omega
        exact q_loop (n' := 36 - (0 + 1)) (by omega) (ghost_keep2 [1, 6, 13, 14, 15] [.loc 6, .loc 901] rfl rfl) ⟨0 + 1, by omega, rfl, rfl, rfl⟩
      | succ k =>
        have hw := wsU_spec (bytesT (recS d w (k + 1))) (recF d w (k + 1)) (by rw [bytesT_len]; omega)
        rw [← bytesT_append, ← hsucc] at hw
        unfold bldU bldR at hw
        unfold bst
        repeat' (first | (with_reducible refine codeT_seq ?_) | (with_reducible refine codeT_block ?_) | (with_reducible refine codeT_skip ?_) | (with_reducible refine codeT_exit ?_) | (with_reducible refine codeT_regionL ?_) | (with_reducible refine lx_nil ?_) | (with_reducible refine q_then ?_) | (with_reducible refine q_then_exit ?_) | (with_reducible refine q_block ?_) | ((with_reducible refine q_block_same ?_ ?_); · rfl) | (with_reducible refine q_loop_exit ?_) | (exfalso; omega) | ((with_reducible refine g_move ?_); first | refine lx_move (r := (.t _)) rfl rfl rfl rfl rfl ?_) | ((with_reducible refine g_load ?_); first | refine lx_load_tp rfl rfl rfl rfl rfl rfl rfl ?_) | ((with_reducible refine g_binOp ?_); first | refine lx_arith rfl rfl rfl rfl rfl rfl rfl ?_) | ((with_reducible refine g_assign ?_); first | refine lx_assign (r := (.t _)) rfl rfl rfl rfl rfl ?_) | ((with_reducible refine g_indexAddr ?_); first | refine lx_indexAddr_map rfl rfl rfl rfl rfl rfl ?_ ?_ ?_) | ((with_reducible refine g_slice ?_); first | refine lx_slice_str rfl rfl ⟨_, rfl⟩ ⟨_, rfl⟩ rfl rfl rfl ?_ ?_ ?_ ?_) | ((with_reducible refine g_call ?_); first | refine lx_callT rfl rfl hS2 rfl rfl (ArgsLE.refl _) rfl rfl rfl rfl rfl ?_ | refine lx_call (r' := .tup [_, _]) [(.par 0, .loc 6), (.par 1, .loc 901), (.res 0, .loc 902)] rfl rfl hw (ArgsLE.refl _) rfl ⟨rfl, rfl, trivial⟩ rfl rfl rfl rfl rfl rfl rfl rfl rfl rfl ?_) | refine c_condP rfl (fun hc => ?_) (fun hc => ?_))
        all_goals try (simp only [i1, i2, i3]; omega)
        all_goals try omega
        refine q_loop (n' := 36 - (k + 1 + 1)) (by omega) ((ghost_keep2 [1, 6, 13, 14, 15] [.loc 6, .loc 902] rfl rfl).trans (ghost_renL2 (.loc 902) (.loc 901) rfl rfl rfl rfl)) ⟨k + 1 + 1, by omega, rfl, by rw [wrap64 (by omega) (by omega)]; rfl, rfl⟩
    · obtain rfl : j = 36 := by omega
      have hne : (recS d w 36).data.toList ≠ [] := by
        intro h
        have h3 := toList_len (recS d w 36)
        rw [h] at h3
        simp at h3; omega
      have hS := strU_spec (recS d w 36).data.toList (by rw [toList_len]; omega) hne
      rw [ofL_of, ← bytesT_map] at hS
      unfold bldU at hS
      generalize recS d w 36 = X at hS hSh ⊢
      unfold bst
      repeat' (first | (with_reducible refine codeT_seq ?_) | (with_reducible refine codeT_ret ?_) | (with_reducible refine codeT_exit ?_) | (with_reducible refine codeT_regionL ?_) | (with_reducible refine lx_nil ?_) | (with_reducible refine q_then ?_) | (with_reducible refine q_then_exit ?_) | ((with_reducible refine q_block_same ?_ ?_); · rfl) | (with_reducible refine q_loop_exit ?_) | refine c_condF rfl ?_ | ((with_reducible refine g_binOp ?_); first | refine lx_arith rfl rfl rfl rfl rfl rfl rfl ?_) | ((with_reducible refine g_assign ?_); first | refine lx_assign (r := (.t _)) rfl rfl rfl rfl rfl ?_) | ((with_reducible refine g_call ?_); first | refine lx_call (r' := .t (.str _)) [(.par 0, .loc 6), (.par 1, .loc 901)] rfl rfl hS (ArgsLE.refl _) rfl ⟨rfl, rfl, trivial⟩ rfl rfl rfl rfl rfl rfl rfl rfl rfl rfl ?_ | refine lx_callT rfl rfl hSh rfl rfl (ArgsLE.refl _) rfl rfl rfl rfl rfl ?_))
      exact q_ret (resT_twoE rfl rfl rfl rfl rfl) (by simp)
  · rw [if_neg h0, if_neg h0]
    have h0' : (w.size : Int) ≠ 576 := by omega
    refine spec_intro (env0 := [(0, _), (1, _)]) (st0 := []) Try.func43 rfl rfl rfl rfl ?_
    repeat' (first | (with_reducible refine codeT_seq ?_) | (with_reducible refine codeT_skip ?_) | (with_reducible refine codeT_ret ?_) | (with_reducible refine codeT_regionL ?_) | (with_reducible refine lx_nil ?_) | (with_reducible refine q_then ?_) | (with_reducible refine q_then_ret ?_) | (exfalso; omega) | ((with_reducible refine g_move ?_); first | refine lx_move (r := (.t _)) rfl rfl rfl rfl rfl ?_) | ((with_reducible refine g_binOp ?_); first | refine lx_arith rfl rfl rfl rfl rfl rfl rfl ?_) | ((with_reducible refine g_assign ?_); first | refine lx_assign (r := (.t _)) rfl rfl rfl rfl rfl ?_) | ((with_reducible refine g_len ?_); first | refine lx_len_str rfl rfl rfl rfl rfl ?_) | refine c_condN rfl (fun hc => ?_) (fun hc => ?_))
    exact q_ret (resT_twoE rfl rfl rfl rfl rfl) (by simp)
set_option maxHeartbeats 4000000 in
theorem awake11_spec : Spec Try.prog 31 [] [] (.t (.bool true)) [] := by
  obtain ⟨a, ha⟩ : ∃ a : ByteArray, a = ⟨#[115, 101, 101, 100]⟩ := ⟨_, rfl⟩
  obtain ⟨b, hb⟩ : ∃ b : ByteArray, b = ⟨#[116, 101, 120, 116]⟩ := ⟨_, rfl⟩
  obtain ⟨x, hx⟩ : ∃ x : ByteArray, x = ⟨#[120]⟩ := ⟨_, rfl⟩
  have za : a.size = 4 := by rw [ha]; rfl
  have zb : b.size = 4 := by rw [hb]; rfl
  have zx : x.size = 1 := by rw [hx]; rfl
  have h1 := Sign_spec a b (by omega) (by omega)
  have z1 := sigS_size a b
  have h2 := Recover_spec b (sigS a b) (by omega) (by omega)
  rw [show recR b (sigS a b) = recV b (sigS a b) from if_pos z1, rec_sig, show recE (sigS a b) = 0 from if_pos z1] at h2
  have h3 := Public_spec a (by omega)
  have z3 : (pubS a).size = 16 := shortS_size _
  have h4 := Digits_spec x (by omega)
  rw [digL_natL] at h4
  have z4 := natL_len (digA (sha x))
  generalize natL (digA (sha x)) = L at h4 z4
  generalize pubS a = Y at h2 h3 z3
  generalize sigS a b = S at h1 h2
  rw [ha] at h1 h3
  rw [hb] at h1 h2
  rw [hx] at h4
  have z3' : (Y.size : Int) = 16 := by omega
  have z4' : (L.length : Int) = 36 := by omega
  refine spec_intro (env0 := []) (st0 := []) Try.func31 rfl rfl rfl rfl ?_
  repeat' (first | (with_reducible refine codeT_seq ?_) | (with_reducible refine codeT_ret ?_) | (with_reducible refine codeT_regionL ?_) | (with_reducible refine lx_nil ?_) | (with_reducible refine q_then ?_) | ((with_reducible refine g_guard ?_); first | refine lx_skip rfl rfl rfl ?_) | ((with_reducible refine g_move ?_); first | refine lx_move (r := (.t _)) rfl rfl rfl rfl rfl ?_ | refine lx_move (r := (.tup _)) rfl rfl rfl rfl rfl ?_) | ((with_reducible refine g_binOp ?_); first | refine lx_arith rfl rfl rfl rfl rfl rfl rfl ?_ | refine lx_str_eq rfl rfl rfl rfl rfl rfl ?_) | ((with_reducible refine g_assign ?_); first | refine lx_assign (r := (.t _)) rfl rfl rfl rfl rfl ?_) | ((with_reducible refine g_pick ?_); first | refine lx_pickT (r := (.t _)) rfl rfl rfl rfl rfl rfl ?_ | refine lx_pickF (r := (.t _)) rfl rfl rfl rfl rfl rfl ?_) | ((with_reducible refine g_extract ?_); first | refine lx_extract rfl rfl rfl rfl rfl rfl ?_) | ((with_reducible refine g_len ?_); first | refine lx_len_map rfl rfl rfl rfl rfl ?_ | refine lx_len_str rfl rfl rfl rfl rfl ?_) | ((with_reducible refine g_call ?_); first | refine lx_callT rfl rfl h1 rfl rfl (ArgsLE.refl _) rfl rfl rfl rfl rfl ?_ | refine lx_callT rfl rfl h2 rfl rfl (ArgsLE.refl _) rfl rfl rfl rfl rfl ?_ | refine lx_callT rfl rfl h3 rfl rfl (ArgsLE.refl _) rfl rfl rfl rfl rfl ?_ | refine lx_callT rfl rfl h4 rfl rfl (ArgsLE.refl _) rfl rfl rfl rfl rfl ?_) | refine lx_splitP rfl (fun hc => ?_) (fun hc => ?_))
  all_goals try (exfalso; omega)
  all_goals try (exact absurd rfl hc)
  exact q_ret (resT_oneE rfl rfl (by simp [*])) (by simp)
end Go.AL
