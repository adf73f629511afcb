/- What the base64 functions of the program answer, as plain functions; no program in sight. -/
import Derived.Test.YtohgkmphkgaabaaAl3
import Derived.Test.YtohgkmphkgaabaaTy
import Derived.Test.YtohgkmphkgaabaaPur
import Derived.Test.YtohgkmphkgaabaaHsb
set_option linter.unusedVariables false
namespace Go.AL
open Go Go.RowKit

def alpha : ByteArray := ⟨#[65, 66, 67, 68, 69, 70, 71, 72, 73, 74, 75, 76, 77, 78, 79, 80, 81, 82, 83, 84, 85, 86, 87, 88, 89, 90, 97, 98, 99, 100, 101, 102, 103, 104, 105, 106, 107, 108, 109, 110, 111, 112, 113, 114, 115, 116, 117, 118, 119, 120, 121, 122, 48, 49, 50, 51, 52, 53, 54, 55, 56, 57, 45, 95]⟩

abbrev w64 (n : Int) : Int := IntKind.i64.wrap n
abbrev or64 (a b : Int) : Int := w64 ((BitVec.ofInt 64 a ||| BitVec.ofInt 64 b).toNat : Int)
abbrev and64 (a b : Int) : Int := w64 ((BitVec.ofInt 64 a &&& BitVec.ofInt 64 b).toNat : Int)

theorem and64_63 (x : Int) : 0 ≤ and64 x 63 ∧ and64 x 63 < 64 := by
  have h : (BitVec.ofInt 64 x &&& BitVec.ofInt 64 63).toNat ≤ 63 := by
    rw [BitVec.toNat_and]
    exact Nat.le_trans Nat.and_le_right (by decide)
  unfold and64 w64
  rw [wrap64 (by omega) (by omega)]
  omega
theorem or64_lt (n : Nat) (hn : n ≤ 62) {a b : Int} (ha0 : 0 ≤ a) (ha : a < 2 ^ n) (hb0 : 0 ≤ b) (hb : b < 2 ^ n) : 0 ≤ or64 a b ∧ or64 a b < 2 ^ n := by
  have hp : (2 : Int) ^ n ≤ 2 ^ 62 := by
    have : (2 : Nat) ^ n ≤ 2 ^ 62 := Nat.pow_le_pow_right (by omega) hn
    exact_mod_cast this
  have h1 : (BitVec.ofInt 64 a).toNat = a.toNat := by
    rw [BitVec.toNat_ofInt]
    congr 1
    omega
  have h2 : (BitVec.ofInt 64 b).toNat = b.toNat := by
    rw [BitVec.toNat_ofInt]
    congr 1
    omega
  have h : (BitVec.ofInt 64 a ||| BitVec.ofInt 64 b).toNat < 2 ^ n := by
    rw [BitVec.toNat_or, h1, h2]
    refine Nat.or_lt_two_pow ?_ ?_
    · have : ((a.toNat : Nat) : Int) < ((2 ^ n : Nat) : Int) := by rw [Int.toNat_of_nonneg ha0]; exact_mod_cast ha
      exact_mod_cast this
    · have : ((b.toNat : Nat) : Int) < ((2 ^ n : Nat) : Int) := by rw [Int.toNat_of_nonneg hb0]; exact_mod_cast hb
      exact_mod_cast this
  have h' : ((BitVec.ofInt 64 a ||| BitVec.ofInt 64 b).toNat : Int) < 2 ^ n := by exact_mod_cast h
  unfold or64 w64
  rw [wrap64 (by omega) (by omega)]
  exact ⟨by omega, h'⟩

theorem bAt_le (s : ByteArray) (i : Int) : 0 ≤ bAt s i ∧ bAt s i ≤ 255 := by
  unfold bAt
  have := (s.data.toList.getD i.toNat 0).toNat_lt
  omega

/-- Three bytes as one number. -/
def n24 (a b c : Int) : Int := or64 (or64 (w64 (w64 a * 2 ^ min (16 : Int).toNat 64)) (w64 (w64 b * 2 ^ min (8 : Int).toNat 64))) (w64 c)
theorem n24_bound {a b c : Int} (ha : 0 ≤ a ∧ a ≤ 255) (hb : 0 ≤ b ∧ b ≤ 255) (hc : 0 ≤ c ∧ c ≤ 255) : 0 ≤ n24 a b c ∧ n24 a b c < 16777216 := by
  have e1 : (2 : Int) ^ min (16 : Int).toNat 64 = 65536 := by decide
  have e2 : (2 : Int) ^ min (8 : Int).toNat 64 = 256 := by decide
  unfold n24
  rw [e1, e2]
  unfold w64
  rw [wrap64 (n := a) (by omega) (by omega), wrap64 (n := b) (by omega) (by omega), wrap64 (n := c) (by omega) (by omega), wrap64 (n := a * 65536) (by omega) (by omega), wrap64 (n := b * 256) (by omega) (by omega)]
  have h1 := or64_lt 24 (by decide) (a := a * 65536) (b := b * 256) (by omega) (by omega) (by omega) (by omega)
  exact or64_lt 24 (by decide) h1.1 h1.2 (by omega) (by omega)

/-- The four digits of a number. -/
def quad (n : Int) : List T := [.int .u8 (bAt alpha (n / 2 ^ min (18 : Int).toNat 64)), .int .u8 (bAt alpha (and64 (n / 2 ^ min (12 : Int).toNat 64) 63)), .int .u8 (bAt alpha (and64 (n / 2 ^ min (6 : Int).toNat 64) 63)), .int .u8 (bAt alpha (and64 n 63))]
theorem quad_u8 (n : Int) : IsU8 (quad n) := by
  intro e he
  simp [quad] at he
  rcases he with rfl | rfl | rfl | rfl <;> rfl
theorem n18_bound {n : Int} (h : 0 ≤ n ∧ n < 16777216) : 0 ≤ n / 2 ^ min (18 : Int).toNat 64 ∧ n / 2 ^ min (18 : Int).toNat 64 < 64 := by
  have e1 : (2 : Int) ^ min (18 : Int).toNat 64 = 262144 := by decide
  rw [e1]
  omega

/-- The text of the first 3k bytes. -/
def encN : Nat → ByteArray → List T
  | 0, _ => []
  | k + 1, s => quad (n24 (bAt s 0) (bAt s 1) (bAt s 2)) ++ encN k (s.extract 3 s.size)
theorem encN_length : ∀ (k : Nat) (s : ByteArray), (encN k s).length = 4 * k
  | 0, _ => rfl
  | k + 1, s => by simp [encN, encN_length k, quad]; omega

/-- The same, by places. -/
def encR : Nat → Nat → ByteArray → List T
  | 0, _, _ => []
  | k + 1, j, s => quad (n24 (bAt s ((3 * j : Nat) : Int)) (bAt s ((3 * j + 1 : Nat) : Int)) (bAt s ((3 * j + 2 : Nat) : Int))) ++ encR k (j + 1) s
def b64encR (s : ByteArray) : ByteArray × Int :=
  if 65536 < (s.size : Int) then (⟨#[]⟩, 3) else if (s.size : Int).tmod 3 ≠ 0 then (⟨#[]⟩, 8) else (strT (encR (s.size / 3) 0 s), 0)

def modF (n m : Int) : Int := if m < 1 then 0 else (w64 (n.tmod m + m)).tmod m

/-- A number's digits, the last i of them written. -/
def numT (n : Int) (d : Nat) : Nat → List T
  | 0 => List.replicate d (.int .u8 0)
  | i + 1 => (numT n d i).set (d - 1 - i) (.int .u8 (bAt alpha (and64 (n / 2 ^ min (6 * (i : Int)).toNat 64) 63)))
def numF (n d : Int) : ByteArray × Int :=
  if d < 1 ∨ 8 < d ∨ n < 0 ∨ n / 2 ^ min (6 * d).toNat 64 ≠ 0 then (⟨#[]⟩, 2) else (strT (numT n d.toNat d.toNat), 0)

theorem ba_cases (r : ByteArray) : r = ⟨#[]⟩ ∨ 0 < r.size := by
  by_cases h : r.size = 0
  · left
    obtain ⟨d⟩ := r
    have : d.size = 0 := h
    simp [Array.eq_empty_of_size_eq_zero this]
  · exact .inr (by omega)
theorem IsU8.append {xs ys : List T} (h1 : IsU8 xs) (h2 : IsU8 ys) : IsU8 (xs ++ ys) := fun e he => by
  rcases List.mem_append.1 he with h | h
  · exact h1 e h
  · exact h2 e h

def b64enc (s : ByteArray) : ByteArray × Int :=
  if 65536 < (s.size : Int) then (⟨#[]⟩, 3) else if (s.size : Int).tmod 3 ≠ 0 then (⟨#[]⟩, 8) else (strT (encN (s.size / 3) s), 0)
end Go.AL
/- What the kit's functions over dice and strings answer, on this seat. -/
set_option linter.unusedVariables false
namespace Go.AL
open Go Go.Proofs Go.RowKit


/-- Dice in memory. -/
def Dc.row (d : Dc) : Row := .var 113 [.t (.sl 1 (d.l.map (T.int .i64))), .t (.int .i64 d.k)]
theorem modI_tmod (n m : Int) (h : 1 ≤ m) : (n.tmod m + m).tmod m = modI n m ∧ 0 ≤ n.tmod m + m ∧ n.tmod m + m ≤ 2 * m := by
  have h1 : -m < n.tmod m ∧ n.tmod m < m := by
    have a := Int.tmod_lt_of_pos n (b := m) (by omega)
    have b := Int.lt_tmod_of_pos n (b := m) (by omega)
    exact ⟨b, a⟩
  refine ⟨?_, by omega, by omega⟩
  unfold modI
  rw [if_neg (by omega), Int.tmod_eq_emod_of_nonneg (by omega), Int.tmod_def, show n - m * n.tdiv m + m = n + m * (1 - n.tdiv m) by rw [Int.mul_sub]; omega, Int.add_mul_emod_self_left]
set_option maxHeartbeats 1000000 in
theorem Mod_spec (n m : Int) (h : m ≤ 4611686018427387903) : Spec Try.prog 14 [.t (.int .i64 n), .t (.int .i64 m)] [] (.t (.int .i64 (modI n m))) [] := by
  refine spec_intro (env0 := [(0, _), (1, _)]) (st0 := []) Try.func14 rfl rfl rfl rfl ?_
  repeat' (first | (with_reducible refine codeT_seq ?_) | (with_reducible refine codeT_skip ?_) | (with_reducible refine codeT_ret ?_) | (with_reducible refine codeT_regionL ?_) | (with_reducible refine lx_nil ?_) | (with_reducible refine q_then ?_) | (with_reducible refine q_then_ret ?_) | ((with_reducible refine g_move ?_); first | refine lx_move (r := (.t _)) rfl rfl rfl rfl rfl ?_) | ((with_reducible refine g_binOp ?_); first | refine lx_arith rfl rfl rfl rfl rfl rfl rfl ?_ | refine lx_rem rfl rfl rfl rfl rfl rfl ?_ ?_) | ((with_reducible refine g_assign ?_); first | refine lx_assign (r := (.t _)) rfl rfl rfl rfl rfl ?_) | refine c_condP rfl (fun hc => ?_) (fun hc => ?_))
  all_goals try omega
  · exact q_ret (resT_oneE rfl rfl (by unfold modI; rw [if_pos hc])) (by simp)
  · have e := modI_tmod n m (by omega)
    refine q_ret (resT_oneE rfl rfl ?_) (by simp)
    rw [wrap64 (by omega) (by omega), e.1]
/-- The string whose byte at a place is changed by so much. -/
def spoil (s : ByteArray) (at_ by_ : Int) : ByteArray :=
  if s = ⟨#[]⟩ then s else
  strT ((bytesT s).set (modI at_ s.size).toNat (.int .u8 (IntKind.u8.wrap (((s.data.toList.getD (modI at_ s.size).toNat default).toNat : Int) + IntKind.u8.wrap by_))))
end Go.AL
/- What base64.Encode and the forms of primitives answer, on this seat. -/
set_option linter.unusedVariables false
namespace Go.AL
open Go Go.Proofs Go.RowKit

set_option maxHeartbeats 2000000 in
theorem b64enc_spec (s : ByteArray) (hs : s.size ≤ 9223372036854775807) : Spec Try.prog 92 [.t (.str s)] [] (.tup [.t (.str (b64enc s).1), .t (.int .i64 (b64enc s).2)]) [] := by
  refine spec_intro (env0 := [(0, _)]) (st0 := []) Try.func92 rfl rfl rfl rfl ?_
  repeat' (first | (with_reducible refine codeT_seq ?_) | (with_reducible refine codeT_block ?_) | (with_reducible refine codeT_skip ?_) | (with_reducible refine codeT_ret ?_) | (with_reducible refine codeT_regionL ?_) | (with_reducible refine lx_nil ?_) | (with_reducible refine q_then ?_) | (with_reducible refine q_then_ret ?_) | (with_reducible refine q_block ?_) | (with_reducible refine q_block_ret ?_) | ((with_reducible refine g_move ?_); first | refine lx_move (r := (.t _)) rfl rfl rfl rfl rfl ?_) | ((with_reducible refine g_binOp ?_); first | refine lx_arith rfl rfl rfl rfl rfl rfl rfl ?_ | refine lx_quo rfl rfl rfl rfl rfl rfl (by decide) ?_ | refine lx_rem rfl rfl rfl rfl rfl rfl (by decide) ?_) | ((with_reducible refine g_assign ?_); first | refine lx_assign (r := (.t _)) rfl rfl rfl rfl rfl ?_ | refine lx_assign (r := (.row _)) rfl rfl rfl rfl rfl ?_) | ((with_reducible refine g_makeSlice ?_); first | refine lx_makeSlice (zT := .int _ _) rfl rfl rfl rfl rfl rfl rfl rfl rfl ?_ ?_ ?_ ?_ ?_) | ((with_reducible refine g_len ?_); first | refine lx_len_str rfl rfl rfl rfl rfl ?_) | refine c_condP rfl (fun hc => ?_) (fun hc => ?_) | refine c_condN rfl (fun hc => ?_) (fun hc => ?_))
  case' refine_1 =>
    refine q_ret (resT_twoE rfl rfl rfl ?_ ?_) (by simp) <;> simp [b64enc, hc]
  case' refine_2.refine_2 =>
    refine q_ret (resT_twoE rfl rfl rfl ?_ ?_) (by simp) <;> simp [b64enc, *]
  all_goals
    have q1 : (s.size : Int).tdiv 3 = ((s.size / 3 : Nat) : Int) := rfl
    have q3 : (s.size : Int).tmod 3 = ((s.size % 3 : Nat) : Int) := rfl
    rw [q3] at hc
    have q0 : 3 * (s.size / 3) = s.size := by omega
    have q2 : IntKind.i64.wrap (IntKind.i64.wrap ((s.size : Int).tdiv 3) * 4) = (4 * (s.size / 3) : Nat) := by
      rw [q1, wrap64 (n := ((s.size / 3 : Nat) : Int)) (by omega) (by omega), wrap64 (by omega) (by omega)]
      omega
  case' refine_2.refine_1.refine_1 => decide
  case' refine_2.refine_1.refine_2 => omega
  case' refine_2.refine_1.refine_3 => omega
  case' refine_2.refine_1.refine_4 => omega
  refine codeT_ghost (ghost_keep2 [0, 2, 3, 4] [.loc 19] rfl rfl) ?_
  refine codeT_loop (fun n env st => ∃ (k : Nat) (r : ByteArray) (es : List T), r.size = 3 * k ∧ n = k ∧ IsU8 es ∧ es.length + 4 * k = 4 * (s.size / 3) ∧ es ++ encN k r = encN (s.size / 3) s ∧
      env = EnvL.get [(0, .t (.str r)), (2, .t (.str ⟨#[]⟩)), (3, .t (.int .i64 0)), (4, .row (.loc 19))] ∧ st = StO.get [(.loc 19, some (.slt 5 1 es))]) ?_ (n := s.size / 3) ⟨s.size / 3, s, _, by omega, rfl, ?_, ?_, ?_, rfl, rfl⟩
  · rintro n env st ⟨k, r, es, hr, rfl, hu, hl, he, rfl, rfl⟩
    have hz := ba_cases r
    repeat' (first | (with_reducible refine codeT_seq ?_) | (with_reducible refine codeT_block ?_) | (with_reducible refine codeT_skip ?_) | (with_reducible refine codeT_ret ?_) | (with_reducible refine codeT_exit ?_) | (with_reducible refine codeT_regionL ?_) | ((with_reducible refine codeT_region_drawL ?_ ?_); · rfl) | (with_reducible refine lx_nil ?_) | (with_reducible refine q_then ?_) | (with_reducible refine q_then_exit ?_) | (with_reducible refine q_block ?_) | ((with_reducible refine q_block_same ?_ ?_); · rfl) | (with_reducible refine q_loop_exit ?_) | ((with_reducible refine q_region_draw ?_ ?_); · rfl) | ((with_reducible refine g_move ?_); first | refine lx_move (r := (.t _)) rfl rfl rfl rfl rfl ?_ | refine lx_move (r := (.row _)) rfl rfl rfl rfl rfl ?_) | ((with_reducible refine g_binOp ?_); first | refine lx_arith rfl rfl rfl rfl rfl rfl rfl ?_ | refine lx_str_ne rfl rfl rfl rfl rfl rfl ?_ | refine lx_shl rfl rfl rfl rfl rfl rfl (by decide) ?_ | refine lx_shr rfl rfl rfl rfl rfl rfl (by decide) ?_) | ((with_reducible refine g_assign ?_); first | refine lx_assign (r := (.t _)) rfl rfl rfl rfl rfl ?_ | refine lx_assign (r := (.row _)) rfl rfl rfl rfl rfl ?_) | ((with_reducible refine g_index ?_); first | refine lx_index_str rfl rfl rfl rfl rfl rfl ?_ ?_ ?_) | ((with_reducible refine g_convert ?_); first | refine lx_conv_int rfl rfl rfl rfl rfl ?_ | refine lx_ofBytes_row rfl rfl rfl rfl rfl rfl ?_ ?_) | ((with_reducible refine g_slice ?_); first | refine lx_slice_str rfl rfl ⟨_, rfl⟩ rfl rfl rfl rfl ?_ ?_ ?_ ?_) | ((with_reducible refine g_buildSlice ?_); first | refine lx_buildSlice rfl rfl rfl rfl rfl rfl rfl ?_) | ((with_reducible refine g_append ?_); first | refine lx_append_row rfl rfl rfl rfl rfl rfl rfl rfl rfl rfl ?_ ?_ ?_) | refine c_condN rfl (fun hc => ?_) (fun hc => ?_))
    all_goals try have hp := hz.resolve_left hc
    all_goals try first | omega | exact hu | exact (n18_bound (n24_bound (bAt_le _ _) (bAt_le _ _) (bAt_le _ _))).1 | exact (n18_bound (n24_bound (bAt_le _ _) (bAt_le _ _) (bAt_le _ _))).2 | exact (and64_63 _).1 | exact (and64_63 _).2 | (simp only [List.length_cons, List.length_nil]; omega)
    · subst hc
      have hn : n = 0 := by
        have : 0 = 3 * n := hr
        omega
      subst hn
      simp [encN] at he
      subst he
      refine q_ret (resT_twoE rfl rfl rfl ?_ ?_) (by simp) <;> simp [b64enc, *]
    · obtain ⟨m, rfl⟩ : ∃ m, n = m + 1 := ⟨n - 1, by omega⟩
      refine q_loop (n' := m) (by omega) ((ghost_keep2 [0, 2, 3, 4] [.loc 53] rfl rfl).trans (ghost_renL2 (.loc 53) (.loc 19) rfl rfl rfl rfl)) ⟨m, _, _, ?_, rfl, ?_, ?_, ?_, rfl, rfl⟩
      · simp [ByteArray.size_extract]; omega
      · exact hu.append (quad_u8 _)
      · simp; omega
      · rw [List.append_assoc]; exact he
  · intro e he; simp at he
  · simp
  · simp
def frm (k : Int) (s : ByteArray) (n : Int) : T × T := (.int .i64 k, .agg [.str s, .int .i64 n])
def formT : List (T × T) := [frm 1 ⟨#[69]⟩ 32, frm 2 ⟨#[68]⟩ 32, frm 3 ⟨#[66]⟩ 32, frm 4 ⟨#[65]⟩ 32, frm 5 ⟨#[48, 65]⟩ 16, frm 6 ⟨#[77]⟩ 2, frm 7 ⟨#[83]⟩ 626, frm 8 ⟨#[49, 65, 65, 76]⟩ 6]
set_option maxHeartbeats 2000000 in
theorem forms_spec : Spec Try.prog 59 [] [] (.row (.res 0)) [(.res 0, .dat (.map formT))] := by
  refine spec_introG (env0 := []) (st0 := []) Try.func59 rfl rfl rfl rfl ?_
  repeat' (first | (with_reducible refine codeT_seq ?_) | (with_reducible refine codeT_ret ?_) | (with_reducible refine codeT_regionL ?_) | (with_reducible refine lx_nil ?_) | (with_reducible refine q_then ?_) | ((with_reducible refine g_move ?_); first | refine lx_move (r := (.row _)) rfl rfl rfl rfl rfl ?_) | ((with_reducible refine g_assign ?_); first | refine lx_assign (r := (.row _)) rfl rfl rfl rfl rfl ?_ | refine lx_assign (r := .junk) rfl rfl rfl rfl rfl ?_) | ((with_reducible refine g_build ?_); first | refine lx_build (r := (.t (.agg _))) rfl rfl rfl rfl rfl rfl rfl ?_) | ((with_reducible refine g_makeMap ?_); first | refine lx_makeMap rfl rfl rfl rfl rfl ?_) | ((with_reducible refine g_insert ?_); first | refine lx_insert rfl rfl rfl rfl rfl rfl rfl rfl ?_ ?_))
  all_goals try rfl
  refine q_ghost (ghost_keep2 [0] [.loc 1] rfl rfl) ?_
  refine q_ghost (ghost_renL2 (.loc 1) (.res 0) rfl rfl rfl rfl) ?_
  exact q_done (q_ret (resT_one rfl (AVLE.of_eq rfl)) (stHas_spec ⟨rfl, trivial⟩))
end Go.AL
/- What Code, Raw, Size of primitives answer. -/
set_option linter.unusedVariables false
namespace Go.AL
open Go Go.Proofs Go.RowKit

def codS (x : Int) : ByteArray := if x = 1 then ⟨#[69]⟩ else if x = 2 then ⟨#[68]⟩ else if x = 3 then ⟨#[66]⟩ else if x = 4 then ⟨#[65]⟩ else if x = 5 then ⟨#[48, 65]⟩ else if x = 6 then ⟨#[77]⟩ else if x = 7 then ⟨#[83]⟩ else if x = 8 then ⟨#[49, 65, 65, 76]⟩ else ⟨#[]⟩
def rawS (x : Int) : Int := if x = 1 then 32 else if x = 2 then 32 else if x = 3 then 32 else if x = 4 then 32 else if x = 5 then 16 else if x = 6 then 2 else if x = 7 then 626 else if x = 8 then 6 else 0
theorem to9 {x : Int} (h0 : 0 ≤ x) (h1 : x ≤ 9) : x = 0 ∨ x = 1 ∨ x = 2 ∨ x = 3 ∨ x = 4 ∨ x = 5 ∨ x = 6 ∨ x = 7 ∨ x = 8 ∨ x = 9 := by omega
set_option maxHeartbeats 2000000 in
theorem lead_spec (c : ByteArray) (n : Int) (h0 : 0 ≤ n) (h1 : n ≤ 1000) : Spec Try.prog 91 [.t (.agg [.str c, .int .i64 n])] [] (.t (.int .i64 ((3 - n % 3) % 3))) [] := by
  have e1 : n.tmod 3 = n % 3 := Int.tmod_eq_emod_of_nonneg h0
  have e2 : (3 - n % 3).tmod 3 = (3 - n % 3) % 3 := Int.tmod_eq_emod_of_nonneg (by omega)
  have w1 : IntKind.i64.wrap (3 - n % 3) = 3 - n % 3 := wrap64 (by omega) (by omega)
  refine spec_intro (env0 := [(0, _)]) (st0 := []) Try.func91 rfl rfl rfl rfl ?_
  repeat' (first | (with_reducible refine codeT_seq ?_) | (with_reducible refine codeT_ret ?_) | (with_reducible refine codeT_regionL ?_) | (with_reducible refine lx_nil ?_) | (with_reducible refine q_then ?_) | ((with_reducible refine g_load ?_); first | refine lx_load_var rfl rfl rfl rfl rfl rfl rfl rfl ?_) | ((with_reducible refine g_fieldAddr ?_); first | refine lx_fieldAddr rfl rfl rfl rfl rfl rfl rfl ?_) | ((with_reducible refine g_binOp ?_); first | refine lx_arith rfl rfl rfl rfl rfl rfl rfl ?_ | refine lx_rem rfl rfl rfl rfl rfl rfl (by decide) ?_) | ((with_reducible refine g_assign ?_); first | refine lx_assign (r := (.t _)) rfl rfl rfl rfl rfl ?_) | ((with_reducible refine g_box ?_); first | refine lx_box (r := (.t (.agg _))) (cs := (List.map .t _)) rfl rfl rfl rfl rfl rfl rfl rfl rfl ?_))
  refine q_ret (resT_oneE rfl rfl ?_) (by simp)
  rw [e1, w1, e2]
theorem zform (h : Heap) : RepT h (.agg #[.string ⟨#[]⟩, .int .i64 0]) (.agg [.str ⟨#[]⟩, .int .i64 0]) := ⟨_, rfl, rfl, ⟨_, rfl, rfl, rfl⟩, ⟨_, rfl, rfl, rfl⟩, trivial⟩
set_option maxHeartbeats 4000000 in
theorem Raw_spec (x : Int) (h0 : 0 ≤ x) (h1 : x ≤ 9) : Spec Try.prog 16 [.t (.int .i64 x)] [] (.t (.int .i64 (rawS x))) [] := by
  have hF := forms_spec
  unfold formT frm at hF
  rcases to9 h0 h1 with rfl | rfl | rfl | rfl | rfl | rfl | rfl | rfl | rfl | rfl
  all_goals
    refine spec_intro (env0 := [(0, _)]) (st0 := []) Try.func16 rfl rfl rfl rfl ?_
    repeat' (first | (with_reducible refine codeT_seq ?_) | (with_reducible refine codeT_ret ?_) | (with_reducible refine codeT_regionL ?_) | (with_reducible refine lx_nil ?_) | (with_reducible refine q_then ?_) | refine lx_lookup (zT := .agg [.str ⟨#[]⟩, .int .i64 0]) rfl rfl rfl zform rfl rfl rfl rfl rfl rfl ?_ | ((with_reducible refine g_move ?_); first | refine lx_move (r := (.t _)) rfl rfl rfl rfl rfl ?_) | ((with_reducible refine g_assign ?_); first | refine lx_assign (r := (.t _)) rfl rfl rfl rfl rfl ?_) | ((with_reducible refine g_field ?_); first | refine lx_field (r := (.t (.agg _))) rfl rfl rfl rfl rfl rfl rfl rfl rfl ?_) | ((with_reducible refine g_call ?_); first | refine lx_call (r' := .row (.loc 900)) [(.res 0, .loc 900)] rfl rfl hF (ArgsLE.refl _) rfl trivial rfl rfl rfl rfl rfl rfl rfl rfl rfl rfl ?_))
    exact q_ret (resT_oneE rfl rfl rfl) (by simp)
def okB (x : Int) : Bool := decide (1 ≤ x ∧ x ≤ 8)
set_option maxHeartbeats 4000000 in
theorem Code_spec (x : Int) (h0 : 0 ≤ x) (h1 : x ≤ 9) : Spec Try.prog 15 [.t (.int .i64 x)] [] (.tup [.t (.str (codS x)), .t (.bool (okB x))]) [] := by
  have hF := forms_spec
  unfold formT frm at hF
  rcases to9 h0 h1 with rfl | rfl | rfl | rfl | rfl | rfl | rfl | rfl | rfl | rfl
  all_goals
    refine spec_intro (env0 := [(0, _)]) (st0 := []) Try.func15 rfl rfl rfl rfl ?_
    repeat' (first | (with_reducible refine codeT_seq ?_) | (with_reducible refine codeT_ret ?_) | (with_reducible refine codeT_regionL ?_) | (with_reducible refine lx_nil ?_) | (with_reducible refine q_then ?_) | refine lx_lookup_ok (zT := .agg [.str ⟨#[]⟩, .int .i64 0]) rfl rfl rfl zform rfl rfl rfl rfl rfl rfl ?_ | ((with_reducible refine g_move ?_); first | refine lx_move (r := (.t _)) rfl rfl rfl rfl rfl ?_ | refine lx_move (r := (.tup _)) rfl rfl rfl rfl rfl ?_) | ((with_reducible refine g_load ?_); first | refine lx_load_var rfl rfl rfl rfl rfl rfl rfl rfl ?_) | ((with_reducible refine g_fieldAddr ?_); first | refine lx_fieldAddr rfl rfl rfl rfl rfl rfl rfl ?_) | ((with_reducible refine g_assign ?_); first | refine lx_assign (r := (.t _)) rfl rfl rfl rfl rfl ?_) | ((with_reducible refine g_alloc ?_); first | refine lx_alloc rfl rfl rfl rfl rfl rfl rfl ?_) | ((with_reducible refine g_store ?_); first | refine lx_store_var (r := (.t (.agg _))) rfl rfl rfl rfl rfl rfl rfl rfl rfl rfl ?_) | ((with_reducible refine g_extract ?_); first | refine lx_extract rfl rfl rfl rfl rfl rfl ?_) | ((with_reducible refine g_call ?_); first | refine lx_call (r' := .row (.loc 900)) [(.res 0, .loc 900)] rfl rfl hF (ArgsLE.refl _) rfl trivial rfl rfl rfl rfl rfl rfl rfl rfl rfl rfl ?_))
    exact q_ret (resT_twoE rfl rfl rfl rfl rfl) (by simp)
def ldS (n : Int) : Int := (3 - n % 3) % 3
def szF (c : ByteArray) (n : Int) : Int := (c.size : Int) + (n + ldS n) / 3 * 4 - ldS n
set_option maxHeartbeats 4000000 in
theorem size_spec (c : ByteArray) (n : Int) (hc : c.size ≤ 10) (h0 : 0 ≤ n) (h1 : n ≤ 1000) : Spec Try.prog 60 [.t (.agg [.str c, .int .i64 n])] [] (.t (.int .i64 (szF c n))) [] := by
  have hL := lead_spec c n h0 h1
  rw [show (3 - n % 3) % 3 = ldS n from rfl] at hL
  have hl : 0 ≤ ldS n ∧ ldS n ≤ 2 := by unfold ldS; omega
  unfold szF
  generalize ldS n = d at hL hl ⊢
  have w1 : IntKind.i64.wrap (n + d) = n + d := wrap64 (by omega) (by omega)
  have e1 : (n + d).tdiv 3 = (n + d) / 3 := Int.tdiv_eq_ediv_of_nonneg (by omega)
  have w0 : IntKind.i64.wrap ((n + d) / 3) = (n + d) / 3 := wrap64 (by omega) (by omega)
  have w2 : IntKind.i64.wrap ((n + d) / 3 * 4) = (n + d) / 3 * 4 := wrap64 (by omega) (by omega)
  have w3 : IntKind.i64.wrap ((c.size : Int) + (n + d) / 3 * 4) = (c.size : Int) + (n + d) / 3 * 4 := wrap64 (by omega) (by omega)
  have w4 : IntKind.i64.wrap ((c.size : Int) + (n + d) / 3 * 4 - d) = (c.size : Int) + (n + d) / 3 * 4 - d := wrap64 (by omega) (by omega)
  refine spec_intro (env0 := [(0, _)]) (st0 := []) Try.func60 rfl rfl rfl rfl ?_
  repeat' (first | (with_reducible refine codeT_seq ?_) | (with_reducible refine codeT_ret ?_) | (with_reducible refine codeT_regionL ?_) | ((with_reducible refine codeT_region_drawL ?_ ?_); · rfl) | (with_reducible refine lx_nil ?_) | (with_reducible refine q_then ?_) | ((with_reducible refine q_region_draw ?_ ?_); · rfl) | ((with_reducible refine g_load ?_); first | refine lx_load_var rfl rfl rfl rfl rfl rfl rfl rfl ?_ | refine lx_load_varA (r := (.t (.agg _))) rfl rfl rfl rfl rfl rfl rfl rfl rfl ?_) | ((with_reducible refine g_fieldAddr ?_); first | refine lx_fieldAddr rfl rfl rfl rfl rfl rfl rfl ?_) | ((with_reducible refine g_binOp ?_); first | refine lx_arith rfl rfl rfl rfl rfl rfl rfl ?_ | refine lx_quo rfl rfl rfl rfl rfl rfl (by decide) ?_) | ((with_reducible refine g_assign ?_); first | refine lx_assign (r := (.t _)) rfl rfl rfl rfl rfl ?_) | ((with_reducible refine g_box ?_); first | refine lx_box (r := (.t (.agg _))) (cs := (List.map .t _)) rfl rfl rfl rfl rfl rfl rfl rfl rfl ?_) | ((with_reducible refine g_len ?_); first | refine lx_len_str rfl rfl rfl rfl rfl ?_) | ((with_reducible refine g_call ?_); first | refine lx_callT rfl rfl hL rfl rfl (ArgsLE.refl _) rfl rfl rfl rfl rfl ?_))
  refine q_ret (resT_oneE rfl rfl ?_) (by simp)
  simp only [w1, e1, w0, w2, w3, w4]
def sizS (x : Int) : Int := if okB x = true then szF (codS x) (rawS x) else 0
theorem codS_size (x : Int) : (codS x).size ≤ 4 := by unfold codS; (repeat' split) <;> decide
theorem rawS_range (x : Int) : 0 ≤ rawS x ∧ rawS x ≤ 626 := by unfold rawS; (repeat' split) <;> decide
set_option maxHeartbeats 8000000 in
theorem Size_spec (x : Int) (h0 : 0 ≤ x) (h1 : x ≤ 9) : Spec Try.prog 17 [.t (.int .i64 x)] [] (.t (.int .i64 (sizS x))) [] := by
  have hF := forms_spec
  unfold formT frm at hF
  have hZ := size_spec (codS x) (rawS x) (by have := codS_size x; omega) (rawS_range x).1 (by have := rawS_range x; omega)
  have hq : okB x = true → szF (codS x) (rawS x) = sizS x := fun h => by unfold sizS; rw [if_pos h]
  generalize szF (codS x) (rawS x) = z at hZ hq
  rcases to9 h0 h1 with rfl | rfl | rfl | rfl | rfl | rfl | rfl | rfl | rfl | rfl
  all_goals
    refine spec_intro (env0 := [(0, _)]) (st0 := []) Try.func17 rfl rfl rfl rfl ?_
    repeat' (first | (with_reducible refine codeT_seq ?_) | (with_reducible refine codeT_skip ?_) | (with_reducible refine codeT_ret ?_) | (with_reducible refine codeT_regionL ?_) | (with_reducible refine lx_nil ?_) | (with_reducible refine q_then ?_) | (with_reducible refine q_then_ret ?_) | refine c_condT rfl ?_ | refine c_condF rfl ?_ | refine lx_lookup_ok (zT := .agg [.str ⟨#[]⟩, .int .i64 0]) rfl rfl rfl zform rfl rfl rfl rfl rfl rfl ?_ | ((with_reducible refine g_move ?_); first | refine lx_move (r := (.t _)) rfl rfl rfl rfl rfl ?_ | refine lx_move (r := (.tup _)) rfl rfl rfl rfl rfl ?_) | ((with_reducible refine g_load ?_); first | refine lx_load_varA (r := (.t (.agg _))) rfl rfl rfl rfl rfl rfl rfl rfl rfl ?_) | ((with_reducible refine g_assign ?_); first | refine lx_assign (r := (.t _)) rfl rfl rfl rfl rfl ?_) | ((with_reducible refine g_alloc ?_); first | refine lx_alloc rfl rfl rfl rfl rfl rfl rfl ?_) | ((with_reducible refine g_store ?_); first | refine lx_store_var (r := (.t (.agg _))) rfl rfl rfl rfl rfl rfl rfl rfl rfl rfl ?_) | ((with_reducible refine g_unOp ?_); first | refine lx_not rfl rfl rfl rfl rfl ?_) | ((with_reducible refine g_extract ?_); first | refine lx_extract rfl rfl rfl rfl rfl rfl ?_) | ((with_reducible refine g_call ?_); first | refine lx_call (r' := .row (.loc 900)) [(.res 0, .loc 900)] rfl rfl hF (ArgsLE.refl _) rfl trivial rfl rfl rfl rfl rfl rfl rfl rfl rfl rfl ?_ | refine lx_callT rfl rfl hZ rfl rfl (ArgsLE.refl _) rfl rfl rfl rfl rfl ?_))
    all_goals try (exact q_ret (resT_oneE rfl rfl rfl) (by simp))
    all_goals exact q_ret (resT_oneE rfl rfl (congrArg (T.int .i64) (hq rfl))) (by simp)
end Go.AL
/- What Encode and Make of primitives answer, for a value of the size that its code asks. -/
set_option linter.unusedVariables false
namespace Go.AL
open Go Go.Proofs Go.RowKit

def zerS (c : Nat) : ByteArray := ⟨(Lib.repeatL (⟨#[0]⟩ : ByteArray).data.toList c).toArray⟩
theorem zerS_size (c : Nat) : (zerS c).size = c := by
  unfold zerS
  have : ∀ c, (Lib.repeatL ([0] : List UInt8) c).length = c := fun c => by
    induction c with
    | zero => rfl
    | succ c ih => simp only [Lib.repeatL, List.length_append, ih, List.length_singleton]; omega
  rw [ByteArray.size, List.size_toArray]
  exact this c
/-- The text of a value. -/
def encS (x : Int) (r : ByteArray) : ByteArray := codS x ++ (b64enc (zerS (ldS (rawS x)).toNat ++ r)).1.extract (ldS (rawS x)).toNat (b64enc (zerS (ldS (rawS x)).toNat ++ r)).1.size
theorem ldS_range (n : Int) : 0 ≤ ldS n ∧ ldS n ≤ 2 := by unfold ldS; omega
theorem b64_ok (s : ByteArray) (hs : s.size ≤ 65536) (h3 : s.size % 3 = 0) : (b64enc s).2 = 0 ∧ (b64enc s).1.size = 4 * (s.size / 3) := by
  have q3 : (s.size : Int).tmod 3 = ((s.size % 3 : Nat) : Int) := rfl
  unfold b64enc
  rw [if_neg (by omega), if_neg (by rw [q3, h3]; simp)]
  refine ⟨rfl, ?_⟩
  show (strT (encN (s.size / 3) s)).size = _
  unfold strT
  rw [strOfNums_size, List.length_map, encN_length]
set_option maxHeartbeats 8000000 in
theorem Encode_spec (x : Int) (h0 : 1 ≤ x) (h1 : x ≤ 8) (r : ByteArray) (hr : (r.size : Int) = rawS x) : Spec Try.prog 61 [.t (.agg [.int .i64 x, .str r])] [] (.tup [.t (.str (encS x r)), .t (.int .i64 0)]) [] := by
  have hF := forms_spec
  unfold formT frm at hF
  have hrr := rawS_range x
  have hL := lead_spec (codS x) (rawS x) hrr.1 (by omega)
  rw [show (3 - rawS x % 3) % 3 = ldS (rawS x) from rfl] at hL
  have hl := ldS_range (rawS x)
  have hl3 : (ldS (rawS x) + rawS x) % 3 = 0 := by unfold ldS; omega
  unfold encS
  have hcs := codS_size x
  obtain ⟨d, hd⟩ : ∃ d : Nat, ldS (rawS x) = d := ⟨(ldS (rawS x)).toNat, by omega⟩
  rw [hd] at hL hl hl3 ⊢
  rw [Int.toNat_natCast]
  have hR := Repeat_spec ⟨#[0]⟩ d (by omega) (by show 1 * d ≤ _; omega)
  rw [show (⟨(Lib.repeatL (⟨#[0]⟩ : ByteArray).data.toList d).toArray⟩ : ByteArray) = zerS d from rfl] at hR
  have hzz := zerS_size d
  generalize zerS d = Z at hR hzz ⊢
  have hzs : (Z ++ r).size = d + r.size := by rw [ByteArray.size_append, hzz]
  have hB := b64enc_spec (Z ++ r) (by omega)
  obtain ⟨b1, b2⟩ := b64_ok (Z ++ r) (by omega) (by omega)
  rw [b1] at hB
  generalize (b64enc (Z ++ r)).1 = E at hB b2 ⊢
  have hEx : ∀ a b, (E.extract a b).size ≤ 100000 := fun a b => by rw [ByteArray.size_extract]; omega
  rcases to9 (by omega : 0 ≤ x) (by omega) with rfl | rfl | rfl | rfl | rfl | rfl | rfl | rfl | rfl | rfl
  · omega
  all_goals try (exfalso; omega)
  all_goals
    have hr' : (r.size : Int) = _ := hr
    refine spec_intro (env0 := [(0, _)]) (st0 := []) Try.func61 rfl rfl rfl rfl ?_
    repeat' (first | (with_reducible refine codeT_seq ?_) | (with_reducible refine codeT_block ?_) | (with_reducible refine codeT_skip ?_) | (with_reducible refine codeT_ret ?_) | (with_reducible refine codeT_regionL ?_) | ((with_reducible refine codeT_region_drawL ?_ ?_); · rfl) | (with_reducible refine lx_nil ?_) | (with_reducible refine q_then ?_) | (with_reducible refine q_then_ret ?_) | (with_reducible refine q_block ?_) | (with_reducible refine q_block_ret ?_) | ((with_reducible refine q_region_draw ?_ ?_); · rfl) | refine c_condF rfl ?_ | refine lx_lookup_ok (zT := .agg [.str ⟨#[]⟩, .int .i64 0]) rfl rfl rfl zform rfl rfl rfl rfl rfl rfl ?_ | ((with_reducible refine g_move ?_); first | refine lx_move (r := (.t _)) rfl rfl rfl rfl rfl ?_ | refine lx_move (r := (.tup _)) rfl rfl rfl rfl rfl ?_) | ((with_reducible refine g_load ?_); first | refine lx_load_var rfl rfl rfl rfl rfl rfl rfl rfl ?_ | refine lx_load_varA (r := (.t (.agg _))) rfl rfl rfl rfl rfl rfl rfl rfl rfl ?_) | ((with_reducible refine g_fieldAddr ?_); first | refine lx_fieldAddr rfl rfl rfl rfl rfl rfl rfl ?_) | ((with_reducible refine g_binOp ?_); first | refine lx_arith rfl rfl rfl rfl rfl rfl rfl ?_ | refine lx_concat rfl rfl rfl rfl rfl rfl ?_ ?_) | ((with_reducible refine g_assign ?_); first | refine lx_assign (r := (.t _)) rfl rfl rfl rfl rfl ?_) | ((with_reducible refine g_box ?_); first | refine lx_box (r := (.t (.agg _))) (cs := (List.map .t _)) rfl rfl rfl rfl rfl rfl rfl rfl rfl ?_) | ((with_reducible refine g_alloc ?_); first | refine lx_alloc rfl rfl rfl rfl rfl rfl rfl ?_) | ((with_reducible refine g_store ?_); first | refine lx_store_var (r := (.t (.agg _))) rfl rfl rfl rfl rfl rfl rfl rfl rfl rfl ?_) | ((with_reducible refine g_unOp ?_); first | refine lx_not rfl rfl rfl rfl rfl ?_) | ((with_reducible refine g_extract ?_); first | refine lx_extract rfl rfl rfl rfl rfl rfl ?_) | ((with_reducible refine g_slice ?_); first | refine lx_slice_str rfl rfl ⟨_, rfl⟩ rfl rfl rfl rfl ?_ ?_ ?_ ?_) | ((with_reducible refine g_len ?_); first | refine lx_len_str rfl rfl rfl rfl rfl ?_) | ((with_reducible refine g_call ?_); first | refine lx_call (r' := .row (.loc 900)) [(.res 0, .loc 900)] rfl rfl hF (ArgsLE.refl _) rfl trivial rfl rfl rfl rfl rfl rfl rfl rfl rfl rfl ?_ | refine lx_callT rfl rfl hL rfl rfl (ArgsLE.refl _) rfl rfl rfl rfl rfl ?_ | refine lx_callT rfl rfl hR rfl rfl (ArgsLE.refl _) rfl rfl rfl rfl rfl ?_ | refine lx_callT rfl rfl hB rfl rfl (ArgsLE.refl _) rfl rfl rfl rfl rfl ?_) | refine c_condN rfl (fun hc => ?_) (fun hc => ?_))
    all_goals try omega
    all_goals try (exact absurd hr hc)
    · exact Nat.le_trans (Nat.add_le_add hcs (hEx _ _)) (by decide)
    · exact q_ret (resT_twoE rfl rfl rfl rfl rfl) (by simp)
end Go.AL
/- That the law PrimitiveSizes is true, as a contract. -/
set_option linter.unusedVariables false
namespace Go.AL
open Go Go.Proofs Go.RowKit

theorem Make_spec (x : Int) (h0 : 1 ≤ x) (h1 : x ≤ 8) (r : ByteArray) (hr : (r.size : Int) = rawS x) : Spec Try.prog 18 [.t (.int .i64 x), .t (.str r)] [] (.t (.str (encS x r))) [] := by
  have hE := Encode_spec x h0 h1 r hr
  generalize encS x r = Y at hE ⊢
  refine spec_intro (env0 := [(0, _), (1, _)]) (st0 := []) Try.func18 rfl rfl rfl rfl ?_
  repeat' (first | (with_reducible refine codeT_seq ?_) | (with_reducible refine codeT_ret ?_) | (with_reducible refine codeT_regionL ?_) | (with_reducible refine lx_nil ?_) | (with_reducible refine q_then ?_) | ((with_reducible refine g_move ?_); first | refine lx_move (r := (.t _)) rfl rfl rfl rfl rfl ?_ | refine lx_move (r := (.tup _)) rfl rfl rfl rfl rfl ?_) | ((with_reducible refine g_assign ?_); first | refine lx_assign (r := (.t _)) rfl rfl rfl rfl rfl ?_) | ((with_reducible refine g_extract ?_); first | refine lx_extract rfl rfl rfl rfl rfl rfl ?_) | ((with_reducible refine g_build ?_); first | refine lx_build (r := (.t (.agg _))) rfl rfl rfl rfl rfl rfl rfl ?_) | ((with_reducible refine g_call ?_); first | refine lx_callT rfl rfl hE rfl rfl (ArgsLE.refl _) rfl rfl rfl rfl rfl ?_))
  exact q_ret (resT_oneE rfl rfl rfl) (by simp)
theorem encS_size (x : Int) (h0 : 1 ≤ x) (h1 : x ≤ 8) (r : ByteArray) (hr : (r.size : Int) = rawS x) : ((encS x r).size : Int) = sizS x := by
  have hl := ldS_range (rawS x)
  have hrr := rawS_range x
  have hl3 : (ldS (rawS x) + rawS x) % 3 = 0 := by unfold ldS; omega
  have hzz := zerS_size (ldS (rawS x)).toNat
  have hok : okB x = true := decide_eq_true ⟨h0, h1⟩
  unfold encS sizS szF
  rw [if_pos hok]
  generalize ldS (rawS x) = d at *
  generalize zerS d.toNat = Z at *
  have hzs : (Z ++ r).size = d.toNat + r.size := by rw [ByteArray.size_append, hzz]
  obtain ⟨b1, b2⟩ := b64_ok (Z ++ r) (by omega) (by omega)
  generalize (b64enc (Z ++ r)).1 = E at *
  rw [ByteArray.size_append, ByteArray.size_extract]
  omega
def nul (n : Nat) : List T := List.replicate n (T.int .u8 0)
theorem nul_u8 (n : Nat) : IsU8 (nul n) := fun e he => by rw [List.eq_of_mem_replicate he]; rfl
theorem nul_size (n : Nat) : (strT (nul n)).size = n := by rw [show (strT (nul n)).size = (nul n).length by unfold strT; rw [strOfNums_size, List.length_map]]; simp [nul]
theorem enc_ex : encS 1 (strT (nul 32)) = ⟨#[69, 65, 65, 65, 65, 65, 65, 65, 65, 65, 65, 65, 65, 65, 65, 65, 65, 65, 65, 65, 65, 65, 65, 65, 65, 65, 65, 65, 65, 65, 65, 65, 65, 65, 65, 65, 65, 65, 65, 65, 65, 65, 65, 65]⟩ := by decide +kernel
set_option maxHeartbeats 2000000 in
theorem awake03_spec : Spec Try.prog 19 [] [] (.t (.bool true)) [] := by
  have hM := Make_spec 1 (by decide) (by decide) (strT (nul 32)) (by rw [nul_size]; rfl)
  have hz := encS_size 1 (by decide) (by decide) (strT (nul 32)) (by rw [nul_size]; rfl)
  rw [show sizS 1 = 44 by decide] at hz
  have he := enc_ex
  generalize encS 1 (strT (nul 32)) = Y at hM hz he
  unfold nul at hM
  have hu := nul_u8 32
  unfold nul at hu
  refine spec_intro (env0 := []) (st0 := []) Try.func19 rfl rfl rfl rfl ?_
  repeat' (first | (with_reducible refine codeT_seq ?_) | (with_reducible refine codeT_ret ?_) | (with_reducible refine codeT_regionL ?_) | (with_reducible refine lx_nil ?_) | (with_reducible refine q_then ?_) | ((with_reducible refine g_guard ?_); first | refine lx_skip rfl rfl rfl ?_) | ((with_reducible refine g_move ?_); first | refine lx_move (r := (.t _)) rfl rfl rfl rfl rfl ?_) | ((with_reducible refine g_binOp ?_); first | refine lx_arith rfl rfl rfl rfl rfl rfl rfl ?_ | refine lx_str_eq rfl rfl rfl rfl rfl rfl ?_) | ((with_reducible refine g_assign ?_); first | refine lx_assign (r := (.t _)) rfl rfl rfl rfl rfl ?_) | ((with_reducible refine g_pick ?_); first | refine lx_pickT (r := (.t _)) rfl rfl rfl rfl rfl rfl ?_ | refine lx_pickF (r := (.t _)) rfl rfl rfl rfl rfl rfl ?_) | ((with_reducible refine g_convert ?_); first | refine lx_ofBytes_row rfl rfl rfl rfl rfl rfl ?_ ?_) | ((with_reducible refine g_makeSlice ?_); first | refine lx_makeSlice (zT := .int _ _) rfl rfl rfl rfl rfl rfl rfl rfl rfl ?_ ?_ ?_ ?_ ?_) | ((with_reducible refine g_len ?_); first | refine lx_len_str rfl rfl rfl rfl rfl ?_) | ((with_reducible refine g_call ?_); first | refine lx_callT rfl rfl hM rfl rfl (ArgsLE.refl _) rfl rfl rfl rfl rfl ?_) | refine lx_splitP rfl (fun hc => ?_) (fun hc => ?_))
  all_goals try decide
  all_goals try exact hu
  all_goals try (exfalso; omega)
  all_goals exact q_ret (resT_oneE rfl rfl (by simp [he])) (by simp)
theorem code_pre : ∀ x y : Fin 8, x ≠ y → (codS ((x.val : Int) + 1)).size ≤ (codS ((y.val : Int) + 1)).size → codS ((x.val : Int) + 1) ≠ (codS ((y.val : Int) + 1)).extract 0 (codS ((x.val : Int) + 1)).size := by decide +kernel
theorem siz_ok : ∀ x : Fin 8, (sizS ((x.val : Int) + 1)).tmod 4 = 0 ∧ rawS ((x.val : Int) + 1) ≤ IntKind.i64.wrap (IntKind.i64.wrap ((sizS ((x.val : Int) + 1)).tdiv 4) * 3) ∧ IntKind.i64.wrap (IntKind.i64.wrap ((sizS ((x.val : Int) + 1)).tdiv 4) * 3) ≤ IntKind.i64.wrap (rawS ((x.val : Int) + 1) + 3) ∧ 1 ≤ rawS ((x.val : Int) + 1) := by decide +kernel
set_option maxHeartbeats 8000000 in
theorem PrimitiveSizes_spec (a b : Int) : Spec Try.prog 3 [.t (.int .i64 a), .t (.int .i64 b)] [] (.t (.bool true)) [] := by
  have hA := awake03_spec
  have hMa := Mod_spec a 8 (by decide)
  have hMb := Mod_spec b 8 (by decide)
  have hla := modI_lt a 8 (by decide)
  have hlb := modI_lt b 8 (by decide)
  generalize modI a 8 = p at hMa hla
  generalize modI b 8 = q at hMb hlb
  have wx : IntKind.i64.wrap (1 + p) = 1 + p := wrap64 (by omega) (by omega)
  have wy : IntKind.i64.wrap (1 + q) = 1 + q := wrap64 (by omega) (by omega)
  have hpre := code_pre ⟨p.toNat, by omega⟩ ⟨q.toNat, by omega⟩
  have hsz := siz_ok ⟨p.toNat, by omega⟩
  simp only at hpre hsz
  rw [show ((p.toNat : Nat) : Int) + 1 = IntKind.i64.wrap (1 + p) by rw [wx]; omega, show ((q.toNat : Nat) : Int) + 1 = IntKind.i64.wrap (1 + q) by rw [wy]; omega] at hpre
  rw [show ((p.toNat : Nat) : Int) + 1 = IntKind.i64.wrap (1 + p) by rw [wx]; omega] at hsz
  have hpre' := fun h : IntKind.i64.wrap (1 + p) ≠ IntKind.i64.wrap (1 + q) => hpre (fun e => h (by rw [wx, wy]; have := congrArg Fin.val e; simp only at this; omega))
  clear hpre
  obtain ⟨z1, z2, z3, z4⟩ := hsz
  have hx0 : 1 ≤ IntKind.i64.wrap (1 + p) ∧ IntKind.i64.wrap (1 + p) ≤ 8 := by omega
  have hy0 : 1 ≤ IntKind.i64.wrap (1 + q) ∧ IntKind.i64.wrap (1 + q) ≤ 8 := by omega
  obtain ⟨x, ex⟩ : ∃ x, x = IntKind.i64.wrap (1 + p) := ⟨_, rfl⟩
  obtain ⟨y, ey⟩ : ∃ y, y = IntKind.i64.wrap (1 + q) := ⟨_, rfl⟩
  rw [← ex] at z1 z2 z3 z4 hx0
  rw [← ey] at hy0
  rw [← ex, ← ey] at hpre'
  have hCx := Code_spec x (by omega) (by omega)
  have hCy := Code_spec y (by omega) (by omega)
  have hC0 := Code_spec 0 (by omega) (by omega)
  have hRx := Raw_spec x (by omega) (by omega)
  have hR0 := Raw_spec 0 (by omega) (by omega)
  have hSx := Size_spec x (by omega) (by omega)
  have hS9 := Size_spec 9 (by omega) (by omega)
  rw [show okB x = true from decide_eq_true hx0] at hCx
  rw [show okB y = true from decide_eq_true hy0] at hCy
  rw [show okB 0 = false by decide] at hC0
  rw [show rawS 0 = 0 by decide] at hR0
  rw [show sizS 9 = 0 by decide] at hS9
  have hrr := rawS_range x
  have hMk := Make_spec x hx0.1 hx0.2 (strT (nul (rawS x).toNat)) (by rw [nul_size]; omega)
  have hEz := encS_size x hx0.1 hx0.2 (strT (nul (rawS x).toNat)) (by rw [nul_size]; omega)
  have hu := nul_u8 (rawS x).toNat
  generalize encS x (strT (nul (rawS x).toNat)) = Y at hMk hEz
  unfold nul at hMk hu
  generalize rawS x = n at *
  generalize sizS x = z at *
  generalize codS x = cx at *
  generalize codS y = cy at *
  generalize codS 0 = c0 at *
  clear wx wy hla hlb
  rw [ex] at hCx hRx hSx hMk
  rw [ey] at hCy
  rw [ex, ey] at hpre'
  have w0 : IntKind.i64.wrap (z.tdiv 4) = IntKind.i64.wrap (z.tdiv 4) := rfl
  refine spec_intro (env0 := [(0, _), (1, _)]) (st0 := []) Try.func3 rfl rfl rfl rfl ?_
  repeat' (first | (with_reducible refine codeT_seq ?_) | (with_reducible refine codeT_skip ?_) | (with_reducible refine codeT_ret ?_) | (with_reducible refine codeT_regionL ?_) | (with_reducible refine lx_nil ?_) | (with_reducible refine q_then ?_) | (with_reducible refine q_then_ret ?_) | refine c_condF rfl ?_ | (exfalso; omega) | ((with_reducible refine g_guard ?_); first | refine lx_skip rfl rfl rfl ?_) | ((with_reducible refine g_move ?_); first | refine lx_move (r := (.t _)) rfl rfl rfl rfl rfl ?_ | refine lx_move (r := (.tup _)) rfl rfl rfl rfl rfl ?_) | ((with_reducible refine g_binOp ?_); first | refine lx_arith rfl rfl rfl rfl rfl rfl rfl ?_ | refine lx_str_eq rfl rfl rfl rfl rfl rfl ?_ | refine lx_quo rfl rfl rfl rfl rfl rfl (by decide) ?_ | refine lx_rem rfl rfl rfl rfl rfl rfl (by decide) ?_) | ((with_reducible refine g_assign ?_); first | refine lx_assign (r := (.t _)) rfl rfl rfl rfl rfl ?_) | ((with_reducible refine g_pick ?_); first | refine lx_pickT (r := (.t _)) rfl rfl rfl rfl rfl rfl ?_ | refine lx_pickF (r := (.t _)) rfl rfl rfl rfl rfl rfl ?_) | ((with_reducible refine g_unOp ?_); first | refine lx_not rfl rfl rfl rfl rfl ?_) | ((with_reducible refine g_convert ?_); first | refine lx_ofBytes_row rfl rfl rfl rfl rfl rfl ?_ ?_) | ((with_reducible refine g_extract ?_); first | refine lx_extract rfl rfl rfl rfl rfl rfl ?_) | ((with_reducible refine g_slice ?_); first | refine lx_slice_str rfl rfl rfl ⟨_, rfl⟩ rfl rfl rfl ?_ ?_ ?_ ?_) | ((with_reducible refine g_makeSlice ?_); first | refine lx_makeSlice (zT := .int _ _) rfl rfl rfl rfl rfl rfl rfl rfl rfl ?_ ?_ ?_ ?_ ?_) | ((with_reducible refine g_len ?_); first | refine lx_len_str rfl rfl rfl rfl rfl ?_) | ((with_reducible refine g_call ?_); first | refine lx_callT rfl rfl hMa rfl rfl (ArgsLE.refl _) rfl rfl rfl rfl rfl ?_ | refine lx_callT rfl rfl hMb rfl rfl (ArgsLE.refl _) rfl rfl rfl rfl rfl ?_ | refine lx_callT rfl rfl hCx rfl rfl (ArgsLE.refl _) rfl rfl rfl rfl rfl ?_ | refine lx_callT rfl rfl hCy rfl rfl (ArgsLE.refl _) rfl rfl rfl rfl rfl ?_ | refine lx_callT rfl rfl hC0 rfl rfl (ArgsLE.refl _) rfl rfl rfl rfl rfl ?_ | refine lx_callT rfl rfl hRx rfl rfl (ArgsLE.refl _) rfl rfl rfl rfl rfl ?_ | refine lx_callT rfl rfl hR0 rfl rfl (ArgsLE.refl _) rfl rfl rfl rfl rfl ?_ | refine lx_callT rfl rfl hSx rfl rfl (ArgsLE.refl _) rfl rfl rfl rfl rfl ?_ | refine lx_callT rfl rfl hS9 rfl rfl (ArgsLE.refl _) rfl rfl rfl rfl rfl ?_ | refine lx_callT rfl rfl hMk rfl rfl (ArgsLE.refl _) rfl rfl rfl rfl rfl ?_ | refine lx_callT rfl rfl hA rfl rfl (ArgsLE.refl _) rfl rfl rfl rfl rfl ?_) | refine c_condP rfl (fun hc => ?_) (fun hc => ?_) | refine lx_splitP rfl (fun hc => ?_) (fun hc => ?_) | refine lx_splitN rfl (fun hc => ?_) (fun hc => ?_))
  all_goals try omega
  all_goals try exact hu
  all_goals try (rename_i hne hle; exact absurd hc (hpre' hne (by omega)))
  all_goals exact q_ret (resT_oneE rfl rfl rfl) (by simp)
end Go.AL
