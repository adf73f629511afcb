/- What parse.Put and cbor.head answer. -/
import Derived.Test.YtjhhjkkacbcmjaaDoorNod5
import Derived.Test.YtjhhjkkacbcmjaaDoorAl3
import Derived.Test.YtjhhjkkacbcmjaaDoorNod1
set_option linter.unusedVariables false
namespace Go.AL
open Go Go.Proofs Go.RowKit

def u8L (l : List UInt8) : List T := l.map u8T
theorem u8L_len (l : List UInt8) : (u8L l).length = l.length := by simp [u8L]
theorem u8L_append (a b : List UInt8) : u8L (a ++ b) = u8L a ++ u8L b := by simp [u8L]
theorem shr_byte (n c : Nat) : IntKind.u8.wrap ((n : Int) / 2 ^ (8 * c)) = ((UInt8.ofNat (n / 256 ^ c)).toNat : Int) := by
  have e : (2 : Int) ^ (8 * c) = ((256 ^ c : Nat) : Int) := by
    have : (256 : Nat) ^ c = 2 ^ (8 * c) := by rw [Nat.pow_mul]
    rw [this]; simp
  rw [e]
  simp only [IntKind.wrap, IntKind.bits, IntKind.signed, Bool.false_and, Bool.false_eq_true, if_false]
  rw [UInt8.toNat_ofNat']
  omega
set_option maxHeartbeats 2000000 in
theorem Put_spec (es : List T) (hes : es.length ≤ 1000000000) (n : Nat) (hn : n < 18446744073709551616) (k : Nat) (hk : k ≤ 8) : Spec Tryd.prog 77 [.row (.par 0), .t (.int .u64 (n : Int)), .t (.int .i64 (k : Int))] [(.par 0, .slt 5 1 es)] (.row (.res 0)) [(.res 0, .slt 5 1 (es ++ u8L (bigL k n)))] := by
  refine spec_introG (env0 := [(0, _), (1, _), (2, _)]) (st0 := [(_, some _)]) Tryd.func77 rfl rfl rfl rfl ?_
  repeat' (first | (with_reducible refine codeT_seq ?_) | (with_reducible refine codeT_block ?_) | (with_reducible refine codeT_regionL ?_) | (with_reducible refine lx_nil ?_) | (with_reducible refine q_then ?_) | ((with_reducible refine g_move ?_); first | refine lx_move (r := (.t _)) rfl rfl rfl rfl rfl ?_) | ((with_reducible refine g_binOp ?_); first | refine lx_arith rfl rfl rfl rfl rfl rfl rfl ?_) | ((with_reducible refine g_assign ?_); first | refine lx_assign (r := (.t _)) rfl rfl rfl rfl rfl ?_))
  refine codeT_ghost ((ghost_keep2 [0, 1, 7] [.par 0] rfl rfl).trans (ghost_renLP (.par 0) (.loc 900) rfl rfl rfl rfl)) ?_
  refine codeT_loop (fun p env st => ∃ (c : Nat) (xs : List T), c ≤ 8 ∧ p = c ∧ xs.length + c = es.length + k ∧ xs ++ u8L (bigL c n) = es ++ u8L (bigL k n) ∧
      env = EnvL.get [(0, .row (.loc 900)), (1, .t (.int .u64 (n : Int))), (7, .t (.int .i64 ((c : Int) - 1)))] ∧ st = StO.get [(.loc 900, some (.slt 5 1 xs))])
    ?_ (n := k) ⟨k, es, hk, rfl, rfl, rfl, ?_, rfl⟩
  rotate_left
  · rw [wrap64 (by omega) (by omega)]; rfl
  rintro p env st ⟨c, xs, hc8, rfl, hlen, hi, rfl, rfl⟩
  repeat' (first | (with_reducible refine codeT_seq ?_) | (with_reducible refine codeT_block ?_) | (with_reducible refine codeT_skip ?_) | (with_reducible refine codeT_ret ?_) | (with_reducible refine codeT_exit ?_) | (with_reducible refine codeT_regionL ?_) | (with_reducible refine lx_nil ?_) | (with_reducible refine q_then ?_) | (with_reducible refine q_then_exit ?_) | (with_reducible refine q_block ?_) | ((with_reducible refine q_block_same ?_ ?_); · rfl) | (with_reducible refine q_loop_exit ?_) | ((with_reducible refine g_move ?_); first | refine lx_move (r := (.t _)) rfl rfl rfl rfl rfl ?_ | refine lx_move (r := (.row _)) rfl rfl rfl rfl rfl ?_) | ((with_reducible refine g_binOp ?_); first | refine lx_arith rfl rfl rfl rfl rfl rfl rfl ?_ | refine lx_shr rfl rfl rfl rfl rfl rfl ?_ ?_) | ((with_reducible refine g_assign ?_); first | refine lx_assign (r := (.t _)) rfl rfl rfl rfl rfl ?_ | refine lx_assign (r := (.row _)) rfl rfl rfl rfl rfl ?_) | ((with_reducible refine g_convert ?_); first | refine lx_conv_int rfl rfl rfl rfl rfl ?_) | ((with_reducible refine g_buildSlice ?_); first | refine lx_buildSlice rfl rfl rfl rfl rfl rfl rfl ?_) | ((with_reducible refine g_append ?_); first | refine lx_append_row rfl rfl rfl rfl rfl rfl rfl rfl rfl rfl ?_ ?_ ?_) | refine c_condP rfl (fun hc => ?_) (fun hc => ?_))
  · rw [wrap64 (by omega) (by omega)]; omega
  · simp; omega
  · simp; omega
  · obtain ⟨c, rfl⟩ : ∃ c, p = c + 1 := ⟨p - 1, by omega⟩
    refine q_loop (n' := c) (by omega) ((ghost_keep2 [0, 1, 7] [.loc 21] rfl rfl).trans (ghost_renL2 (.loc 21) (.loc 900) rfl rfl rfl rfl)) ⟨c, _, by omega, rfl, ?_, ?_, ?_, rfl⟩
    · simp; omega
    · rw [← hi, List.append_assoc]
      congr 1
      have e : (min (IntKind.i64.wrap (8 * ((c + 1 : Nat) - 1 : Int))).toNat IntKind.u64.bits) = 8 * c := by
        rw [wrap64 (by omega) (by omega)]
        have : IntKind.u64.bits = 64 := rfl
        omega
      rw [e, shr_byte]
      rfl
    · rw [wrap64 (by omega) (by omega)]
      rw [show ((c + 1 : Nat) : Int) - 1 - 1 = (c : Int) - 1 by omega]
      rfl
  · obtain rfl : p = 0 := by omega
    simp only [bigL, u8L, List.map_nil, List.append_nil] at hi
    rw [hi]
    refine q_ghost ((ghost_keep2 [6] [.loc 900] rfl rfl).trans (ghost_renL2 (.loc 900) (.res 0) rfl rfl rfl rfl)) ?_
    exact q_done (q_ret (resT_one rfl (AVLE.refl _)) (stHas_spec ⟨rfl, trivial⟩))

theorem or_firstF : ∀ m : Fin 8, ∀ b : Fin 32, IntKind.u8.wrap ((BitVec.ofInt IntKind.u8.bits (IntKind.u8.wrap (IntKind.i64.wrap ((m.val : Int) * 2 ^ min (Int.toNat 5) IntKind.i64.bits))) ||| BitVec.ofInt IntKind.u8.bits (b.val : Int)).toNat : Int) = ((UInt8.ofNat (32 * m.val + b.val)).toNat : Int) := by decide +kernel
theorem or_first {m b : Nat} (hm : m ≤ 7) (hb : b < 32) : IntKind.u8.wrap ((BitVec.ofInt IntKind.u8.bits (IntKind.u8.wrap (IntKind.i64.wrap ((m : Int) * 2 ^ min (Int.toNat 5) IntKind.i64.bits))) ||| BitVec.ofInt IntKind.u8.bits (b : Int)).toNat : Int) = ((UInt8.ofNat (32 * m + b)).toNat : Int) := or_firstF ⟨m, by omega⟩ ⟨b, hb⟩
theorem wrapU8 {n : Int} (h0 : 0 ≤ n) (h : n < 256) : IntKind.u8.wrap n = n := by
  simp only [IntKind.wrap, IntKind.bits, IntKind.signed, Bool.false_and, Bool.false_eq_true, if_false]
  omega
def headJ (m n j : Nat) : List UInt8 := UInt8.ofNat (32 * m + (24 + j)) :: bigL (2 ^ j) n
theorem hdL_small {m n : Nat} (h : n < 24) : hdL m n = [UInt8.ofNat (32 * m + n)] := by unfold hdL; rw [if_pos h]
theorem hdL_mid {m n j : Nat} (hn : n < 18446744073709551616) (h24 : 24 ≤ n) (hj : j ≤ 3) (hlo : ∀ i, i < j → 256 ^ (2 ^ i) ≤ n) (hhi : n < 256 ^ (2 ^ j)) : hdL m n = headJ m n j := by
  unfold hdL headJ
  rw [if_neg (by omega)]
  match j, hj with
  | 0, _ => rw [if_pos (by simpa using hhi)]; try rfl
  | 1, _ =>
    have := hlo 0 (by omega)
    rw [if_neg (by simp at this; omega), if_pos (by simpa using hhi)]; try rfl
  | 2, _ =>
    have h0 := hlo 0 (by omega)
    have h1 := hlo 1 (by omega)
    rw [if_neg (by simp at h0; omega), if_neg (by simp at h1; omega), if_pos (by simpa using hhi)]; try rfl
  | 3, _ =>
    have h0 := hlo 0 (by omega)
    have h1 := hlo 1 (by omega)
    have h2 := hlo 2 (by omega)
    rw [if_neg (by simp at h0; omega), if_neg (by simp at h1; omega), if_neg (by simp at h2; omega)]; try rfl
theorem sh_val {j : Nat} (hj : j ≤ 3) : IntKind.i64.wrap (1 * 2 ^ min (j : Int).toNat IntKind.i64.bits) = ((2 ^ j : Nat) : Int) := by
  match j, hj with
  | 0, _ | 1, _ | 2, _ | 3, _ => decide
theorem sh_byte {j : Nat} (hj : j ≤ 3) : IntKind.u8.wrap (IntKind.i64.wrap (24 + (j : Int))) = ((24 + j : Nat) : Int) := by
  match j, hj with
  | 0, _ | 1, _ | 2, _ | 3, _ => decide
theorem sh_zero {n j : Nat} (hj : j ≤ 3) : (n : Int) / 2 ^ min (IntKind.u64.wrap (8 * 2 ^ min (j : Int).toNat IntKind.u64.bits)).toNat IntKind.u64.bits = 0 ↔ n < 256 ^ (2 ^ j) := by
  match j, hj with
  | 0, _ => rw [show min (IntKind.u64.wrap (8 * 2 ^ min ((0 : Nat) : Int).toNat IntKind.u64.bits)).toNat IntKind.u64.bits = 8 by decide]; simp <;> omega
  | 1, _ => rw [show min (IntKind.u64.wrap (8 * 2 ^ min ((1 : Nat) : Int).toNat IntKind.u64.bits)).toNat IntKind.u64.bits = 16 by decide]; simp <;> omega
  | 2, _ => rw [show min (IntKind.u64.wrap (8 * 2 ^ min ((2 : Nat) : Int).toNat IntKind.u64.bits)).toNat IntKind.u64.bits = 32 by decide]; simp <;> omega
  | 3, _ => rw [show min (IntKind.u64.wrap (8 * 2 ^ min ((3 : Nat) : Int).toNat IntKind.u64.bits)).toNat IntKind.u64.bits = 64 by decide]; simp <;> omega
set_option maxHeartbeats 4000000 in
theorem cHead_spec (es : List T) (hes : es.length ≤ 100000000) (m : Nat) (hm : m ≤ 7) (n : Nat) (hn : n < 18446744073709551616) : Spec Tryd.prog 58 [.row (.par 0), .t (.int .i64 (m : Int)), .t (.int .u64 (n : Int))] [(.par 0, .slt 5 1 es)] (.row (.res 0)) [(.res 0, .slt 5 1 (es ++ u8L (hdL m n)))] := by
  refine spec_introG (env0 := [(0, _), (1, _), (2, _)]) (st0 := [(_, some _)]) Tryd.func58 rfl rfl rfl rfl ?_
  repeat' (first | (with_reducible refine codeT_seq ?_) | (with_reducible refine codeT_block ?_) | (with_reducible refine codeT_skip ?_) | (with_reducible refine codeT_ret ?_) | (with_reducible refine codeT_regionL ?_) | (with_reducible refine lx_nil ?_) | (with_reducible refine q_then ?_) | (with_reducible refine q_then_ret ?_) | ((with_reducible refine g_move ?_); first | refine lx_move (r := (.t _)) rfl rfl rfl rfl rfl ?_ | refine lx_move (r := (.row _)) rfl rfl rfl rfl rfl ?_) | ((with_reducible refine g_binOp ?_); first | refine lx_arith rfl rfl rfl rfl rfl rfl rfl ?_ | refine lx_shl rfl rfl rfl rfl rfl rfl (by decide) ?_) | ((with_reducible refine g_assign ?_); first | refine lx_assign (r := (.t _)) rfl rfl rfl rfl rfl ?_ | refine lx_assign (r := (.row _)) rfl rfl rfl rfl rfl ?_) | ((with_reducible refine g_convert ?_); first | refine lx_conv_int rfl rfl rfl rfl rfl ?_) | ((with_reducible refine g_buildSlice ?_); first | refine lx_buildSlice rfl rfl rfl rfl rfl rfl rfl ?_) | ((with_reducible refine g_append ?_); first | refine lx_append_row rfl rfl rfl rfl rfl rfl rfl rfl rfl rfl ?_ ?_ ?_) | refine c_condP rfl (fun hc => ?_) (fun hc => ?_))
  all_goals try omega
  · simp; omega
  · simp; omega
  · have h24 : n < 24 := by omega
    rw [hdL_small h24]
    refine q_ghost ((ghost_keep2 [6] [.loc 20] rfl rfl).trans (ghost_renL2 (.loc 20) (.res 0) rfl rfl rfl rfl)) ?_
    refine q_done (q_ret (resT_one rfl (AVLE.refl _)) (stHas_spec ⟨?_, trivial⟩))
    rw [wrapU8 (n := (n : Int)) (by omega) (by omega), or_first hm (by omega)]
    rfl
  have h24 : 24 ≤ n := by omega
  refine codeT_ghost (ghost_keep2 [0, 2, 7, 21] [.par 0] rfl rfl) ?_
  refine codeT_loop (fun p env st => ∃ (j : Nat), j ≤ 3 ∧ p = 3 - j ∧ (∀ i, i < j → 256 ^ (2 ^ i) ≤ n) ∧
      env = EnvL.get [(0, .row (.par 0)), (2, .t (.int .u64 (n : Int))), (7, .t (.int .u8 (IntKind.u8.wrap (IntKind.i64.wrap ((m : Int) * 2 ^ min (Int.toNat 5) IntKind.i64.bits))))), (21, .t (.int .i64 (j : Int)))] ∧ st = StO.get [(.par 0, some (.slt 5 1 es))])
    ?_ (n := 3) ⟨0, by omega, rfl, fun i hi => by omega, rfl, rfl⟩
  rintro p env st ⟨j, hj, rfl, hlo, rfl, rfl⟩
  have hP : ∀ X : T, Spec Tryd.prog 77 [.row (.par 0), .t (.int .u64 (n : Int)), .t (.int .i64 (IntKind.i64.wrap (1 * 2 ^ min (j : Int).toNat IntKind.i64.bits)))] [(.par 0, .slt 5 1 (es ++ [X]))] (.row (.res 0)) [(.res 0, .slt 5 1 ((es ++ [X]) ++ u8L (bigL (2 ^ j) n)))] := fun X => by
    rw [sh_val hj]
    exact Put_spec _ (by simp; omega) n hn (2 ^ j) (by match j, hj with | 0, _ | 1, _ | 2, _ | 3, _ => decide)
  have hP8 : ∀ X : T, Spec Tryd.prog 77 [.row (.par 0), .t (.int .u64 (n : Int)), .t (.int .i64 8)] [(.par 0, .slt 5 1 (es ++ [X]))] (.row (.res 0)) [(.res 0, .slt 5 1 ((es ++ [X]) ++ u8L (bigL 8 n)))] := fun X =>
    Put_spec _ (by simp; omega) n hn 8 (by omega)
  repeat' (first | (with_reducible refine codeT_seq ?_) | (with_reducible refine codeT_block ?_) | (with_reducible refine codeT_skip ?_) | (with_reducible refine codeT_ret ?_) | (with_reducible refine codeT_exit ?_) | (with_reducible refine codeT_regionL ?_) | ((with_reducible refine codeT_region_drawL ?_ ?_); · rfl) | (with_reducible refine lx_nil ?_) | (with_reducible refine q_then ?_) | (with_reducible refine q_then_exit ?_) | (with_reducible refine q_then_ret ?_) | (with_reducible refine q_block ?_) | (with_reducible refine q_block_ret ?_) | ((with_reducible refine q_block_same ?_ ?_); · rfl) | (with_reducible refine q_loop_exit ?_) | (with_reducible refine q_loop_ret ?_) | ((with_reducible refine q_region_draw ?_ ?_); · rfl) | ((with_reducible refine g_move ?_); first | refine lx_move (r := (.t _)) rfl rfl rfl rfl rfl ?_ | refine lx_move (r := (.row _)) rfl rfl rfl rfl rfl ?_) | ((with_reducible refine g_binOp ?_); first | refine lx_arith rfl rfl rfl rfl rfl rfl rfl ?_ | refine lx_shl rfl rfl rfl rfl rfl rfl ?_ ?_ | refine lx_shr rfl rfl rfl rfl rfl rfl ?_ ?_) | ((with_reducible refine g_assign ?_); first | refine lx_assign (r := (.t _)) rfl rfl rfl rfl rfl ?_ | refine lx_assign (r := (.row _)) rfl rfl rfl rfl rfl ?_) | ((with_reducible refine g_convert ?_); first | refine lx_conv_int rfl rfl rfl rfl rfl ?_) | ((with_reducible refine g_buildSlice ?_); first | refine lx_buildSlice rfl rfl rfl rfl rfl rfl rfl ?_) | ((with_reducible refine g_append ?_); first | refine lx_append_row rfl rfl rfl rfl rfl rfl rfl rfl rfl rfl ?_ ?_ ?_) | ((with_reducible refine g_call ?_); first | refine lx_call (r' := .row (.loc 901)) [(.par 0, .loc 36), (.res 0, .loc 901)] rfl rfl (hP _) (ArgsLE.refl _) rfl ⟨rfl, trivial⟩ rfl rfl rfl rfl rfl rfl rfl rfl rfl rfl ?_ | refine lx_call (r' := .row (.loc 902)) [(.par 0, .loc 46), (.res 0, .loc 902)] rfl rfl (hP8 _) (ArgsLE.refl _) rfl ⟨rfl, trivial⟩ rfl rfl rfl rfl rfl rfl rfl rfl rfl rfl ?_) | refine c_condP rfl (fun hc => ?_) (fun hc => ?_))
  all_goals try omega
  · rw [show (8 : Int) * 2 ^ min (j : Int).toNat IntKind.u64.bits = ((8 * 2 ^ j : Nat) : Int) by match j, hj with | 0, _ | 1, _ | 2, _ | 3, _ => decide]
    simp only [IntKind.wrap, IntKind.bits, IntKind.signed, Bool.false_and, Bool.false_eq_true, if_false]
    omega
  · simp; omega
  · simp; omega
  · have hz := hc
    have hlt := (sh_zero hj).1 hz
    have e : hdL m n = headJ m n j := hdL_mid hn h24 hj hlo hlt
    refine q_ghost ((ghost_keep2 [6] [.loc 901] rfl rfl).trans (ghost_renL2 (.loc 901) (.res 0) rfl rfl rfl rfl)) ?_
    refine q_done (q_ret (resT_one rfl (AVLE.refl _)) (stHas_spec ⟨?_, trivial⟩))
    rw [e, sh_byte hj, or_first hm (by omega), List.append_assoc]
    rfl
  · have hz := hc
    have hge : 256 ^ (2 ^ j) ≤ n := Nat.le_of_not_lt fun h => hz ((sh_zero hj).2 h)
    refine q_loop (n' := 3 - (j + 1)) (by omega) (ghost_keep2 [0, 2, 7, 21] [.par 0] rfl rfl) ⟨j + 1, by omega, rfl, fun i hi => ?_, by rw [wrap64 (by omega) (by omega)]; rfl, rfl⟩
    rcases Nat.lt_or_ge i j with h | h
    · exact hlo i h
    · obtain rfl : i = j := by omega
      exact hge
  · simp; omega
  · simp; omega
  · obtain rfl : j = 3 := by omega
    have e : hdL m n = headJ m n 3 := hdL_mid hn h24 (by omega) hlo (by simpa using hn)
    refine q_ghost ((ghost_keep2 [6] [.loc 902] rfl rfl).trans (ghost_renL2 (.loc 902) (.res 0) rfl rfl rfl rfl)) ?_
    refine q_done (q_ret (resT_one rfl (AVLE.refl _)) (stHas_spec ⟨?_, trivial⟩))
    rw [e, show (27 : Int) = ((27 : Nat) : Int) from rfl, or_first hm (by omega), List.append_assoc]
    rfl
end Go.AL
/- What the iterator over a node's items does: a round for each item, with its name. -/
set_option linter.unusedVariables false
namespace Go.AL
open Go Go.Proofs Go.RowKit

def nCells (k : Int) (b : Bool) (n : Int) (t : ByteArray) (ns : List ByteArray) (is : List Nd) : List T := [.int .i64 k, .bool b, .int .i64 n, .str t, .sl 1 (ns.map .str), .sl 6 (is.map Nd.toT)]
set_option maxHeartbeats 2000000 in
theorem Items_spec (k : Int) (b : Bool) (n : Int) (t : ByteArray) (ns : List ByteArray) (is : List Nd) : Spec Tryd.prog 76 [.t (.agg [.int .i64 k, .bool b, .int .i64 n, .str t, .sl 1 (ns.map .str), .sl 6 (is.map Nd.toT)])] [] (.fn 105 [.ref (.res 0) 0 0 0]) [(.res 0, .var 26 [.t (.int .i64 k), .t (.bool b), .t (.int .i64 n), .t (.str t), .t (.sl 1 (ns.map .str)), .t (.sl 6 (is.map Nd.toT))])] := by
  refine spec_introG (env0 := [(0, _)]) (st0 := []) Tryd.func76 rfl rfl rfl rfl ?_
  repeat' (first | (with_reducible refine codeT_seq ?_) | (with_reducible refine codeT_ret ?_) | (with_reducible refine codeT_regionL ?_) | (with_reducible refine lx_nil ?_) | (with_reducible refine q_then ?_) | ((with_reducible refine g_assign ?_); first | refine lx_assign (r := (.t _)) rfl rfl rfl rfl rfl ?_ | refine lx_assign (r := (.fn _ _)) rfl rfl rfl rfl rfl ?_) | ((with_reducible refine g_box ?_); first | refine lx_box (r := (.t (.agg _))) (cs := (List.map .t _)) rfl rfl rfl rfl rfl rfl rfl rfl rfl ?_) | ((with_reducible refine g_makeFunc ?_); first | refine lx_makeFunc rfl rfl rfl rfl rfl ?_))
  refine q_ghost ((ghost_keep2 [2] [.loc 1] rfl rfl).trans (ghost_renL2 (.loc 1) (.res 0) rfl rfl rfl rfl)) ?_
  exact q_done (q_ret (resT_one rfl (AVLE.of_eq rfl)) (stHas_spec ⟨rfl, trivial⟩))

def nameAt (k : Int) (ns : List ByteArray) (i : Nat) : ByteArray := if k = 5 then ns.getD i default else eS
set_option maxHeartbeats 4000000 in
theorem ItemsF_spec (k : Int) (b : Bool) (n : Int) (t : ByteArray) (ns : List ByteArray) (is : List Nd) (hlen : is.length ≤ 1000) (hk : k = 5 → ns.length = is.length)
    (kk : LoopK) (tb tn : Nat) (e : T) (f : Nat → List T)
    (H : ∀ i, i < is.length → RoundT Tryd.prog kk [(tb, .ref (.par 10) 0 0 0), (tn, .tp e 0)] [.t (.str (nameAt k ns i)), .t ((is.getD i default).toT)] [(.par 10, .var 68 [.row (.par 11)]), (.par 11, .slt 5 1 (f i))] [(.par 10, .var 68 [.row (.res 0)]), (.res 0, .slt 5 1 (f (i + 1)))]) :
    Spec Tryd.prog 105 [.row (.par 50), .tp (.agg [.int .i64 k, .bool b, .int .i64 n, .str t, .sl 1 (ns.map .str), .sl 6 (is.map Nd.toT)]) 0] [(.par 50, .loop kk [(tb, .ref (.par 10) 0 0 0), (tn, .tp e 0)]), (.par 10, .var 68 [.row (.par 11)]), (.par 11, .slt 5 1 (f 0))]
      (.tup []) [(.par 50, .loop kk [(tb, .ref (.par 10) 0 0 0), (tn, .tp e 0)]), (.par 10, .var 68 [.row (.res 0)]), (.res 0, .slt 5 1 (f is.length))] := by
  refine spec_introG (env0 := [(0, _), (1, _)]) (st0 := [(_, some _), (_, some _), (_, some _)]) Tryd.func105 rfl rfl rfl rfl ?_
  repeat' (first | (with_reducible refine codeT_seq ?_) | (with_reducible refine codeT_block ?_) | (with_reducible refine codeT_regionL ?_) | (with_reducible refine lx_nil ?_) | (with_reducible refine q_then ?_) | ((with_reducible refine g_move ?_); first | refine lx_move (r := (.t _)) rfl rfl rfl rfl rfl ?_) | ((with_reducible refine g_load ?_); first | refine lx_load_tp rfl rfl rfl rfl rfl rfl rfl ?_) | ((with_reducible refine g_fieldAddr ?_); first | refine lx_fieldAddr_tp rfl rfl rfl rfl rfl rfl rfl ?_) | ((with_reducible refine g_len ?_); first | refine lx_len_map rfl rfl rfl rfl rfl ?_))
  refine codeT_ghost ((ghost_keep2 [0, 1, 7, 8, 9] [.par 50, .par 10, .par 11] rfl rfl).trans (ghost_renLP (.par 11) (.loc 900) rfl rfl rfl rfl)) ?_
  refine codeT_loop (fun p env st => ∃ (j : Nat), j ≤ is.length ∧ p = is.length - j ∧
      env = EnvL.get [(0, .row (.par 50)), (1, .tp (.agg [.int .i64 k, .bool b, .int .i64 n, .str t, .sl 1 (ns.map .str), .sl 6 (is.map Nd.toT)]) 0), (7, .t (.sl 6 (is.map Nd.toT))), (8, .t (.int .i64 (is.length : Int))), (9, .t (.int .i64 (j : Int)))] ∧
      st = StO.get [(.par 50, some (.loop kk [(tb, .ref (.par 10) 0 0 0), (tn, .tp e 0)])), (.par 10, some (.var 68 [.row (.loc 900)])), (.loc 900, some (.slt 5 1 (f j)))])
    ?_ (n := is.length) ⟨0, by omega, rfl, ?_, ?_⟩
  rotate_left
  · rfl
  · rfl
  rintro p env st ⟨j, hj, rfl, rfl, rfl⟩
  by_cases hlt : j < is.length
  · have hR := H j hlt
    have hg : is.getD (j : Int).toNat default = is.getD j default := rfl
    have hT := (is.getD j default).toT_full
    rw [hT] at hR
    by_cases h5 : k = 5
    · subst h5
      have hnm : nameAt 5 ns j = ns.getD (j : Int).toNat default := by simp [nameAt]
      rw [hnm] at hR
      have hl5 := hk rfl
      repeat' (first | (with_reducible refine codeT_seq ?_) | (with_reducible refine codeT_block ?_) | (with_reducible refine codeT_skip ?_) | (with_reducible refine codeT_exit ?_) | (with_reducible refine codeT_regionL ?_) | (with_reducible refine lx_nil ?_) | (with_reducible refine q_then ?_) | (with_reducible refine q_then_exit ?_) | (with_reducible refine q_block ?_) | ((with_reducible refine q_block_same ?_ ?_); · rfl) | (with_reducible refine q_loop_exit ?_) | refine c_condT rfl ?_ | refine c_condF rfl ?_ | refine lx_load_tpAE rfl rfl hT rfl rfl rfl rfl rfl rfl ?_ | ((with_reducible refine g_move ?_); first | refine lx_move (r := (.t _)) rfl rfl rfl rfl rfl ?_ | refine lx_move (r := (.row _)) rfl rfl rfl rfl rfl ?_) | ((with_reducible refine g_load ?_); first | refine lx_load_varA (r := (.t (.agg _))) rfl rfl rfl rfl rfl rfl rfl rfl rfl ?_ | refine lx_load_tp rfl rfl rfl rfl rfl rfl rfl ?_) | ((with_reducible refine g_fieldAddr ?_); first | refine lx_fieldAddr_tp rfl rfl rfl rfl rfl rfl rfl ?_) | ((with_reducible refine g_binOp ?_); first | refine lx_arith rfl rfl rfl rfl rfl rfl rfl ?_) | ((with_reducible refine g_assign ?_); first | refine lx_assign (r := (.t _)) rfl rfl rfl rfl rfl ?_) | ((with_reducible refine g_alloc ?_); first | refine lx_alloc rfl rfl rfl rfl rfl rfl rfl ?_) | ((with_reducible refine g_store ?_); first | refine lx_store_var (r := (.t (.agg _))) rfl rfl rfl rfl rfl rfl rfl rfl rfl rfl ?_) | ((with_reducible refine g_indexAddr ?_); first | refine lx_indexAddr_map rfl rfl rfl rfl rfl rfl ?_ ?_ ?_) | ((with_reducible refine g_unOp ?_); first | refine lx_not rfl rfl rfl rfl rfl ?_) | ((with_reducible refine g_call ?_); first | refine lx_yield [(.par 11, .loc 900), (.res 0, .loc 901)] rfl rfl hR rfl (ArgsLE.refl _) rfl rfl ⟨rfl, rfl, trivial⟩ rfl rfl rfl rfl rfl rfl rfl rfl rfl rfl ?_) | refine c_condP rfl (fun hc => ?_) (fun hc => ?_))
      all_goals try omega
      · refine q_loop (n' := is.length - (j + 1)) (by omega) ((ghost_keep2 [0, 1, 7, 8, 9] [.par 50, .par 10, .loc 901] rfl rfl).trans (ghost_renL2 (.loc 901) (.loc 900) rfl rfl rfl rfl)) ⟨j + 1, by omega, rfl, by rw [wrap64 (by omega) (by omega)]; rfl, rfl⟩
    · have hnm : nameAt k ns j = eS := by simp [nameAt, h5]
      rw [hnm] at hR
      repeat' (first | (with_reducible refine codeT_seq ?_) | (with_reducible refine codeT_block ?_) | (with_reducible refine codeT_skip ?_) | (with_reducible refine codeT_exit ?_) | (with_reducible refine codeT_regionL ?_) | (with_reducible refine lx_nil ?_) | (with_reducible refine q_then ?_) | (with_reducible refine q_then_exit ?_) | (with_reducible refine q_block ?_) | ((with_reducible refine q_block_same ?_ ?_); · rfl) | (with_reducible refine q_loop_exit ?_) | refine c_condF rfl ?_ | refine lx_load_tpAE rfl rfl hT rfl rfl rfl rfl rfl rfl ?_ | ((with_reducible refine g_move ?_); first | refine lx_move (r := (.t _)) rfl rfl rfl rfl rfl ?_ | refine lx_move (r := (.row _)) rfl rfl rfl rfl rfl ?_) | ((with_reducible refine g_load ?_); first | refine lx_load_varA (r := (.t (.agg _))) rfl rfl rfl rfl rfl rfl rfl rfl rfl ?_ | refine lx_load_tp rfl rfl rfl rfl rfl rfl rfl ?_) | ((with_reducible refine g_fieldAddr ?_); first | refine lx_fieldAddr_tp rfl rfl rfl rfl rfl rfl rfl ?_) | ((with_reducible refine g_binOp ?_); first | refine lx_arith rfl rfl rfl rfl rfl rfl rfl ?_) | ((with_reducible refine g_assign ?_); first | refine lx_assign (r := (.t _)) rfl rfl rfl rfl rfl ?_) | ((with_reducible refine g_alloc ?_); first | refine lx_alloc rfl rfl rfl rfl rfl rfl rfl ?_) | ((with_reducible refine g_store ?_); first | refine lx_store_var (r := (.t (.agg _))) rfl rfl rfl rfl rfl rfl rfl rfl rfl rfl ?_) | ((with_reducible refine g_indexAddr ?_); first | refine lx_indexAddr_map rfl rfl rfl rfl rfl rfl ?_ ?_ ?_) | ((with_reducible refine g_unOp ?_); first | refine lx_not rfl rfl rfl rfl rfl ?_) | ((with_reducible refine g_call ?_); first | refine lx_yield [(.par 11, .loc 900), (.res 0, .loc 901)] rfl rfl hR rfl (ArgsLE.refl _) rfl rfl ⟨rfl, rfl, trivial⟩ rfl rfl rfl rfl rfl rfl rfl rfl rfl rfl ?_) | refine c_condP rfl (fun hc => ?_) (fun hc => ?_))
      all_goals try omega
      · refine q_loop (n' := is.length - (j + 1)) (by omega) ((ghost_keep2 [0, 1, 7, 8, 9] [.par 50, .par 10, .loc 901] rfl rfl).trans (ghost_renL2 (.loc 901) (.loc 900) rfl rfl rfl rfl)) ⟨j + 1, by omega, rfl, by rw [wrap64 (by omega) (by omega)]; rfl, rfl⟩
  · repeat' (first | (with_reducible refine codeT_seq ?_) | (with_reducible refine codeT_block ?_) | (with_reducible refine codeT_skip ?_) | (with_reducible refine codeT_exit ?_) | (with_reducible refine codeT_regionL ?_) | (with_reducible refine lx_nil ?_) | (with_reducible refine q_then ?_) | (with_reducible refine q_then_exit ?_) | ((with_reducible refine q_block_same ?_ ?_); · rfl) | (with_reducible refine q_loop_exit ?_) | ((with_reducible refine g_move ?_); first | refine lx_move (r := (.t _)) rfl rfl rfl rfl rfl ?_) | ((with_reducible refine g_binOp ?_); first | refine lx_arith rfl rfl rfl rfl rfl rfl rfl ?_) | ((with_reducible refine g_indexAddr ?_); first | refine lx_indexAddr_map rfl rfl rfl rfl rfl rfl ?_ ?_ ?_) | refine c_condP rfl (fun hc => ?_) (fun hc => ?_))
    all_goals try omega
    obtain rfl : j = is.length := by omega
    refine q_ghost ((ghost_keep2 [] [.par 50, .par 10, .loc 900] rfl rfl).trans (ghost_renL2 (.loc 900) (.res 0) rfl rfl rfl rfl)) ?_
    exact q_done (q_end (resT_none rfl) (stHas_spec ⟨rfl, rfl, rfl, trivial⟩))
end Go.AL
/- What cbor.put answers: the bytes of a valid node. -/
set_option linter.unusedVariables false
namespace Go.AL
open Go Go.Proofs Go.RowKit

def preB (k : Int) (ns : List ByteArray) (is : List Nd) (i : Nat) : List UInt8 := if k = 5 then Nd.cbm (ns.take i) (is.take i) else Nd.cbs (is.take i)
theorem cbs_append : ∀ (a b : List Nd), Nd.cbs (a ++ b) = Nd.cbs a ++ Nd.cbs b
  | [], b => rfl
  | x :: a, b => by simp [Nd.cbs, cbs_append a b]
theorem cbm_append : ∀ (a : List ByteArray) (b : List Nd) (s : ByteArray) (x : Nd), a.length = b.length → Nd.cbm (a ++ [s]) (b ++ [x]) = Nd.cbm a b ++ (hdL 3 s.size ++ s.data.toList ++ x.cb)
  | [], [], s, x, _ => by simp [Nd.cbm]
  | n :: a, y :: b, s, x, h => by simp [Nd.cbm, cbm_append a b s x (by simpa using h), List.append_assoc]
  | [], _ :: _, _, _, h => by simp at h
  | _ :: _, [], _, _, h => by simp at h
theorem preB_list {k : Int} {ns : List ByteArray} {is : List Nd} {i : Nat} (hk : k ≠ 5) (hi : i < is.length) : preB k ns is (i + 1) = preB k ns is i ++ (is.getD i default).cb := by
  have e : is.take (i + 1) = is.take i ++ [is.getD i default] := by
    rw [List.take_add_one, List.getElem?_eq_getElem hi]; simp [List.getD_eq_getElem?_getD, hi]
  simp only [preB, if_neg hk, e, cbs_append, Nd.cbs, List.append_nil]
theorem preB_map {ns : List ByteArray} {is : List Nd} {i : Nat} (hl : ns.length = is.length) (hi : i < is.length) : preB 5 ns is (i + 1) = preB 5 ns is i ++ (hdL 3 (ns.getD i default).size ++ (ns.getD i default).data.toList ++ (is.getD i default).cb) := by
  have e : is.take (i + 1) = is.take i ++ [is.getD i default] := by
    rw [List.take_add_one, List.getElem?_eq_getElem hi]; simp [List.getD_eq_getElem?_getD, hi]
  have e2 : ns.take (i + 1) = ns.take i ++ [ns.getD i default] := by
    rw [List.take_add_one, List.getElem?_eq_getElem (by omega)]; simp [List.getD_eq_getElem?_getD, show i < ns.length by omega]
  simp only [preB, if_true, e, e2]
  exact cbm_append _ _ _ _ (by simp; omega)

theorem preB_mono {k : Int} {ns : List ByteArray} {is : List Nd} (hk : k = 5 → ns.length = is.length) {i j : Nat} (hij : i ≤ j) (hj : j ≤ is.length) : (preB k ns is i).length ≤ (preB k ns is j).length := by
  induction j with
  | zero => rw [show i = 0 by omega]; exact Nat.le_refl _
  | succ j ih =>
    rcases Nat.lt_or_ge i (j + 1) with h | h
    · refine Nat.le_trans (ih (by omega) (by omega)) ?_
      by_cases h5 : k = 5
      · subst h5
        rw [preB_map (hk rfl) (by omega), List.length_append]; omega
      · rw [preB_list h5 (by omega), List.length_append]; omega
    · rw [show i = j + 1 by omega]; exact Nat.le_refl _
set_option maxHeartbeats 8000000 in
theorem cput_seq (k : Int) (hk45 : k = 4 ∨ k = 5) (b : Bool) (n : Int) (t : ByteArray) (ns : List ByteArray) (is : List Nd) (hlen : is.length ≤ 256) (hk : k = 5 → ns.length = is.length)
    (hns : ∀ s ∈ ns, s.size ≤ 65536) (es : List T) (hb : es.length + (hdL k.toNat is.length).length + (preB k ns is is.length).length ≤ 50000000)
    (IH : ∀ i, i < is.length → ∀ es' : List T, es'.length + (is.getD i default).cb.length ≤ 50000000 → Spec Tryd.prog 56 [.row (.par 0), .t (is.getD i default).toT] [(.par 0, .slt 5 1 es')] (.row (.res 0)) [(.res 0, .slt 5 1 (es' ++ u8L (is.getD i default).cb))]) :
    Spec Tryd.prog 56 [.row (.par 0), .t (.agg [.int .i64 k, .bool b, .int .i64 n, .str t, .sl 1 (ns.map .str), .sl 6 (is.map Nd.toT)])] [(.par 0, .slt 5 1 es)] (.row (.res 0)) [(.res 0, .slt 5 1 (es ++ u8L (hdL k.toNat is.length) ++ u8L (preB k ns is is.length)))] := by
  have hI := Items_spec k b n t ns is
  have hH : Spec Tryd.prog 58 [.row (.par 0), .t (.int .i64 k), .t (.int .u64 (IntKind.u64.wrap (is.length : Int)))] [(.par 0, .slt 5 1 es)] (.row (.res 0)) [(.res 0, .slt 5 1 (es ++ u8L (hdL k.toNat is.length)))] := by
    have e : IntKind.u64.wrap (is.length : Int) = (is.length : Int) := by
      simp only [IntKind.wrap, IntKind.bits, IntKind.signed, Bool.false_and, Bool.false_eq_true, if_false]; omega
    rw [e]
    have := cHead_spec es (by omega) k.toNat (by omega) is.length (by omega)
    rw [show (k.toNat : Int) = k by omega] at this
    exact this
  obtain rfl | rfl := hk45
  · refine spec_introG (env0 := [(0, _), (1, _)]) (st0 := [(_, some _)]) Tryd.func56 rfl rfl rfl rfl ?_
    repeat' (first | (with_reducible refine codeT_seq ?_) | (with_reducible refine codeT_block ?_) | (with_reducible refine codeT_regionL ?_) | (with_reducible refine lx_nil ?_) | (with_reducible refine q_then ?_) | (with_reducible refine q_block ?_) | refine c_condT rfl ?_ | refine c_condF rfl ?_ | ((with_reducible refine g_load ?_); first | refine lx_load_var rfl rfl rfl rfl rfl rfl rfl rfl ?_ | refine lx_load_varA (r := (.t (.agg _))) rfl rfl rfl rfl rfl rfl rfl rfl rfl ?_) | ((with_reducible refine g_fieldAddr ?_); first | refine lx_fieldAddr rfl rfl rfl rfl rfl rfl rfl ?_) | ((with_reducible refine g_binOp ?_); first | refine lx_arith rfl rfl rfl rfl rfl rfl rfl ?_) | ((with_reducible refine g_assign ?_); first | refine lx_assign (r := (.t _)) rfl rfl rfl rfl rfl ?_) | ((with_reducible refine g_box ?_); first | refine lx_box (r := (.t (.agg _))) (cs := (List.map .t _)) rfl rfl rfl rfl rfl rfl rfl rfl rfl ?_ | refine lx_box (r := (.row _)) (cs := [.row _]) rfl rfl rfl rfl rfl rfl rfl rfl rfl ?_) | ((with_reducible refine g_store ?_); first | refine lx_store_var (r := (.row _)) rfl rfl rfl rfl rfl rfl rfl rfl rfl rfl ?_) | ((with_reducible refine g_convert ?_); first | refine lx_conv_int rfl rfl rfl rfl rfl ?_) | ((with_reducible refine g_len ?_); first | refine lx_len_map rfl rfl rfl rfl rfl ?_) | ((with_reducible refine g_call ?_); first | refine lx_call (r' := .row (.loc 903)) [(.res 0, .loc 903)] rfl rfl hH (ArgsLE.refl _) rfl ⟨rfl, trivial⟩ rfl rfl rfl rfl rfl rfl rfl rfl rfl rfl ?_ | refine lx_call (r' := .fn 105 [.ref (.loc 904) 0 0 0]) [(.res 0, .loc 904)] rfl rfl hI (ArgsLE.refl _) rfl trivial rfl rfl rfl rfl rfl rfl rfl rfl rfl rfl ?_))
    refine codeT_ghost ((ghost_keep2 [2, 3, 63] [.loc 2, .loc 3, .loc 903, .loc 904] rfl rfl).trans ((ghost_tpL 3 (.loc 3) [.int .i64 4, .bool b, .int .i64 n, .str t, .sl 1 (ns.map .str), .sl 6 (is.map Nd.toT)] rfl rfl rfl rfl rfl).trans (ghost_tpF 63 (.loc 904) [.int .i64 4, .bool b, .int .i64 n, .str t, .sl 1 (ns.map .str), .sl 6 (is.map Nd.toT)] rfl rfl rfl rfl rfl))) ?_
    refine codeT_rangeFuncL (.par 50) (.loc 905) [(.par 50, .loc 905), (.par 10, .loc 2), (.par 11, .loc 903), (.res 0, .loc 906)] rfl (fun fn B => ItemsF_spec 4 b n t ns is (by omega) hk ⟨80, fn, #[64, 65], _, _, B⟩ 2 3 (.agg [.int .i64 4, .bool b, .int .i64 n, .str t, .sl 1 (ns.map .str), .sl 6 (is.map Nd.toT)]) (fun i => es ++ u8L (hdL (Int.toNat 4) is.length) ++ u8L (preB 4 ns is i)) ?_) (fun _ _ => rfl) rfl rfl rfl (ArgsLE.refl _) ⟨AVLE.refl _, AVLE.refl _, trivial⟩ rfl rfl ⟨rfl, ?_, trivial⟩ rfl rfl rfl rfl rfl rfl ?_
    rotate_left
    · have e0 : u8L (preB 4 ns is 0) = [] := by simp [preB, Nd.cbs, u8L]
      rw [e0, List.append_nil]; rfl
    · repeat' (first | (with_reducible refine codeT_seq ?_) | (with_reducible refine codeT_ret ?_) | (with_reducible refine codeT_regionL ?_) | (with_reducible refine lx_nil ?_) | (with_reducible refine q_then ?_) | (with_reducible refine q_block ?_) | ((with_reducible refine g_load ?_); first | refine lx_load_var rfl rfl rfl rfl rfl rfl rfl rfl ?_) | ((with_reducible refine g_assign ?_); first | refine lx_assign (r := (.row _)) rfl rfl rfl rfl rfl ?_))
      refine q_ghost ((ghost_keep2 [4] [.loc 906] rfl rfl).trans (ghost_renL2 (.loc 906) (.res 0) rfl rfl rfl rfl)) ?_
      exact q_done (q_ret (resT_one rfl (AVLE.of_eq rfl)) (stHas_spec ⟨rfl, trivial⟩))
    intro i hi
    have hle : (preB 4 ns is (i + 1)).length ≤ (preB 4 ns is is.length).length := preB_mono hk (by omega) (by omega)
    have hP := IH i hi (es ++ u8L (hdL (Int.toNat 4) is.length) ++ u8L (preB 4 ns is i)) (by
      rw [preB_list (by decide) hi, List.length_append] at hle
      simp only [List.length_append, u8L_len]; omega)
    have hT := (is.getD i default).toT_full
    rw [hT] at hP ⊢
    rw [preB_list (by decide) hi, u8L_append, ← List.append_assoc]
    generalize es ++ u8L (hdL (Int.toNat 4) is.length) ++ u8L (preB 4 ns is i) = xs at hP ⊢
    refine roundT_intro rfl rfl rfl rfl rfl ?_
    repeat' (first | (with_reducible refine codeT_seq ?_) | (with_reducible refine codeT_block ?_) | (with_reducible refine codeT_skip ?_) | (with_reducible refine codeT_regionL ?_) | (with_reducible refine lx_nil ?_) | (with_reducible refine q_then ?_) | (with_reducible refine q_block ?_) | refine c_condF rfl ?_ | ((with_reducible refine g_load ?_); first | refine lx_load_var rfl rfl rfl rfl rfl rfl rfl rfl ?_ | refine lx_load_varA (r := (.t (.agg _))) rfl rfl rfl rfl rfl rfl rfl rfl rfl ?_ | refine lx_load_tp rfl rfl rfl rfl rfl rfl rfl ?_) | ((with_reducible refine g_fieldAddr ?_); first | refine lx_fieldAddr_tp rfl rfl rfl rfl rfl rfl rfl ?_) | ((with_reducible refine g_binOp ?_); first | refine lx_arith rfl rfl rfl rfl rfl rfl rfl ?_) | ((with_reducible refine g_assign ?_); first | refine lx_assign (r := (.t _)) rfl rfl rfl rfl rfl ?_) | ((with_reducible refine g_alloc ?_); first | refine lx_alloc rfl rfl rfl rfl rfl rfl rfl ?_) | ((with_reducible refine g_store ?_); first | refine lx_store_var (r := (.t (.agg _))) rfl rfl rfl rfl rfl rfl rfl rfl rfl rfl ?_ | refine lx_store_var (r := (.row _)) rfl rfl rfl rfl rfl rfl rfl rfl rfl rfl ?_) | ((with_reducible refine g_call ?_); first | refine lx_call (r' := .row (.loc 907)) [(.par 0, .par 11), (.res 0, .loc 907)] rfl rfl hP (ArgsLE.refl _) rfl ⟨rfl, trivial⟩ rfl rfl rfl rfl rfl rfl rfl rfl rfl rfl ?_))
    refine q_ghost ((ghost_keep2 [] [.par 10, .loc 907] rfl rfl).trans (ghost_renL2 (.loc 907) (.res 0) rfl rfl rfl rfl)) ?_
    exact q_round ⟨rfl, rfl, trivial⟩
  · refine spec_introG (env0 := [(0, _), (1, _)]) (st0 := [(_, some _)]) Tryd.func56 rfl rfl rfl rfl ?_
    repeat' (first | (with_reducible refine codeT_seq ?_) | (with_reducible refine codeT_block ?_) | (with_reducible refine codeT_regionL ?_) | (with_reducible refine lx_nil ?_) | (with_reducible refine q_then ?_) | (with_reducible refine q_block ?_) | refine c_condF rfl ?_ | ((with_reducible refine g_load ?_); first | refine lx_load_var rfl rfl rfl rfl rfl rfl rfl rfl ?_ | refine lx_load_varA (r := (.t (.agg _))) rfl rfl rfl rfl rfl rfl rfl rfl rfl ?_) | ((with_reducible refine g_fieldAddr ?_); first | refine lx_fieldAddr rfl rfl rfl rfl rfl rfl rfl ?_) | ((with_reducible refine g_binOp ?_); first | refine lx_arith rfl rfl rfl rfl rfl rfl rfl ?_) | ((with_reducible refine g_assign ?_); first | refine lx_assign (r := (.t _)) rfl rfl rfl rfl rfl ?_) | ((with_reducible refine g_box ?_); first | refine lx_box (r := (.t (.agg _))) (cs := (List.map .t _)) rfl rfl rfl rfl rfl rfl rfl rfl rfl ?_ | refine lx_box (r := (.row _)) (cs := [.row _]) rfl rfl rfl rfl rfl rfl rfl rfl rfl ?_) | ((with_reducible refine g_store ?_); first | refine lx_store_var (r := (.row _)) rfl rfl rfl rfl rfl rfl rfl rfl rfl rfl ?_) | ((with_reducible refine g_convert ?_); first | refine lx_conv_int rfl rfl rfl rfl rfl ?_) | ((with_reducible refine g_len ?_); first | refine lx_len_map rfl rfl rfl rfl rfl ?_) | ((with_reducible refine g_call ?_); first | refine lx_call (r' := .row (.loc 903)) [(.res 0, .loc 903)] rfl rfl hH (ArgsLE.refl _) rfl ⟨rfl, trivial⟩ rfl rfl rfl rfl rfl rfl rfl rfl rfl rfl ?_ | refine lx_call (r' := .fn 105 [.ref (.loc 904) 0 0 0]) [(.res 0, .loc 904)] rfl rfl hI (ArgsLE.refl _) rfl trivial rfl rfl rfl rfl rfl rfl rfl rfl rfl rfl ?_))
    refine codeT_ghost ((ghost_keep2 [2, 3, 63] [.loc 2, .loc 3, .loc 903, .loc 904] rfl rfl).trans ((ghost_tpL 3 (.loc 3) [.int .i64 5, .bool b, .int .i64 n, .str t, .sl 1 (ns.map .str), .sl 6 (is.map Nd.toT)] rfl rfl rfl rfl rfl).trans (ghost_tpF 63 (.loc 904) [.int .i64 5, .bool b, .int .i64 n, .str t, .sl 1 (ns.map .str), .sl 6 (is.map Nd.toT)] rfl rfl rfl rfl rfl))) ?_
    refine codeT_rangeFuncL (.par 50) (.loc 905) [(.par 50, .loc 905), (.par 10, .loc 2), (.par 11, .loc 903), (.res 0, .loc 906)] rfl (fun fn B => ItemsF_spec 5 b n t ns is (by omega) hk ⟨80, fn, #[64, 65], _, _, B⟩ 2 3 (.agg [.int .i64 5, .bool b, .int .i64 n, .str t, .sl 1 (ns.map .str), .sl 6 (is.map Nd.toT)]) (fun i => es ++ u8L (hdL (Int.toNat 5) is.length) ++ u8L (preB 5 ns is i)) ?_) (fun _ _ => rfl) rfl rfl rfl (ArgsLE.refl _) ⟨AVLE.refl _, AVLE.refl _, trivial⟩ rfl rfl ⟨rfl, ?_, trivial⟩ rfl rfl rfl rfl rfl rfl ?_
    rotate_left
    · have e0 : u8L (preB 5 ns is 0) = [] := by simp [preB, Nd.cbm, u8L]
      rw [e0, List.append_nil]; rfl
    · repeat' (first | (with_reducible refine codeT_seq ?_) | (with_reducible refine codeT_ret ?_) | (with_reducible refine codeT_regionL ?_) | (with_reducible refine lx_nil ?_) | (with_reducible refine q_then ?_) | (with_reducible refine q_block ?_) | ((with_reducible refine g_load ?_); first | refine lx_load_var rfl rfl rfl rfl rfl rfl rfl rfl ?_) | ((with_reducible refine g_assign ?_); first | refine lx_assign (r := (.row _)) rfl rfl rfl rfl rfl ?_))
      refine q_ghost ((ghost_keep2 [4] [.loc 906] rfl rfl).trans (ghost_renL2 (.loc 906) (.res 0) rfl rfl rfl rfl)) ?_
      exact q_done (q_ret (resT_one rfl (AVLE.of_eq rfl)) (stHas_spec ⟨rfl, trivial⟩))
    intro i hi
    have hle : (preB 5 ns is (i + 1)).length ≤ (preB 5 ns is is.length).length := preB_mono hk (by omega) (by omega)
    have hl5 := hk rfl
    have hsz : (ns.getD i default).size ≤ 65536 := hns _ (by rw [List.getD_eq_getElem?_getD, List.getElem?_eq_getElem (by omega)]; simp)
    have hnm : nameAt 5 ns i = ns.getD i default := by simp [nameAt]
    rw [hnm]
    rw [preB_map hl5 hi, List.length_append, List.length_append, List.length_append] at hle
    rw [preB_map hl5 hi, u8L_append, u8L_append, u8L_append, ← List.append_assoc, ← List.append_assoc, ← List.append_assoc]
    have hd : (ns.getD i default).data.toList.length = (ns.getD i default).size := by rw [Array.length_toList]; rfl
    have hxs : (es ++ u8L (hdL (Int.toNat 5) is.length) ++ u8L (preB 5 ns is i)).length + (hdL 3 (ns.getD i default).size).length + (ns.getD i default).size + (is.getD i default).cb.length ≤ 50000000 := by
      simp only [List.length_append, u8L_len]; omega
    have hP := IH i hi
    have hT := (is.getD i default).toT_full
    rw [hT] at hP ⊢
    generalize es ++ u8L (hdL (Int.toNat 5) is.length) ++ u8L (preB 5 ns is i) = xs at hP hxs ⊢
    generalize ns.getD i default = s at hd hsz hxs ⊢
    have hH3 : Spec Tryd.prog 58 [.row (.par 0), .t (.int .i64 3), .t (.int .u64 (IntKind.u64.wrap (s.size : Int)))] [(.par 0, .slt 5 1 xs)] (.row (.res 0)) [(.res 0, .slt 5 1 (xs ++ u8L (hdL 3 s.size)))] := by
      have e : IntKind.u64.wrap (s.size : Int) = (s.size : Int) := by
        simp only [IntKind.wrap, IntKind.bits, IntKind.signed, Bool.false_and, Bool.false_eq_true, if_false]; omega
      rw [e]
      exact cHead_spec xs (by omega) 3 (by omega) s.size (by omega)
    have hP2 := hP (xs ++ u8L (hdL 3 s.size) ++ u8L s.data.toList) (by simp only [List.length_append, u8L_len]; omega)
    refine roundT_intro rfl rfl rfl rfl rfl ?_
    repeat' (first | (with_reducible refine codeT_seq ?_) | (with_reducible refine codeT_block ?_) | (with_reducible refine codeT_regionL ?_) | (with_reducible refine lx_nil ?_) | (with_reducible refine q_then ?_) | (with_reducible refine q_block ?_) | refine c_condT rfl ?_ | ((with_reducible refine g_move ?_); first | refine lx_move (r := (.t _)) rfl rfl rfl rfl rfl ?_) | ((with_reducible refine g_load ?_); first | refine lx_load_var rfl rfl rfl rfl rfl rfl rfl rfl ?_ | refine lx_load_varA (r := (.t (.agg _))) rfl rfl rfl rfl rfl rfl rfl rfl rfl ?_ | refine lx_load_tp rfl rfl rfl rfl rfl rfl rfl ?_) | ((with_reducible refine g_fieldAddr ?_); first | refine lx_fieldAddr_tp rfl rfl rfl rfl rfl rfl rfl ?_) | ((with_reducible refine g_binOp ?_); first | refine lx_arith rfl rfl rfl rfl rfl rfl rfl ?_) | ((with_reducible refine g_assign ?_); first | refine lx_assign (r := (.t _)) rfl rfl rfl rfl rfl ?_) | ((with_reducible refine g_alloc ?_); first | refine lx_alloc rfl rfl rfl rfl rfl rfl rfl ?_) | ((with_reducible refine g_store ?_); first | refine lx_store_var (r := (.t (.agg _))) rfl rfl rfl rfl rfl rfl rfl rfl rfl rfl ?_ | refine lx_store_var (r := (.row _)) rfl rfl rfl rfl rfl rfl rfl rfl rfl rfl ?_) | ((with_reducible refine g_convert ?_); first | refine lx_conv_int rfl rfl rfl rfl rfl ?_) | ((with_reducible refine g_len ?_); first | refine lx_len_str rfl rfl rfl rfl rfl ?_) | ((with_reducible refine g_append ?_); first | refine lx_append_str rfl rfl rfl rfl rfl rfl rfl rfl rfl ?_ ?_ ?_) | ((with_reducible refine g_call ?_); first | refine lx_call (r' := .row (.loc 908)) [(.par 0, .par 11), (.res 0, .loc 908)] rfl rfl hH3 (ArgsLE.refl _) rfl ⟨rfl, trivial⟩ rfl rfl rfl rfl rfl rfl rfl rfl rfl rfl ?_ | refine lx_call (r' := .row (.loc 907)) [(.par 0, .loc 75), (.res 0, .loc 907)] rfl rfl hP2 (ArgsLE.refl _) rfl ⟨rfl, trivial⟩ rfl rfl rfl rfl rfl rfl rfl rfl rfl rfl ?_))
    · simp only [List.length_append, u8L_len, bytesT, List.length_map]; omega
    · simp only [List.length_append, u8L_len, bytesT, List.length_map]; omega
    refine q_ghost ((ghost_keep2 [] [.par 10, .loc 907] rfl rfl).trans (ghost_renL2 (.loc 907) (.res 0) rfl rfl rfl rfl)) ?_
    exact q_round ⟨rfl, rfl, trivial⟩

theorem cpl64 {n : Int} (h0 : -9223372036854775808 ≤ n) (h1 : n ≤ 9223372036854775807) : IntKind.i64.wrap ((BitVec.ofInt IntKind.i64.bits (if IntKind.i64.signed then -1 else IntKind.i64.max)) ^^^ BitVec.ofInt IntKind.i64.bits n).toNat = -1 - n := by
  show IntKind.i64.wrap (((BitVec.ofInt 64 (-1)) ^^^ BitVec.ofInt 64 n).toNat : Int) = _
  have e2 : ((BitVec.ofInt 64 (-1)) ^^^ BitVec.ofInt 64 n).toNat = 18446744073709551615 - (n % 18446744073709551616).toNat := by
    rw [show BitVec.ofInt 64 (-1) = BitVec.allOnes 64 by decide, BitVec.allOnes_xor, BitVec.toNat_not, BitVec.toNat_ofInt]
    rfl
  rw [e2]
  simp only [IntKind.wrap, IntKind.signed, IntKind.bits]
  simp
  split <;> omega
theorem wrapU64 {n : Int} (h0 : 0 ≤ n) (h : n < 18446744073709551616) : IntKind.u64.wrap n = n := by
  simp only [IntKind.wrap, IntKind.bits, IntKind.signed, Bool.false_and, Bool.false_eq_true, if_false]
  omega
set_option maxHeartbeats 8000000 in
theorem cput_spec {V : ByteArray → Bool} : ∀ (x : Nd) (e : Int), x.validB V e = true → x.In → ∀ es : List T, es.length + x.cb.length ≤ 50000000 →
    Spec Tryd.prog 56 [.row (.par 0), .t x.toT] [(.par 0, .slt 5 1 es)] (.row (.res 0)) [(.res 0, .slt 5 1 (es ++ u8L x.cb))]
  | .mk k b n t ns is, e, hv, hin, es, hb => by
    rw [valid_mk] at hv
    obtain ⟨h1, h2, h3, h4, h5, h6, h7, h8⟩ := hv
    cases hin with
    | mk i1 i2 i3 =>
    rw [Nd.toT_eq]
    have hk : k = 0 ∨ k = 1 ∨ k = 2 ∨ k = 3 ∨ (k = 4 ∨ k = 5) := by omega
    rcases hk with rfl | rfl | rfl | rfl | hk
    · have hH : Spec Tryd.prog 58 [.row (.par 0), .t (.int .i64 7), .t (.int .u64 22)] [(.par 0, .slt 5 1 es)] (.row (.res 0)) [(.res 0, .slt 5 1 (es ++ u8L (hdL 7 22)))] := cHead_spec es (by omega) 7 (by omega) 22 (by omega)
      have ec : (Nd.mk 0 b n t ns is).cb = hdL 7 22 := by simp [Nd.cb]
      rw [ec]
      refine spec_introG (env0 := [(0, _), (1, _)]) (st0 := [(_, some _)]) Tryd.func56 rfl rfl rfl rfl ?_
      repeat' (first | (with_reducible refine codeT_seq ?_) | (with_reducible refine codeT_block ?_) | (with_reducible refine codeT_ret ?_) | (with_reducible refine codeT_regionL ?_) | (with_reducible refine lx_nil ?_) | (with_reducible refine q_then ?_) | (with_reducible refine q_then_ret ?_) | (with_reducible refine q_block_ret ?_) | refine c_condT rfl ?_ | ((with_reducible refine g_load ?_); first | refine lx_load_var rfl rfl rfl rfl rfl rfl rfl rfl ?_) | ((with_reducible refine g_fieldAddr ?_); first | refine lx_fieldAddr rfl rfl rfl rfl rfl rfl rfl ?_) | ((with_reducible refine g_binOp ?_); first | refine lx_arith rfl rfl rfl rfl rfl rfl rfl ?_) | ((with_reducible refine g_assign ?_); first | refine lx_assign (r := (.t _)) rfl rfl rfl rfl rfl ?_ | refine lx_assign (r := (.row _)) rfl rfl rfl rfl rfl ?_) | ((with_reducible refine g_box ?_); first | refine lx_box (r := (.t (.agg _))) (cs := (List.map .t _)) rfl rfl rfl rfl rfl rfl rfl rfl rfl ?_ | refine lx_box (r := (.row _)) (cs := [.row _]) rfl rfl rfl rfl rfl rfl rfl rfl rfl ?_) | ((with_reducible refine g_call ?_); first | refine lx_call (r' := .row (.loc 903)) [(.res 0, .loc 903)] rfl rfl hH (ArgsLE.refl _) rfl ⟨rfl, trivial⟩ rfl rfl rfl rfl rfl rfl rfl rfl rfl rfl ?_))
      refine q_ghost ((ghost_keep2 [4] [.loc 903] rfl rfl).trans (ghost_renL2 (.loc 903) (.res 0) rfl rfl rfl rfl)) ?_
      exact q_done (q_ret (resT_one rfl (AVLE.of_eq rfl)) (stHas_spec ⟨rfl, trivial⟩))
    · have ec : (Nd.mk 1 b n t ns is).cb = hdL 7 (if b then 21 else 20) := by simp [Nd.cb]
      rw [ec]
      cases b with
      | true =>
        have hH : Spec Tryd.prog 58 [.row (.par 0), .t (.int .i64 7), .t (.int .u64 21)] [(.par 0, .slt 5 1 es)] (.row (.res 0)) [(.res 0, .slt 5 1 (es ++ u8L (hdL 7 21)))] := cHead_spec es (by omega) 7 (by omega) 21 (by omega)
        refine spec_introG (env0 := [(0, _), (1, _)]) (st0 := [(_, some _)]) Tryd.func56 rfl rfl rfl rfl ?_
        repeat' (first | (with_reducible refine codeT_seq ?_) | (with_reducible refine codeT_block ?_) | (with_reducible refine codeT_ret ?_) | (with_reducible refine codeT_regionL ?_) | (with_reducible refine lx_nil ?_) | (with_reducible refine q_then ?_) | (with_reducible refine q_then_ret ?_) | (with_reducible refine q_block_ret ?_) | refine c_condT rfl ?_ | refine c_condF rfl ?_ | ((with_reducible refine g_load ?_); first | refine lx_load_var rfl rfl rfl rfl rfl rfl rfl rfl ?_) | ((with_reducible refine g_fieldAddr ?_); first | refine lx_fieldAddr rfl rfl rfl rfl rfl rfl rfl ?_) | ((with_reducible refine g_binOp ?_); first | refine lx_arith rfl rfl rfl rfl rfl rfl rfl ?_) | ((with_reducible refine g_assign ?_); first | refine lx_assign (r := (.t _)) rfl rfl rfl rfl rfl ?_ | refine lx_assign (r := (.row _)) rfl rfl rfl rfl rfl ?_) | ((with_reducible refine g_box ?_); first | refine lx_box (r := (.t (.agg _))) (cs := (List.map .t _)) rfl rfl rfl rfl rfl rfl rfl rfl rfl ?_ | refine lx_box (r := (.row _)) (cs := [.row _]) rfl rfl rfl rfl rfl rfl rfl rfl rfl ?_) | ((with_reducible refine g_call ?_); first | refine lx_call (r' := .row (.loc 903)) [(.res 0, .loc 903)] rfl rfl hH (ArgsLE.refl _) rfl ⟨rfl, trivial⟩ rfl rfl rfl rfl rfl rfl rfl rfl rfl rfl ?_))
        refine q_ghost ((ghost_keep2 [4] [.loc 903] rfl rfl).trans (ghost_renL2 (.loc 903) (.res 0) rfl rfl rfl rfl)) ?_
        exact q_done (q_ret (resT_one rfl (AVLE.of_eq rfl)) (stHas_spec ⟨rfl, trivial⟩))
      | false =>
        have hH : Spec Tryd.prog 58 [.row (.par 0), .t (.int .i64 7), .t (.int .u64 20)] [(.par 0, .slt 5 1 es)] (.row (.res 0)) [(.res 0, .slt 5 1 (es ++ u8L (hdL 7 20)))] := cHead_spec es (by omega) 7 (by omega) 20 (by omega)
        refine spec_introG (env0 := [(0, _), (1, _)]) (st0 := [(_, some _)]) Tryd.func56 rfl rfl rfl rfl ?_
        repeat' (first | (with_reducible refine codeT_seq ?_) | (with_reducible refine codeT_block ?_) | (with_reducible refine codeT_skip ?_) | (with_reducible refine codeT_ret ?_) | (with_reducible refine codeT_regionL ?_) | (with_reducible refine lx_nil ?_) | (with_reducible refine q_then ?_) | (with_reducible refine q_then_ret ?_) | (with_reducible refine q_block_ret ?_) | refine c_condT rfl ?_ | refine c_condF rfl ?_ | ((with_reducible refine g_load ?_); first | refine lx_load_var rfl rfl rfl rfl rfl rfl rfl rfl ?_) | ((with_reducible refine g_fieldAddr ?_); first | refine lx_fieldAddr rfl rfl rfl rfl rfl rfl rfl ?_) | ((with_reducible refine g_binOp ?_); first | refine lx_arith rfl rfl rfl rfl rfl rfl rfl ?_) | ((with_reducible refine g_assign ?_); first | refine lx_assign (r := (.t _)) rfl rfl rfl rfl rfl ?_ | refine lx_assign (r := (.row _)) rfl rfl rfl rfl rfl ?_) | ((with_reducible refine g_box ?_); first | refine lx_box (r := (.t (.agg _))) (cs := (List.map .t _)) rfl rfl rfl rfl rfl rfl rfl rfl rfl ?_ | refine lx_box (r := (.row _)) (cs := [.row _]) rfl rfl rfl rfl rfl rfl rfl rfl rfl ?_) | ((with_reducible refine g_call ?_); first | refine lx_call (r' := .row (.loc 903)) [(.res 0, .loc 903)] rfl rfl hH (ArgsLE.refl _) rfl ⟨rfl, trivial⟩ rfl rfl rfl rfl rfl rfl rfl rfl rfl rfl ?_))
        refine q_ghost ((ghost_keep2 [4] [.loc 903] rfl rfl).trans (ghost_renL2 (.loc 903) (.res 0) rfl rfl rfl rfl)) ?_
        exact q_done (q_ret (resT_one rfl (AVLE.of_eq rfl)) (stHas_spec ⟨rfl, trivial⟩))
    · have ec : (Nd.mk 2 b n t ns is).cb = if n < 0 then hdL 1 (-1 - n).toNat else hdL 0 n.toNat := by simp [Nd.cb]
      rw [ec]
      by_cases hn : n < 0
      · rw [if_pos hn]
        have hH : Spec Tryd.prog 58 [.row (.par 0), .t (.int .i64 1), .t (.int .u64 (IntKind.u64.wrap (IntKind.i64.wrap ((BitVec.ofInt IntKind.i64.bits (if IntKind.i64.signed then -1 else IntKind.i64.max)) ^^^ BitVec.ofInt IntKind.i64.bits n).toNat)))] [(.par 0, .slt 5 1 es)] (.row (.res 0)) [(.res 0, .slt 5 1 (es ++ u8L (hdL 1 (-1 - n).toNat)))] := by
          have := cHead_spec es (by omega) 1 (by omega) (-1 - n).toNat (by omega)
          rw [cpl64 i1 i2]
          rw [show (((-1 - n).toNat : Nat) : Int) = IntKind.u64.wrap (-1 - n) by rw [wrapU64 (by omega) (by omega)]; omega] at this
          exact this
        refine spec_introG (env0 := [(0, _), (1, _)]) (st0 := [(_, some _)]) Tryd.func56 rfl rfl rfl rfl ?_
        repeat' (first | (with_reducible refine codeT_seq ?_) | (with_reducible refine codeT_block ?_) | (with_reducible refine codeT_skip ?_) | (with_reducible refine codeT_ret ?_) | (with_reducible refine codeT_regionL ?_) | (with_reducible refine lx_nil ?_) | (with_reducible refine q_then ?_) | (with_reducible refine q_then_ret ?_) | (with_reducible refine q_block_ret ?_) | refine c_condT rfl ?_ | refine c_condF rfl ?_ | ((with_reducible refine g_load ?_); first | refine lx_load_var rfl rfl rfl rfl rfl rfl rfl rfl ?_) | ((with_reducible refine g_fieldAddr ?_); first | refine lx_fieldAddr rfl rfl rfl rfl rfl rfl rfl ?_) | ((with_reducible refine g_binOp ?_); first | refine lx_arith rfl rfl rfl rfl rfl rfl rfl ?_) | ((with_reducible refine g_assign ?_); first | refine lx_assign (r := (.t _)) rfl rfl rfl rfl rfl ?_ | refine lx_assign (r := (.row _)) rfl rfl rfl rfl rfl ?_) | ((with_reducible refine g_box ?_); first | refine lx_box (r := (.t (.agg _))) (cs := (List.map .t _)) rfl rfl rfl rfl rfl rfl rfl rfl rfl ?_ | refine lx_box (r := (.row _)) (cs := [.row _]) rfl rfl rfl rfl rfl rfl rfl rfl rfl ?_) | ((with_reducible refine g_unOp ?_); first | refine lx_cpl rfl rfl rfl rfl rfl ?_) | ((with_reducible refine g_convert ?_); first | refine lx_conv_int rfl rfl rfl rfl rfl ?_) | ((with_reducible refine g_call ?_); first | refine lx_call (r' := .row (.loc 903)) [(.res 0, .loc 903)] rfl rfl hH (ArgsLE.refl _) rfl ⟨rfl, trivial⟩ rfl rfl rfl rfl rfl rfl rfl rfl rfl rfl ?_) | refine c_condP rfl (fun hc => ?_) (fun hc => ?_))
        all_goals try (exfalso; omega)
        refine q_ghost ((ghost_keep2 [4] [.loc 903] rfl rfl).trans (ghost_renL2 (.loc 903) (.res 0) rfl rfl rfl rfl)) ?_
        exact q_done (q_ret (resT_one rfl (AVLE.of_eq rfl)) (stHas_spec ⟨rfl, trivial⟩))
      · rw [if_neg hn]
        have hH : Spec Tryd.prog 58 [.row (.par 0), .t (.int .i64 0), .t (.int .u64 (IntKind.u64.wrap n))] [(.par 0, .slt 5 1 es)] (.row (.res 0)) [(.res 0, .slt 5 1 (es ++ u8L (hdL 0 n.toNat)))] := by
          have := cHead_spec es (by omega) 0 (by omega) n.toNat (by omega)
          rw [show ((n.toNat : Nat) : Int) = IntKind.u64.wrap n by rw [wrapU64 (by omega) (by omega)]; omega] at this
          exact this
        refine spec_introG (env0 := [(0, _), (1, _)]) (st0 := [(_, some _)]) Tryd.func56 rfl rfl rfl rfl ?_
        repeat' (first | (with_reducible refine codeT_seq ?_) | (with_reducible refine codeT_block ?_) | (with_reducible refine codeT_skip ?_) | (with_reducible refine codeT_ret ?_) | (with_reducible refine codeT_regionL ?_) | (with_reducible refine lx_nil ?_) | (with_reducible refine q_then ?_) | (with_reducible refine q_then_ret ?_) | (with_reducible refine q_block_ret ?_) | refine c_condT rfl ?_ | refine c_condF rfl ?_ | ((with_reducible refine g_load ?_); first | refine lx_load_var rfl rfl rfl rfl rfl rfl rfl rfl ?_) | ((with_reducible refine g_fieldAddr ?_); first | refine lx_fieldAddr rfl rfl rfl rfl rfl rfl rfl ?_) | ((with_reducible refine g_binOp ?_); first | refine lx_arith rfl rfl rfl rfl rfl rfl rfl ?_) | ((with_reducible refine g_assign ?_); first | refine lx_assign (r := (.t _)) rfl rfl rfl rfl rfl ?_ | refine lx_assign (r := (.row _)) rfl rfl rfl rfl rfl ?_) | ((with_reducible refine g_box ?_); first | refine lx_box (r := (.t (.agg _))) (cs := (List.map .t _)) rfl rfl rfl rfl rfl rfl rfl rfl rfl ?_ | refine lx_box (r := (.row _)) (cs := [.row _]) rfl rfl rfl rfl rfl rfl rfl rfl rfl ?_) | ((with_reducible refine g_unOp ?_); first | refine lx_cpl rfl rfl rfl rfl rfl ?_) | ((with_reducible refine g_convert ?_); first | refine lx_conv_int rfl rfl rfl rfl rfl ?_) | ((with_reducible refine g_call ?_); first | refine lx_call (r' := .row (.loc 903)) [(.res 0, .loc 903)] rfl rfl hH (ArgsLE.refl _) rfl ⟨rfl, trivial⟩ rfl rfl rfl rfl rfl rfl rfl rfl rfl rfl ?_) | refine c_condP rfl (fun hc => ?_) (fun hc => ?_))
        all_goals try (exfalso; omega)
        refine q_ghost ((ghost_keep2 [4] [.loc 903] rfl rfl).trans (ghost_renL2 (.loc 903) (.res 0) rfl rfl rfl rfl)) ?_
        exact q_done (q_ret (resT_one rfl (AVLE.of_eq rfl)) (stHas_spec ⟨rfl, trivial⟩))
    · have ec : (Nd.mk 3 b n t ns is).cb = hdL 3 t.size ++ t.data.toList := by simp [Nd.cb]
      have ht : t.size ≤ 65536 := by
        simp only [textB, Bool.and_eq_true, decide_eq_true_eq] at h5; omega
      rw [ec] at hb ⊢
      have hd : t.data.toList.length = t.size := by rw [Array.length_toList]; rfl
      have hH : Spec Tryd.prog 58 [.row (.par 0), .t (.int .i64 3), .t (.int .u64 (IntKind.u64.wrap (t.size : Int)))] [(.par 0, .slt 5 1 es)] (.row (.res 0)) [(.res 0, .slt 5 1 (es ++ u8L (hdL 3 t.size)))] := by
        rw [wrapU64 (by omega) (by omega)]
        exact cHead_spec es (by omega) 3 (by omega) t.size (by omega)
      rw [u8L_append, ← List.append_assoc]
      refine spec_introG (env0 := [(0, _), (1, _)]) (st0 := [(_, some _)]) Tryd.func56 rfl rfl rfl rfl ?_
      repeat' (first | (with_reducible refine codeT_seq ?_) | (with_reducible refine codeT_block ?_) | (with_reducible refine codeT_ret ?_) | (with_reducible refine codeT_regionL ?_) | ((with_reducible refine codeT_region_drawL ?_ ?_); · rfl) | (with_reducible refine lx_nil ?_) | (with_reducible refine q_then ?_) | (with_reducible refine q_then_ret ?_) | (with_reducible refine q_block_ret ?_) | ((with_reducible refine q_region_draw ?_ ?_); · rfl) | refine c_condT rfl ?_ | refine c_condF rfl ?_ | ((with_reducible refine g_load ?_); first | refine lx_load_var rfl rfl rfl rfl rfl rfl rfl rfl ?_) | ((with_reducible refine g_fieldAddr ?_); first | refine lx_fieldAddr rfl rfl rfl rfl rfl rfl rfl ?_) | ((with_reducible refine g_binOp ?_); first | refine lx_arith rfl rfl rfl rfl rfl rfl rfl ?_) | ((with_reducible refine g_assign ?_); first | refine lx_assign (r := (.t _)) rfl rfl rfl rfl rfl ?_ | refine lx_assign (r := (.row _)) rfl rfl rfl rfl rfl ?_) | ((with_reducible refine g_box ?_); first | refine lx_box (r := (.t (.agg _))) (cs := (List.map .t _)) rfl rfl rfl rfl rfl rfl rfl rfl rfl ?_ | refine lx_box (r := (.row _)) (cs := [.row _]) rfl rfl rfl rfl rfl rfl rfl rfl rfl ?_) | ((with_reducible refine g_convert ?_); first | refine lx_conv_int rfl rfl rfl rfl rfl ?_) | ((with_reducible refine g_len ?_); first | refine lx_len_str rfl rfl rfl rfl rfl ?_) | ((with_reducible refine g_append ?_); first | refine lx_append_str rfl rfl rfl rfl rfl rfl rfl rfl rfl ?_ ?_ ?_) | ((with_reducible refine g_call ?_); first | refine lx_call (r' := .row (.loc 903)) [(.res 0, .loc 903)] rfl rfl hH (ArgsLE.refl _) rfl ⟨rfl, trivial⟩ rfl rfl rfl rfl rfl rfl rfl rfl rfl rfl ?_))
      · simp only [List.length_append, u8L_len, bytesT, List.length_map] at hb ⊢; omega
      · simp only [List.length_append, u8L_len, bytesT, List.length_map] at hb ⊢; omega
      refine q_ghost ((ghost_keep2 [4] [.loc 53] rfl rfl).trans (ghost_renL2 (.loc 53) (.res 0) rfl rfl rfl rfl)) ?_
      exact q_done (q_ret (resT_one rfl (AVLE.of_eq rfl)) (stHas_spec ⟨rfl, trivial⟩))
    · have ec : (Nd.mk k b n t ns is).cb = hdL k.toNat is.length ++ preB k ns is is.length := by
        have e1 : is.take is.length = is := List.take_length
        rcases hk with rfl | rfl
        · simp [Nd.cb, preB]
        · have e2 : ns.take is.length = ns := by rw [← (h7 rfl).2]; exact List.take_length
          simp [Nd.cb, preB, e2]
      rw [ec] at hb ⊢
      rw [u8L_append, ← List.append_assoc]
      rw [List.length_append] at hb
      have hl : k = 5 → ns.length = is.length := fun h => by have := (h7 h).2; omega
      refine cput_seq k hk b n t ns is (by omega) hl (fun s hs => ?_) es (by omega) fun i hi es' hb' => ?_
      · by_cases h : k = 5
        · have := ((namesOk_iff (textB V) ns []).1 (h7 h).1).2 s hs
          have := this.2
          simp only [textB, Bool.and_eq_true, decide_eq_true_eq] at this; omega
        · have hz : ns.length = 0 := by
            simp only [Nd.fieldsOK, Bool.and_eq_true, Bool.or_eq_true, decide_eq_true_eq] at h4
            have := h4.2; omega
          rw [List.eq_nil_of_length_eq_zero hz] at hs; cases hs
      · have hm : is.getD i default ∈ is := by rw [List.getD_eq_getElem?_getD, List.getElem?_eq_getElem hi]; exact List.getElem_mem _
        exact cput_spec (is.getD i default) (e - 1) (h8 _ hm) (i3 _ hm) es' hb'
termination_by x => SizeOf.sizeOf x
decreasing_by
  have := List.sizeOf_lt_of_mem hm
  simp only [Nd.mk.sizeOf_spec]
  omega
end Go.AL
/- What parse.Checked, cbor.Encode and cbor.Head answer. -/
set_option linter.unusedVariables false
namespace Go.AL
open Go Go.Proofs Go.RowKit

theorem u8L_isU8 (l : List UInt8) : IsU8 (u8L l) := by
  intro e he
  simp only [u8L, List.mem_map] at he
  obtain ⟨b, _, rfl⟩ := he
  rfl
theorem strT_u8L (l : List UInt8) : strT (u8L l) = ofL l := by
  unfold strT u8L strOfNums ofL
  rw [List.map_map, List.map_map]
  have : (((fun n => UInt8.ofNat n.toNat) ∘ T.num) ∘ u8T) = id := by
    funext b
    show UInt8.ofNat ((b.toNat : Int).toNat) = b
    simp
  rw [this, List.map_id]


set_option maxHeartbeats 2000000 in
theorem cHeadS_spec (m : Int) (n : Nat) (hn : n < 18446744073709551616) : Spec Tryd.prog 36 [.t (.int .i64 m), .t (.int .u64 (n : Int))] [] (.tup [.t (.str (if 0 ≤ m ∧ m ≤ 7 then ofL (hdL m.toNat n) else eS)), .t (.int .i64 (if 0 ≤ m ∧ m ≤ 7 then 0 else 2))]) [] := by
  by_cases hm : 0 ≤ m ∧ m ≤ 7
  · rw [if_pos hm, if_pos hm]
    have hH := Spec.nilArg (cHead_spec [] (by simp) m.toNat (by omega) n hn) rfl rfl rfl
    rw [show ((m.toNat : Nat) : Int) = m by omega, List.nil_append] at hH
    refine spec_intro (env0 := [(0, _), (1, _)]) (st0 := []) Tryd.func36 rfl rfl rfl rfl ?_
    repeat' (first | (with_reducible refine codeT_seq ?_) | (with_reducible refine codeT_skip ?_) | (with_reducible refine codeT_ret ?_) | (with_reducible refine codeT_regionL ?_) | (with_reducible refine lx_nil ?_) | (with_reducible refine q_then ?_) | (with_reducible refine q_then_ret ?_) | refine c_condT rfl ?_ | ((with_reducible refine g_guard ?_); first | refine lx_skip rfl rfl rfl ?_) | ((with_reducible refine g_move ?_); first | refine lx_move (r := (.t _)) rfl rfl rfl rfl rfl ?_) | ((with_reducible refine g_binOp ?_); first | refine lx_arith rfl rfl rfl rfl rfl rfl rfl ?_) | ((with_reducible refine g_assign ?_); first | refine lx_assign (r := (.t _)) rfl rfl rfl rfl rfl ?_) | ((with_reducible refine g_pick ?_); first | refine lx_pickT (r := (.t _)) rfl rfl rfl rfl rfl rfl ?_ | refine lx_pickF (r := (.t _)) rfl rfl rfl rfl rfl rfl ?_) | ((with_reducible refine g_convert ?_); first | refine lx_ofBytes_row rfl rfl rfl rfl rfl rfl ?_ ?_) | ((with_reducible refine g_call ?_); first | refine lx_call (r' := .row (.loc 903)) [(.res 0, .loc 903)] rfl rfl hH (ArgsLE.refl _) rfl trivial rfl rfl rfl rfl rfl rfl rfl rfl rfl rfl ?_) | refine c_condP rfl (fun hc => ?_) (fun hc => ?_) | refine lx_splitP rfl (fun hc => ?_) (fun hc => ?_))
    all_goals try omega
    · exact u8L_isU8 _
    · refine q_ret (resT_twoE rfl rfl rfl (by rw [strT_u8L]) rfl) (by simp)
  · rw [if_neg hm, if_neg hm]
    refine spec_intro (env0 := [(0, _), (1, _)]) (st0 := []) Tryd.func36 rfl rfl rfl rfl ?_
    repeat' (first | (with_reducible refine codeT_seq ?_) | (with_reducible refine codeT_skip ?_) | (with_reducible refine codeT_ret ?_) | (with_reducible refine codeT_regionL ?_) | (with_reducible refine lx_nil ?_) | (with_reducible refine q_then ?_) | (with_reducible refine q_then_ret ?_) | refine c_condT rfl ?_ | ((with_reducible refine g_guard ?_); first | refine lx_skip rfl rfl rfl ?_) | ((with_reducible refine g_move ?_); first | refine lx_move (r := (.t _)) rfl rfl rfl rfl rfl ?_) | ((with_reducible refine g_binOp ?_); first | refine lx_arith rfl rfl rfl rfl rfl rfl rfl ?_) | ((with_reducible refine g_assign ?_); first | refine lx_assign (r := (.t _)) rfl rfl rfl rfl rfl ?_) | ((with_reducible refine g_pick ?_); first | refine lx_pickT (r := (.t _)) rfl rfl rfl rfl rfl rfl ?_ | refine lx_pickF (r := (.t _)) rfl rfl rfl rfl rfl rfl ?_) | refine c_condP rfl (fun hc => ?_) (fun hc => ?_) | refine lx_splitP rfl (fun hc => ?_) (fun hc => ?_))
    all_goals try omega
    all_goals exact q_ret (resT_twoE rfl rfl rfl rfl rfl) (by simp)

set_option maxHeartbeats 4000000 in
theorem cEnc_spec {oF oA : Obj} {V : ByteArray → Bool} (hS : VSpec oF oA V) (x : Nd) (hx : x.Ok) (hin : x.In) (hsz : x.validB V 8 = true → x.cb.length ≤ 49999999) : Spec Tryd.prog 34 [.t x.toT] [(.par 100, .dat (.fix 0 oF)), (.par 101, .dat (.fix 1 oA))] (.tup [.t (.str (cEnc V x).1), .t (.int .i64 (cEnc V x).2)]) [(.par 100, .dat (.fix 0 oF)), (.par 101, .dat (.fix 1 oA))] := by
  have hC : Spec Tryd.prog 55 [.t x.toT, .t (.fn 56)] [(.par 100, .dat (.fix 0 oF)), (.par 101, .dat (.fix 1 oA))] (.tup [.t (.str (cEnc V x).1), .t (.int .i64 (cEnc V x).2)]) [(.par 100, .dat (.fix 0 oF)), (.par 101, .dat (.fix 1 oA))] := by
    have hV := Valid_spec hS x hx
    have hT := x.toT_full
    unfold cEnc
    cases hv : x.validB V 8 with
    | false =>
      rw [hv] at hV
      rw [hT] at hV ⊢
      refine spec_intro (env0 := [(0, _), (1, _)]) (st0 := [(_, some _), (_, some _)]) Tryd.func55 rfl rfl rfl rfl ?_
      repeat' (first | (with_reducible refine codeT_seq ?_) | (with_reducible refine codeT_ret ?_) | (with_reducible refine codeT_regionL ?_) | (with_reducible refine lx_nil ?_) | (with_reducible refine q_then ?_) | (with_reducible refine q_then_ret ?_) | refine c_condT rfl ?_ | ((with_reducible refine g_load ?_); first | refine lx_load_varA (r := (.t (.agg _))) rfl rfl rfl rfl rfl rfl rfl rfl rfl ?_) | ((with_reducible refine g_assign ?_); first | refine lx_assign (r := (.t _)) rfl rfl rfl rfl rfl ?_) | ((with_reducible refine g_box ?_); first | refine lx_box (r := (.t (.agg _))) (cs := (List.map .t _)) rfl rfl rfl rfl rfl rfl rfl rfl rfl ?_) | ((with_reducible refine g_unOp ?_); first | refine lx_not rfl rfl rfl rfl rfl ?_) | ((with_reducible refine g_call ?_); first | refine lx_call (r' := .t (.bool false)) [] rfl rfl hV (ArgsLE.refl _) rfl ⟨rfl, rfl, trivial⟩ rfl rfl rfl rfl rfl rfl rfl rfl rfl rfl ?_))
      exact q_ret (resT_twoE rfl rfl rfl rfl rfl) (stHas_spec ⟨rfl, rfl, trivial⟩)
    | true =>
      have hP := Spec.nilArg (cput_spec x 8 hv hin [] (by have := hsz hv; simp; omega)) rfl rfl rfl
      rw [List.nil_append] at hP
      rw [hv] at hV
      rw [hT] at hV hP ⊢
      have hlen : (u8L x.cb).length = x.cb.length := u8L_len _
      have hsz' := hsz hv
      refine spec_intro (env0 := [(0, _), (1, _)]) (st0 := [(_, some _), (_, some _)]) Tryd.func55 rfl rfl rfl rfl ?_
      repeat' (first | (with_reducible refine codeT_seq ?_) | (with_reducible refine codeT_skip ?_) | (with_reducible refine codeT_ret ?_) | (with_reducible refine codeT_regionL ?_) | (with_reducible refine lx_nil ?_) | (with_reducible refine q_then ?_) | (with_reducible refine q_then_ret ?_) | refine c_condF rfl ?_ | ((with_reducible refine g_move ?_); first | refine lx_move (r := (.t _)) rfl rfl rfl rfl rfl ?_ | refine lx_move (r := (.row _)) rfl rfl rfl rfl rfl ?_) | ((with_reducible refine g_load ?_); first | refine lx_load_varA (r := (.t (.agg _))) rfl rfl rfl rfl rfl rfl rfl rfl rfl ?_) | ((with_reducible refine g_binOp ?_); first | refine lx_arith rfl rfl rfl rfl rfl rfl rfl ?_) | ((with_reducible refine g_assign ?_); first | refine lx_assign (r := (.t _)) rfl rfl rfl rfl rfl ?_ | refine lx_assign (r := (.row _)) rfl rfl rfl rfl rfl ?_) | ((with_reducible refine g_box ?_); first | refine lx_box (r := (.t (.agg _))) (cs := (List.map .t _)) rfl rfl rfl rfl rfl rfl rfl rfl rfl ?_) | ((with_reducible refine g_unOp ?_); first | refine lx_not rfl rfl rfl rfl rfl ?_) | ((with_reducible refine g_convert ?_); first | refine lx_ofBytes_row rfl rfl rfl rfl rfl rfl ?_ ?_) | ((with_reducible refine g_len ?_); first | refine lx_len_rowmap rfl rfl rfl rfl rfl rfl ?_) | ((with_reducible refine g_call ?_); first | refine lx_call (r' := .t (.bool true)) [] rfl rfl hV (ArgsLE.refl _) rfl ⟨rfl, rfl, trivial⟩ rfl rfl rfl rfl rfl rfl rfl rfl rfl rfl ?_ | refine lx_call (r' := .row (.loc 903)) [(.res 0, .loc 903)] rfl rfl hP (ArgsLE.refl _) rfl trivial rfl rfl rfl rfl rfl rfl rfl rfl rfl rfl ?_) | refine c_condP rfl (fun hc => ?_) (fun hc => ?_))
      · exact q_ret (resT_twoE rfl rfl rfl (by rw [if_pos rfl, if_pos (by omega)]; rfl) (by rw [if_pos rfl, if_pos (by omega)])) (stHas_spec ⟨rfl, rfl, trivial⟩)
      · exact u8L_isU8 _
      · exact q_ret (resT_twoE rfl rfl rfl (by rw [if_pos rfl, if_neg (by omega), strT_u8L]) (by rw [if_pos rfl, if_neg (by omega)])) (stHas_spec ⟨rfl, rfl, trivial⟩)
  generalize (cEnc V x).1 = s1 at hC ⊢
  generalize (cEnc V x).2 = s2 at hC ⊢
  have hT := x.toT_full
  rw [hT] at hC ⊢
  refine spec_intro (env0 := [(0, _)]) (st0 := [(_, some _), (_, some _)]) Tryd.func34 rfl rfl rfl rfl ?_
  repeat' (first | (with_reducible refine codeT_seq ?_) | (with_reducible refine codeT_ret ?_) | (with_reducible refine codeT_regionL ?_) | (with_reducible refine lx_nil ?_) | (with_reducible refine q_then ?_) | ((with_reducible refine g_load ?_); first | refine lx_load_varA (r := (.t (.agg _))) rfl rfl rfl rfl rfl rfl rfl rfl rfl ?_) | ((with_reducible refine g_assign ?_); first | refine lx_assign (r := (.t _)) rfl rfl rfl rfl rfl ?_) | ((with_reducible refine g_box ?_); first | refine lx_box (r := (.t (.agg _))) (cs := (List.map .t _)) rfl rfl rfl rfl rfl rfl rfl rfl rfl ?_) | ((with_reducible refine g_extract ?_); first | refine lx_extract rfl rfl rfl rfl rfl rfl ?_) | ((with_reducible refine g_call ?_); first | refine lx_call (r' := .tup [.t (.str s1), .t (.int .i64 s2)]) [] rfl rfl hC (ArgsLE.refl _) rfl ⟨rfl, rfl, trivial⟩ rfl rfl rfl rfl rfl rfl rfl rfl rfl rfl ?_))
  exact q_ret (resT_twoE rfl rfl rfl rfl rfl) (stHas_spec ⟨rfl, rfl, trivial⟩)
end Go.AL
/- The sanity check of law 7, and the document's heads. -/
set_option linter.unusedVariables false
namespace Go.AL
open Go Go.Proofs Go.RowKit

set_option maxHeartbeats 4000000 in
theorem awake7_spec {oF oA : Obj} {V : ByteArray → Bool} (hS : VSpec oF oA V) (hV : VOk V) : Spec Tryd.prog 32 [] [(.par 100, .dat (.fix 0 oF)), (.par 101, .dat (.fix 1 oA))] (.t (.bool true)) [(.par 100, .dat (.fix 0 oF)), (.par 101, .dat (.fix 1 oA))] := by
  have v1 : (Nd.ofNum 24).validB V 8 = true := ofNum_valid hV _ _ (by decide)
  have v2 : (Nd.ofText aS).validB V 8 = true := ofText_valid _ (text_asc hV _ (by decide) (by decide)) _ (by decide)
  have c1 : (Nd.ofNum 24).cb = [24, 24] := by decide
  have c2 : (Nd.ofText aS).cb = [97, 97] := by decide
  have h1 := cEnc_spec hS (Nd.ofNum 24) (ofNum_ok 24) (.mk (by decide) (by decide) (by simp)) (fun _ => by rw [c1]; decide)
  have h2 := cEnc_spec hS (Nd.ofText aS) (ofText_ok aS) (.mk (by decide) (by decide) (by simp)) (fun _ => by rw [c2]; decide)
  have e1 : cEnc V (Nd.ofNum 24) = (⟨#[24, 24]⟩, 0) := by simp only [cEnc, v1, c1]; rfl
  have e2 : cEnc V (Nd.ofText aS) = (⟨#[97, 97]⟩, 0) := by simp only [cEnc, v2, c2]; rfl
  rw [e1] at h1; rw [e2] at h2
  simp only [Nd.ofNum, Nd.ofText, Nd.toT_eq, List.map_nil] at h1 h2
  have hA1 : ArgsLE [.t (.agg [.int .i64 2, .bool false, .int .i64 24, .str ⟨#[]⟩, .nilsl, .nilsl])] [.t (.agg [.int .i64 2, .bool false, .int .i64 24, .str eS, .sl 1 [], .sl 6 []])] := (by repeat first | exact ArgsLE.nil | refine ArgsLE.cons (AVLE.refl _) ?_ | refine ArgsLE.t (by repeat first | exact TLe.refl _ | exact TLe.nil _ | exact TLe.esl _ | refine TLe.agg ?_ | refine TLs.cons ?_ ?_ | exact TLs.nil) ?_)
  have hA2 : ArgsLE [.t (.agg [.int .i64 3, .bool false, .int .i64 0, .str ⟨#[97]⟩, .nilsl, .nilsl])] [.t (.agg [.int .i64 3, .bool false, .int .i64 0, .str aS, .sl 1 [], .sl 6 []])] := (by repeat first | exact ArgsLE.nil | refine ArgsLE.cons (AVLE.refl _) ?_ | refine ArgsLE.t (by repeat first | exact TLe.refl _ | exact TLe.nil _ | exact TLe.esl _ | refine TLe.agg ?_ | refine TLs.cons ?_ ?_ | exact TLs.nil) ?_)
  refine spec_intro (env0 := []) (st0 := [(_, some _), (_, some _)]) Tryd.func32 rfl rfl rfl rfl ?_
  repeat' (first | (with_reducible refine codeT_seq ?_) | (with_reducible refine codeT_ret ?_) | (with_reducible refine codeT_regionL ?_) | (with_reducible refine lx_nil ?_) | (with_reducible refine q_then ?_) | ((with_reducible refine g_move ?_); first | refine lx_move (r := (.t _)) rfl rfl rfl rfl rfl ?_ | refine lx_move (r := (.tup _)) rfl rfl rfl rfl rfl ?_) | ((with_reducible refine g_binOp ?_); first | refine lx_arith rfl rfl rfl rfl rfl rfl rfl ?_ | refine lx_str_eq rfl rfl rfl rfl rfl rfl ?_) | ((with_reducible refine g_assign ?_); first | refine lx_assign (r := (.t _)) rfl rfl rfl rfl rfl ?_) | ((with_reducible refine g_pick ?_); first | refine lx_pickT (r := (.t _)) rfl rfl rfl rfl rfl rfl ?_) | ((with_reducible refine g_extract ?_); first | refine lx_extract rfl rfl rfl rfl rfl rfl ?_) | ((with_reducible refine g_build ?_); first | refine lx_build (r := (.t (.agg _))) rfl rfl rfl rfl rfl rfl rfl ?_) | ((with_reducible refine g_call ?_); first | refine lx_call (r' := .tup [.t (.str ⟨#[24, 24]⟩), .t (.int .i64 0)]) [] rfl rfl h1 hA1 rfl ⟨rfl, rfl, trivial⟩ rfl rfl rfl rfl rfl rfl rfl rfl rfl rfl ?_ | refine lx_call (r' := .tup [.t (.str ⟨#[97, 97]⟩), .t (.int .i64 0)]) [] rfl rfl h2 hA2 rfl ⟨rfl, rfl, trivial⟩ rfl rfl rfl rfl rfl rfl rfl rfl rfl rfl ?_))
  all_goals try (first | decide | (simp; done))
  exact q_ret (resT_oneE rfl rfl rfl) (stHas_spec ⟨rfl, rfl, trivial⟩)

set_option maxHeartbeats 2000000 in
theorem rBig_spec (n : Nat) (hn : n < 18446744073709551616) (k : Nat) (hk1 : 1 ≤ k) (hk : k ≤ 8) : Spec Tryd.prog 78 [.t (.int .u64 (n : Int)), .t (.int .i64 (k : Int))] [] (.t (.str (ofL (bigL k n)))) [] := by
  refine spec_intro (env0 := [(0, _), (1, _)]) (st0 := []) Tryd.func78 rfl rfl rfl rfl ?_
  repeat' (first | (with_reducible refine codeT_seq ?_) | (with_reducible refine codeT_block ?_) | (with_reducible refine codeT_regionL ?_) | (with_reducible refine lx_nil ?_) | (with_reducible refine q_then ?_) | ((with_reducible refine g_move ?_); first | refine lx_move (r := (.t _)) rfl rfl rfl rfl rfl ?_) | ((with_reducible refine g_binOp ?_); first | refine lx_arith rfl rfl rfl rfl rfl rfl rfl ?_) | ((with_reducible refine g_assign ?_); first | refine lx_assign (r := (.t _)) rfl rfl rfl rfl rfl ?_))
  refine codeT_ghost (ghost_nilL 5 (.loc 900) 5 1 rfl rfl rfl) ?_
  refine codeT_ghost (ghost_keep2 [0, 5, 6] [.loc 900] rfl rfl) ?_
  refine codeT_loop (fun p env st => ∃ (c : Nat) (xs : List T), c ≤ 8 ∧ p = c ∧ xs.length + c = k ∧ xs ++ u8L (bigL c n) = u8L (bigL k n) ∧
      env = EnvL.get [(0, .t (.int .u64 (n : Int))), (5, .row (.loc 900)), (6, .t (.int .i64 ((c : Int) - 1)))] ∧ st = StO.get [(.loc 900, some (.slt 5 1 xs))])
    ?_ (n := k) ⟨k, [], hk, rfl, by simp, by simp, ?_, rfl⟩
  rotate_left
  · rw [wrap64 (by omega) (by omega)]; rfl
  rintro p env st ⟨c, xs, hc8, rfl, hlen, hi, rfl, rfl⟩
  repeat' (first | (with_reducible refine codeT_seq ?_) | (with_reducible refine codeT_block ?_) | (with_reducible refine codeT_skip ?_) | (with_reducible refine codeT_ret ?_) | (with_reducible refine codeT_exit ?_) | (with_reducible refine codeT_regionL ?_) | (with_reducible refine lx_nil ?_) | (with_reducible refine q_then ?_) | (with_reducible refine q_then_exit ?_) | (with_reducible refine q_block ?_) | ((with_reducible refine q_block_same ?_ ?_); · rfl) | (with_reducible refine q_loop_exit ?_) | ((with_reducible refine g_move ?_); first | refine lx_move (r := (.t _)) rfl rfl rfl rfl rfl ?_ | refine lx_move (r := (.row _)) rfl rfl rfl rfl rfl ?_) | ((with_reducible refine g_binOp ?_); first | refine lx_arith rfl rfl rfl rfl rfl rfl rfl ?_ | refine lx_shr rfl rfl rfl rfl rfl rfl ?_ ?_) | ((with_reducible refine g_assign ?_); first | refine lx_assign (r := (.t _)) rfl rfl rfl rfl rfl ?_ | refine lx_assign (r := (.row _)) rfl rfl rfl rfl rfl ?_) | ((with_reducible refine g_convert ?_); first | refine lx_conv_int rfl rfl rfl rfl rfl ?_ | refine lx_ofBytes_row rfl rfl rfl rfl rfl rfl ?_ ?_) | ((with_reducible refine g_buildSlice ?_); first | refine lx_buildSlice rfl rfl rfl rfl rfl rfl rfl ?_) | ((with_reducible refine g_append ?_); first | refine lx_append_row rfl rfl rfl rfl rfl rfl rfl rfl rfl rfl ?_ ?_ ?_) | refine c_condP rfl (fun hc => ?_) (fun hc => ?_))
  · rw [wrap64 (by omega) (by omega), wrapU64 (by omega) (by omega)]; omega
  · simp; omega
  · simp; omega
  · obtain ⟨c, rfl⟩ : ∃ c, p = c + 1 := ⟨p - 1, by omega⟩
    refine q_loop (n' := c) (by omega) ((ghost_keep2 [0, 5, 6] [.loc 21] rfl rfl).trans (ghost_renL2 (.loc 21) (.loc 900) rfl rfl rfl rfl)) ⟨c, _, by omega, rfl, ?_, ?_, ?_, rfl⟩
    · simp; omega
    · rw [← hi, List.append_assoc]
      congr 1
      have e : (min (IntKind.u64.wrap (IntKind.i64.wrap (8 * ((c + 1 : Nat) - 1 : Int)))).toNat IntKind.u64.bits) = 8 * c := by
        rw [wrap64 (by omega) (by omega), wrapU64 (by omega) (by omega)]
        have : IntKind.u64.bits = 64 := rfl
        omega
      rw [e, shr_byte]
      rfl
    · rw [wrap64 (by omega) (by omega)]
      rw [show ((c + 1 : Nat) : Int) - 1 - 1 = (c : Int) - 1 by omega]
      rfl
  · obtain rfl : p = 0 := by omega
    simp only [bigL, u8L, List.map_nil, List.append_nil] at hi
    rw [hi]
    exact u8L_isU8 _
  · obtain rfl : p = 0 := by omega
    simp only [bigL, u8L, List.map_nil, List.append_nil] at hi
    subst hi
    exact q_ret (resT_oneE rfl rfl (congrArg T.str (strT_u8L _))) (by simp)

theorem isU8_one (x : Int) : IsU8 [T.int .u8 x] := by
  intro e he
  simp only [List.mem_singleton] at he
  subst he; rfl
theorem oneB {m b : Nat} (hm : m ≤ 7) (hb : b < 32) : strT [T.int .u8 (IntKind.u8.wrap ((BitVec.ofInt IntKind.u8.bits (IntKind.u8.wrap (IntKind.i64.wrap ((m : Int) * 2 ^ min (Int.toNat 5) IntKind.i64.bits))) ||| BitVec.ofInt IntKind.u8.bits (b : Int)).toNat : Int))] = ofL [UInt8.ofNat (32 * m + b)] := by
  rw [or_first hm hb]
  exact strT_u8L [UInt8.ofNat (32 * m + b)]
theorem ofL_append (a b : List UInt8) : ofL a ++ ofL b = ofL (a ++ b) := by
  have h : (ofL a ++ ofL b).data.toList = (ofL (a ++ b)).data.toList := by
    rw [ByteArray.data_append, Array.toList_append, ofL_toList, ofL_toList, ofL_toList]
  have := congrArg ofL h
  rwa [ofL_of, ofL_of] at this
set_option maxHeartbeats 4000000 in
theorem rHead_spec (m : Nat) (hm : m ≤ 7) (n : Nat) (hn : n < 18446744073709551616) : Spec Tryd.prog 59 [.t (.int .i64 (m : Int)), .t (.int .u64 (n : Int))] [] (.t (.str (ofL (hdL m n)))) [] := by
  have b1 : Spec Tryd.prog 78 [.t (.int .u64 (n : Int)), .t (.int .i64 1)] [] (.t (.str (ofL (bigL 1 n)))) [] := rBig_spec n hn 1 (by omega) (by omega)
  have b2 : Spec Tryd.prog 78 [.t (.int .u64 (n : Int)), .t (.int .i64 2)] [] (.t (.str (ofL (bigL 2 n)))) [] := rBig_spec n hn 2 (by omega) (by omega)
  have b4 : Spec Tryd.prog 78 [.t (.int .u64 (n : Int)), .t (.int .i64 4)] [] (.t (.str (ofL (bigL 4 n)))) [] := rBig_spec n hn 4 (by omega) (by omega)
  have b8 : Spec Tryd.prog 78 [.t (.int .u64 (n : Int)), .t (.int .i64 8)] [] (.t (.str (ofL (bigL 8 n)))) [] := rBig_spec n hn 8 (by omega) (by omega)
  obtain ⟨B1, e1⟩ : ∃ B, B = ofL (bigL 1 n) := ⟨_, rfl⟩
  obtain ⟨B2, e2⟩ : ∃ B, B = ofL (bigL 2 n) := ⟨_, rfl⟩
  obtain ⟨B4, e4⟩ : ∃ B, B = ofL (bigL 4 n) := ⟨_, rfl⟩
  obtain ⟨B8, e8⟩ : ∃ B, B = ofL (bigL 8 n) := ⟨_, rfl⟩
  obtain ⟨R, eR⟩ : ∃ B, B = ofL (hdL m n) := ⟨_, rfl⟩
  rw [← e1] at b1
  rw [← e2] at b2
  rw [← e4] at b4
  rw [← e8] at b8
  rw [← eR]
  have o24 := oneB hm (b := 24) (by omega)
  rw [show ((24 : Nat) : Int) = 24 from rfl] at o24
  have o25 := oneB hm (b := 25) (by omega)
  rw [show ((25 : Nat) : Int) = 25 from rfl] at o25
  have o26 := oneB hm (b := 26) (by omega)
  rw [show ((26 : Nat) : Int) = 26 from rfl] at o26
  have o27 := oneB hm (b := 27) (by omega)
  rw [show ((27 : Nat) : Int) = 27 from rfl] at o27
  obtain ⟨N, hN⟩ : ∃ N : Int, N = (n : Int) := ⟨_, rfl⟩
  rw [← hN] at b1 b2 b4 b8 ⊢
  refine spec_intro (env0 := [(0, _), (1, _)]) (st0 := []) Tryd.func59 rfl rfl rfl rfl ?_
  repeat' (first | (with_reducible refine codeT_seq ?_) | (with_reducible refine codeT_block ?_) | (with_reducible refine codeT_skip ?_) | (with_reducible refine codeT_ret ?_) | (with_reducible refine codeT_regionL ?_) | ((with_reducible refine codeT_region_drawL ?_ ?_); · rfl) | (with_reducible refine lx_nil ?_) | (with_reducible refine q_then ?_) | (with_reducible refine q_then_ret ?_) | (with_reducible refine q_block ?_) | (with_reducible refine q_block_ret ?_) | ((with_reducible refine q_region_draw ?_ ?_); · rfl) | ((with_reducible refine g_move ?_); first | refine lx_move (r := (.t _)) rfl rfl rfl rfl rfl ?_) | ((with_reducible refine g_binOp ?_); first | refine lx_arith rfl rfl rfl rfl rfl rfl rfl ?_ | refine lx_concat rfl rfl rfl rfl rfl rfl ?_ ?_ | refine lx_shl rfl rfl rfl rfl rfl rfl (by decide) ?_) | ((with_reducible refine g_assign ?_); first | refine lx_assign (r := (.t _)) rfl rfl rfl rfl rfl ?_) | ((with_reducible refine g_convert ?_); first | refine lx_conv_int rfl rfl rfl rfl rfl ?_ | refine lx_ofBytes_row rfl rfl rfl rfl rfl rfl ?_ ?_) | ((with_reducible refine g_buildSlice ?_); first | refine lx_buildSlice rfl rfl rfl rfl rfl rfl rfl ?_) | ((with_reducible refine g_call ?_); first | refine lx_callT rfl rfl b1 rfl rfl (ArgsLE.refl _) rfl rfl rfl rfl rfl ?_ | refine lx_callT rfl rfl b2 rfl rfl (ArgsLE.refl _) rfl rfl rfl rfl rfl ?_ | refine lx_callT rfl rfl b4 rfl rfl (ArgsLE.refl _) rfl rfl rfl rfl rfl ?_ | refine lx_callT rfl rfl b8 rfl rfl (ArgsLE.refl _) rfl rfl rfl rfl rfl ?_) | refine c_condP rfl (fun hc => ?_) (fun hc => ?_))
  all_goals try exact isU8_one _
  · refine q_ret (resT_oneE rfl rfl (congrArg T.str ?_)) (by simp)
    have hw : IntKind.u8.wrap N = N := wrapU8 (by omega) (by omega)
    have oN := oneB hm (b := n) (by omega)
    rw [← hN] at oN
    rw [hw, oN, eR, hdL_small (by omega)]
  · rw [o24, e1, ofL_size, ofL_size, bigL_len]; simp
  · refine q_ret (resT_oneE rfl rfl (congrArg T.str ?_)) (by simp)
    rw [o24, e1, ofL_append, eR]
    unfold hdL
    rw [if_neg (by omega), if_pos (by omega)]; rfl
  · rw [o25, e2, ofL_size, ofL_size, bigL_len]; simp
  · refine q_ret (resT_oneE rfl rfl (congrArg T.str ?_)) (by simp)
    rw [o25, e2, ofL_append, eR]
    unfold hdL
    rw [if_neg (by omega), if_neg (by omega), if_pos (by omega)]; rfl
  · rw [o26, e4, ofL_size, ofL_size, bigL_len]; simp
  · refine q_ret (resT_oneE rfl rfl (congrArg T.str ?_)) (by simp)
    rw [o26, e4, ofL_append, eR]
    unfold hdL
    rw [if_neg (by omega), if_neg (by omega), if_neg (by omega), if_pos (by omega)]; rfl
  · rw [o27, e8, ofL_size, ofL_size, bigL_len]; simp
  · refine q_ret (resT_oneE rfl rfl (congrArg T.str ?_)) (by simp)
    rw [o27, e8, ofL_append, eR]
    unfold hdL
    rw [if_neg (by omega), if_neg (by omega), if_neg (by omega), if_neg (by omega)]; rfl

set_option maxHeartbeats 2000000 in
theorem rHeadS_spec (m : Int) (n : Nat) (hn : n < 18446744073709551616) : Spec Tryd.prog 37 [.t (.int .i64 m), .t (.int .u64 (n : Int))] [] (.tup [.t (.str (if 0 ≤ m ∧ m ≤ 7 then ofL (hdL m.toNat n) else eS)), .t (.int .i64 (if 0 ≤ m ∧ m ≤ 7 then 0 else 2))]) [] := by
  by_cases hm : 0 ≤ m ∧ m ≤ 7
  · rw [if_pos hm, if_pos hm]
    have hH := rHead_spec m.toNat (by omega) n hn
    rw [show ((m.toNat : Nat) : Int) = m by omega] at hH
    generalize ofL (hdL m.toNat n) = R at hH ⊢
    refine spec_intro (env0 := [(0, _), (1, _)]) (st0 := []) Tryd.func37 rfl rfl rfl rfl ?_
    repeat' (first | (with_reducible refine codeT_seq ?_) | (with_reducible refine codeT_skip ?_) | (with_reducible refine codeT_ret ?_) | (with_reducible refine codeT_regionL ?_) | (with_reducible refine lx_nil ?_) | (with_reducible refine q_then ?_) | (with_reducible refine q_then_ret ?_) | refine c_condT rfl ?_ | ((with_reducible refine g_guard ?_); first | refine lx_skip rfl rfl rfl ?_) | ((with_reducible refine g_move ?_); first | refine lx_move (r := (.t _)) rfl rfl rfl rfl rfl ?_) | ((with_reducible refine g_binOp ?_); first | refine lx_arith rfl rfl rfl rfl rfl rfl rfl ?_) | ((with_reducible refine g_assign ?_); first | refine lx_assign (r := (.t _)) rfl rfl rfl rfl rfl ?_) | ((with_reducible refine g_pick ?_); first | refine lx_pickT (r := (.t _)) rfl rfl rfl rfl rfl rfl ?_ | refine lx_pickF (r := (.t _)) rfl rfl rfl rfl rfl rfl ?_) | ((with_reducible refine g_call ?_); first | refine lx_callT rfl rfl hH rfl rfl (ArgsLE.refl _) rfl rfl rfl rfl rfl ?_) | refine c_condP rfl (fun hc => ?_) (fun hc => ?_) | refine lx_splitP rfl (fun hc => ?_) (fun hc => ?_))
    all_goals try omega
    all_goals exact q_ret (resT_twoE rfl rfl rfl rfl rfl) (by simp)
  · rw [if_neg hm, if_neg hm]
    refine spec_intro (env0 := [(0, _), (1, _)]) (st0 := []) Tryd.func37 rfl rfl rfl rfl ?_
    repeat' (first | (with_reducible refine codeT_seq ?_) | (with_reducible refine codeT_skip ?_) | (with_reducible refine codeT_ret ?_) | (with_reducible refine codeT_regionL ?_) | (with_reducible refine lx_nil ?_) | (with_reducible refine q_then ?_) | (with_reducible refine q_then_ret ?_) | refine c_condT rfl ?_ | ((with_reducible refine g_guard ?_); first | refine lx_skip rfl rfl rfl ?_) | ((with_reducible refine g_move ?_); first | refine lx_move (r := (.t _)) rfl rfl rfl rfl rfl ?_) | ((with_reducible refine g_binOp ?_); first | refine lx_arith rfl rfl rfl rfl rfl rfl rfl ?_) | ((with_reducible refine g_assign ?_); first | refine lx_assign (r := (.t _)) rfl rfl rfl rfl rfl ?_) | ((with_reducible refine g_pick ?_); first | refine lx_pickT (r := (.t _)) rfl rfl rfl rfl rfl rfl ?_ | refine lx_pickF (r := (.t _)) rfl rfl rfl rfl rfl rfl ?_) | refine c_condP rfl (fun hc => ?_) (fun hc => ?_) | refine lx_splitP rfl (fun hc => ?_) (fun hc => ?_))
    all_goals try omega
    all_goals exact q_ret (resT_twoE rfl rfl rfl rfl rfl) (by simp)
end Go.AL
