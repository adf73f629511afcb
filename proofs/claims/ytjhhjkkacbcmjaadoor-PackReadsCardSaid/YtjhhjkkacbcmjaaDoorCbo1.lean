/- What parse.Put and cbor.head answer. -/
import Derived.Test.YtjhhjkkacbcmjaaDoorNod5
import Derived.Test.YtjhhjkkacbcmjaaDoorAl3
import Derived.Test.YtjhhjkkacbcmjaaDoorNod1
set_option linter.unusedVariables false
namespace Go.AL
open Go Go.Proofs Go.RowKit

def u8L (l : List UInt8) : List T := l.map u8T
theorem u8L_len (l : List UInt8) : (u8L l).length = l.length := by simp [u8L]
theorem u8L_append (a b : List UInt8) : u8L (a ++ b) = u8L a ++ u8L b := by simp [u8L]
theorem shr_byte (n c : Nat) : IntKind.u8.wrap ((n : Int) / 2 ^ (8 * c)) = ((UInt8.ofNat (n / 256 ^ c)).toNat : Int) := by
  have e : (2 : Int) ^ (8 * c) = ((256 ^ c : Nat) : Int) := by
    have : (256 : Nat) ^ c = 2 ^ (8 * c) := by rw [Nat.pow_mul]
    rw [this]; simp
  rw [e]
  simp only [IntKind.wrap, IntKind.bits, IntKind.signed, Bool.false_and, Bool.false_eq_true, if_false]
  rw [UInt8.toNat_ofNat']
  omega
set_option maxHeartbeats 2000000 in
theorem Put_spec (es : List T) (hes : es.length ≤ 1000000000) (n : Nat) (hn : n < 18446744073709551616) (k : Nat) (hk : k ≤ 8) : Spec Tryd.prog 77 [.row (.par 0), .t (.int .u64 (n : Int)), .t (.int .i64 (k : Int))] [(.par 0, .slt 5 1 es)] (.row (.res 0)) [(.res 0, .slt 5 1 (es ++ u8L (bigL k n)))] := by
  refine spec_introG (env0 := [(0, _), (1, _), (2, _)]) (st0 := [(_, some _)]) Tryd.func77 rfl rfl rfl rfl ?_
  repeat' (first | (with_reducible refine codeT_seq ?_) | (with_reducible refine codeT_block ?_) | (with_reducible refine codeT_regionL ?_) | (with_reducible refine lx_nil ?_) | (with_reducible refine q_then ?_) | ((with_reducible refine g_move ?_); first | refine lx_move (r := (.t _)) rfl rfl rfl rfl rfl ?_) | ((with_reducible refine g_binOp ?_); first | refine lx_arith rfl rfl rfl rfl rfl rfl rfl ?_) | ((with_reducible refine g_assign ?_); first | refine lx_assign (r := (.t _)) rfl rfl rfl rfl rfl ?_))
  refine codeT_ghost ((ghost_keep2 [0, 1, 7] [.par 0] rfl rfl).trans (ghost_renLP (.par 0) (.loc 900) rfl rfl rfl rfl)) ?_
  refine codeT_loop (fun p env st => ∃ (c : Nat) (xs : List T), c ≤ 8 ∧ p = c ∧ xs.length + c = es.length + k ∧ xs ++ u8L (bigL c n) = es ++ u8L (bigL k n) ∧
      env = EnvL.get [(0, .row (.loc 900)), (1, .t (.int .u64 (n : Int))), (7, .t (.int .i64 ((c : Int) - 1)))] ∧ st = StO.get [(.loc 900, some (.slt 5 1 xs))])
    ?_ (n := k) ⟨k, es, hk, rfl, rfl, rfl, ?_, rfl⟩
  rotate_left
  · rw [wrap64 (by omega) (by omega)]; rfl
  rintro p env st ⟨c, xs, hc8, rfl, hlen, hi, rfl, rfl⟩
  repeat' (first | (with_reducible refine codeT_seq ?_) | (with_reducible refine codeT_block ?_) | (with_reducible refine codeT_skip ?_) | (with_reducible refine codeT_ret ?_) | (with_reducible refine codeT_exit ?_) | (with_reducible refine codeT_regionL ?_) | (with_reducible refine lx_nil ?_) | (with_reducible refine q_then ?_) | (with_reducible refine q_then_exit ?_) | (with_reducible refine q_block ?_) | ((with_reducible refine q_block_same ?_ ?_); · rfl) | (with_reducible refine q_loop_exit ?_) | ((with_reducible refine g_move ?_); first | refine lx_move (r := (.t _)) rfl rfl rfl rfl rfl ?_ | refine lx_move (r := (.row _)) rfl rfl rfl rfl rfl ?_) | ((with_reducible refine g_binOp ?_); first | refine lx_arith rfl rfl rfl rfl rfl rfl rfl ?_ | refine lx_shr rfl rfl rfl rfl rfl rfl ?_ ?_) | ((with_reducible refine g_assign ?_); first | refine lx_assign (r := (.t _)) rfl rfl rfl rfl rfl ?_ | refine lx_assign (r := (.row _)) rfl rfl rfl rfl rfl ?_) | ((with_reducible refine g_convert ?_); first | refine lx_conv_int rfl rfl rfl rfl rfl ?_) | ((with_reducible refine g_buildSlice ?_); first | refine lx_buildSlice rfl rfl rfl rfl rfl rfl rfl ?_) | ((with_reducible refine g_append ?_); first | refine lx_append_row rfl rfl rfl rfl rfl rfl rfl rfl rfl rfl ?_ ?_ ?_) | refine c_condP rfl (fun hc => ?_) (fun hc => ?_))
  · rw [wrap64 (by omega) (by omega)]; omega
  · simp; omega
  · simp; omega
  · obtain ⟨c, rfl⟩ : ∃ c, p = c + 1 := ⟨p - 1, by omega⟩
    refine q_loop (n' := c) (by omega) ((ghost_keep2 [0, 1, 7] [.loc 21] rfl rfl).trans (ghost_renL2 (.loc 21) (.loc 900) rfl rfl rfl rfl)) ⟨c, _, by omega, rfl, ?_, ?_, ?_, rfl⟩
    · simp; omega
    · rw [← hi, List.append_assoc]
      congr 1
      have e : (min (IntKind.i64.wrap (8 * ((c + 1 : Nat) - 1 : Int))).toNat IntKind.u64.bits) = 8 * c := by
        rw [wrap64 (by omega) (by omega)]
        have : IntKind.u64.bits = 64 := rfl
        omega
      rw [e, shr_byte]
      rfl
    · rw [wrap64 (by omega) (by omega)]
      rw [show ((c + 1 : Nat) : Int) - 1 - 1 = (c : Int) - 1 by omega]
      rfl
  · obtain rfl : p = 0 := by omega
    simp only [bigL, u8L, List.map_nil, List.append_nil] at hi
    rw [hi]
    refine q_ghost ((ghost_keep2 [6] [.loc 900] rfl rfl).trans (ghost_renL2 (.loc 900) (.res 0) rfl rfl rfl rfl)) ?_
    exact q_done (q_ret (resT_one rfl (AVLE.refl _)) (stHas_spec ⟨rfl, trivial⟩))

theorem wrapU8 {n : Int} (h0 : 0 ≤ n) (h : n < 256) : IntKind.u8.wrap n = n := by
  simp only [IntKind.wrap, IntKind.bits, IntKind.signed, Bool.false_and, Bool.false_eq_true, if_false]
  omega
def headJ (m n j : Nat) : List UInt8 := UInt8.ofNat (32 * m + (24 + j)) :: bigL (2 ^ j) n
theorem sh_val {j : Nat} (hj : j ≤ 3) : IntKind.i64.wrap (1 * 2 ^ min (j : Int).toNat IntKind.i64.bits) = ((2 ^ j : Nat) : Int) := by
  match j, hj with
  | 0, _ | 1, _ | 2, _ | 3, _ => decide
end Go.AL
/- What the iterator over a node's items does: a round for each item, with its name. -/
set_option linter.unusedVariables false
namespace Go.AL
open Go Go.Proofs Go.RowKit

def nCells (k : Int) (b : Bool) (n : Int) (t : ByteArray) (ns : List ByteArray) (is : List Nd) : List T := [.int .i64 k, .bool b, .int .i64 n, .str t, .sl 1 (ns.map .str), .sl 6 (is.map Nd.toT)]
set_option maxHeartbeats 2000000 in
theorem Items_spec (k : Int) (b : Bool) (n : Int) (t : ByteArray) (ns : List ByteArray) (is : List Nd) : Spec Tryd.prog 76 [.t (.agg [.int .i64 k, .bool b, .int .i64 n, .str t, .sl 1 (ns.map .str), .sl 6 (is.map Nd.toT)])] [] (.fn 105 [.ref (.res 0) 0 0 0]) [(.res 0, .var 26 [.t (.int .i64 k), .t (.bool b), .t (.int .i64 n), .t (.str t), .t (.sl 1 (ns.map .str)), .t (.sl 6 (is.map Nd.toT))])] := by
  refine spec_introG (env0 := [(0, _)]) (st0 := []) Tryd.func76 rfl rfl rfl rfl ?_
  repeat' (first | (with_reducible refine codeT_seq ?_) | (with_reducible refine codeT_ret ?_) | (with_reducible refine codeT_regionL ?_) | (with_reducible refine lx_nil ?_) | (with_reducible refine q_then ?_) | ((with_reducible refine g_assign ?_); first | refine lx_assign (r := (.t _)) rfl rfl rfl rfl rfl ?_ | refine lx_assign (r := (.fn _ _)) rfl rfl rfl rfl rfl ?_) | ((with_reducible refine g_box ?_); first | refine lx_box (r := (.t (.agg _))) (cs := (List.map .t _)) rfl rfl rfl rfl rfl rfl rfl rfl rfl ?_) | ((with_reducible refine g_makeFunc ?_); first | refine lx_makeFunc rfl rfl rfl rfl rfl ?_))
  refine q_ghost ((ghost_keep2 [2] [.loc 1] rfl rfl).trans (ghost_renL2 (.loc 1) (.res 0) rfl rfl rfl rfl)) ?_
  exact q_done (q_ret (resT_one rfl (AVLE.of_eq rfl)) (stHas_spec ⟨rfl, trivial⟩))

def nameAt (k : Int) (ns : List ByteArray) (i : Nat) : ByteArray := if k = 5 then ns.getD i default else eS
set_option maxHeartbeats 4000000 in
theorem ItemsF_spec (k : Int) (b : Bool) (n : Int) (t : ByteArray) (ns : List ByteArray) (is : List Nd) (hlen : is.length ≤ 1000) (hk : k = 5 → ns.length = is.length)
    (kk : LoopK) (tb tn : Nat) (e : T) (f : Nat → List T)
    (H : ∀ i, i < is.length → RoundT Tryd.prog kk [(tb, .ref (.par 10) 0 0 0), (tn, .tp e 0)] [.t (.str (nameAt k ns i)), .t ((is.getD i default).toT)] [(.par 10, .var 68 [.row (.par 11)]), (.par 11, .slt 5 1 (f i))] [(.par 10, .var 68 [.row (.res 0)]), (.res 0, .slt 5 1 (f (i + 1)))]) :
    Spec Tryd.prog 105 [.row (.par 50), .tp (.agg [.int .i64 k, .bool b, .int .i64 n, .str t, .sl 1 (ns.map .str), .sl 6 (is.map Nd.toT)]) 0] [(.par 50, .loop kk [(tb, .ref (.par 10) 0 0 0), (tn, .tp e 0)]), (.par 10, .var 68 [.row (.par 11)]), (.par 11, .slt 5 1 (f 0))]
      (.tup []) [(.par 50, .loop kk [(tb, .ref (.par 10) 0 0 0), (tn, .tp e 0)]), (.par 10, .var 68 [.row (.res 0)]), (.res 0, .slt 5 1 (f is.length))] := by
  refine spec_introG (env0 := [(0, _), (1, _)]) (st0 := [(_, some _), (_, some _), (_, some _)]) Tryd.func105 rfl rfl rfl rfl ?_
  repeat' (first | (with_reducible refine codeT_seq ?_) | (with_reducible refine codeT_block ?_) | (with_reducible refine codeT_regionL ?_) | (with_reducible refine lx_nil ?_) | (with_reducible refine q_then ?_) | ((with_reducible refine g_move ?_); first | refine lx_move (r := (.t _)) rfl rfl rfl rfl rfl ?_) | ((with_reducible refine g_load ?_); first | refine lx_load_tp rfl rfl rfl rfl rfl rfl rfl ?_) | ((with_reducible refine g_fieldAddr ?_); first | refine lx_fieldAddr_tp rfl rfl rfl rfl rfl rfl rfl ?_) | ((with_reducible refine g_len ?_); first | refine lx_len_map rfl rfl rfl rfl rfl ?_))
  refine codeT_ghost ((ghost_keep2 [0, 1, 7, 8, 9] [.par 50, .par 10, .par 11] rfl rfl).trans (ghost_renLP (.par 11) (.loc 900) rfl rfl rfl rfl)) ?_
  refine codeT_loop (fun p env st => ∃ (j : Nat), j ≤ is.length ∧ p = is.length - j ∧
      env = EnvL.get [(0, .row (.par 50)), (1, .tp (.agg [.int .i64 k, .bool b, .int .i64 n, .str t, .sl 1 (ns.map .str), .sl 6 (is.map Nd.toT)]) 0), (7, .t (.sl 6 (is.map Nd.toT))), (8, .t (.int .i64 (is.length : Int))), (9, .t (.int .i64 (j : Int)))] ∧
      st = StO.get [(.par 50, some (.loop kk [(tb, .ref (.par 10) 0 0 0), (tn, .tp e 0)])), (.par 10, some (.var 68 [.row (.loc 900)])), (.loc 900, some (.slt 5 1 (f j)))])
    ?_ (n := is.length) ⟨0, by omega, rfl, ?_, ?_⟩
  rotate_left
  · rfl
  · rfl
  rintro p env st ⟨j, hj, rfl, rfl, rfl⟩
  by_cases hlt : j < is.length
  · have hR := H j hlt
    have hg : is.getD (j : Int).toNat default = is.getD j default := rfl
    have hT := (is.getD j default).toT_full
    rw [hT] at hR
    by_cases h5 : k = 5
    · subst h5
      have hnm : nameAt 5 ns j = ns.getD (j : Int).toNat default := by simp [nameAt]
      rw [hnm] at hR
      have hl5 := hk rfl
      repeat' (first | (with_reducible refine codeT_seq ?_) | (with_reducible refine codeT_block ?_) | (with_reducible refine codeT_skip ?_) | (with_reducible refine codeT_exit ?_) | (with_reducible refine codeT_regionL ?_) | (with_reducible refine lx_nil ?_) | (with_reducible refine q_then ?_) | (with_reducible refine q_then_exit ?_) | (with_reducible refine q_block ?_) | ((with_reducible refine q_block_same ?_ ?_); · rfl) | (with_reducible refine q_loop_exit ?_) | refine c_condT rfl ?_ | refine c_condF rfl ?_ | refine lx_load_tpAE rfl rfl hT rfl rfl rfl rfl rfl rfl ?_ | ((with_reducible refine g_move ?_); first | refine lx_move (r := (.t _)) rfl rfl rfl rfl rfl ?_ | refine lx_move (r := (.row _)) rfl rfl rfl rfl rfl ?_) | ((with_reducible refine g_load ?_); first | refine lx_load_varA (r := (.t (.agg _))) rfl rfl rfl rfl rfl rfl rfl rfl rfl ?_ | refine lx_load_tp rfl rfl rfl rfl rfl rfl rfl ?_) | ((with_reducible refine g_fieldAddr ?_); first | refine lx_fieldAddr_tp rfl rfl rfl rfl rfl rfl rfl ?_) | ((with_reducible refine g_binOp ?_); first | refine lx_arith rfl rfl rfl rfl rfl rfl rfl ?_) | ((with_reducible refine g_assign ?_); first | refine lx_assign (r := (.t _)) rfl rfl rfl rfl rfl ?_) | ((with_reducible refine g_alloc ?_); first | refine lx_alloc rfl rfl rfl rfl rfl rfl rfl ?_) | ((with_reducible refine g_store ?_); first | refine lx_store_var (r := (.t (.agg _))) rfl rfl rfl rfl rfl rfl rfl rfl rfl rfl ?_) | ((with_reducible refine g_indexAddr ?_); first | refine lx_indexAddr_map rfl rfl rfl rfl rfl rfl ?_ ?_ ?_) | ((with_reducible refine g_unOp ?_); first | refine lx_not rfl rfl rfl rfl rfl ?_) | ((with_reducible refine g_call ?_); first | refine lx_yield [(.par 11, .loc 900), (.res 0, .loc 901)] rfl rfl hR rfl (ArgsLE.refl _) rfl rfl ⟨rfl, rfl, trivial⟩ rfl rfl rfl rfl rfl rfl rfl rfl rfl rfl ?_) | refine c_condP rfl (fun hc => ?_) (fun hc => ?_))
      all_goals try omega
      · refine q_loop (n' := is.length - (j + 1)) (by omega) ((ghost_keep2 [0, 1, 7, 8, 9] [.par 50, .par 10, .loc 901] rfl rfl).trans (ghost_renL2 (.loc 901) (.loc 900) rfl rfl rfl rfl)) ⟨j + 1, by omega, rfl, by rw [wrap64 (by omega) (by omega)]; rfl, rfl⟩
    · have hnm : nameAt k ns j = eS := by simp [nameAt, h5]
      rw [hnm] at hR
      repeat' (first | (with_reducible refine codeT_seq ?_) | (with_reducible refine codeT_block ?_) | (with_reducible refine codeT_skip ?_) | (with_reducible refine codeT_exit ?_) | (with_reducible refine codeT_regionL ?_) | (with_reducible refine lx_nil ?_) | (with_reducible refine q_then ?_) | (with_reducible refine q_then_exit ?_) | (with_reducible refine q_block ?_) | ((with_reducible refine q_block_same ?_ ?_); · rfl) | (with_reducible refine q_loop_exit ?_) | refine c_condF rfl ?_ | refine lx_load_tpAE rfl rfl hT rfl rfl rfl rfl rfl rfl ?_ | ((with_reducible refine g_move ?_); first | refine lx_move (r := (.t _)) rfl rfl rfl rfl rfl ?_ | refine lx_move (r := (.row _)) rfl rfl rfl rfl rfl ?_) | ((with_reducible refine g_load ?_); first | refine lx_load_varA (r := (.t (.agg _))) rfl rfl rfl rfl rfl rfl rfl rfl rfl ?_ | refine lx_load_tp rfl rfl rfl rfl rfl rfl rfl ?_) | ((with_reducible refine g_fieldAddr ?_); first | refine lx_fieldAddr_tp rfl rfl rfl rfl rfl rfl rfl ?_) | ((with_reducible refine g_binOp ?_); first | refine lx_arith rfl rfl rfl rfl rfl rfl rfl ?_) | ((with_reducible refine g_assign ?_); first | refine lx_assign (r := (.t _)) rfl rfl rfl rfl rfl ?_) | ((with_reducible refine g_alloc ?_); first | refine lx_alloc rfl rfl rfl rfl rfl rfl rfl ?_) | ((with_reducible refine g_store ?_); first | refine lx_store_var (r := (.t (.agg _))) rfl rfl rfl rfl rfl rfl rfl rfl rfl rfl ?_) | ((with_reducible refine g_indexAddr ?_); first | refine lx_indexAddr_map rfl rfl rfl rfl rfl rfl ?_ ?_ ?_) | ((with_reducible refine g_unOp ?_); first | refine lx_not rfl rfl rfl rfl rfl ?_) | ((with_reducible refine g_call ?_); first | refine lx_yield [(.par 11, .loc 900), (.res 0, .loc 901)] rfl rfl hR rfl (ArgsLE.refl _) rfl rfl ⟨rfl, rfl, trivial⟩ rfl rfl rfl rfl rfl rfl rfl rfl rfl rfl ?_) | refine c_condP rfl (fun hc => ?_) (fun hc => ?_))
      all_goals try omega
      · refine q_loop (n' := is.length - (j + 1)) (by omega) ((ghost_keep2 [0, 1, 7, 8, 9] [.par 50, .par 10, .loc 901] rfl rfl).trans (ghost_renL2 (.loc 901) (.loc 900) rfl rfl rfl rfl)) ⟨j + 1, by omega, rfl, by rw [wrap64 (by omega) (by omega)]; rfl, rfl⟩
  · repeat' (first | (with_reducible refine codeT_seq ?_) | (with_reducible refine codeT_block ?_) | (with_reducible refine codeT_skip ?_) | (with_reducible refine codeT_exit ?_) | (with_reducible refine codeT_regionL ?_) | (with_reducible refine lx_nil ?_) | (with_reducible refine q_then ?_) | (with_reducible refine q_then_exit ?_) | ((with_reducible refine q_block_same ?_ ?_); · rfl) | (with_reducible refine q_loop_exit ?_) | ((with_reducible refine g_move ?_); first | refine lx_move (r := (.t _)) rfl rfl rfl rfl rfl ?_) | ((with_reducible refine g_binOp ?_); first | refine lx_arith rfl rfl rfl rfl rfl rfl rfl ?_) | ((with_reducible refine g_indexAddr ?_); first | refine lx_indexAddr_map rfl rfl rfl rfl rfl rfl ?_ ?_ ?_) | refine c_condP rfl (fun hc => ?_) (fun hc => ?_))
    all_goals try omega
    obtain rfl : j = is.length := by omega
    refine q_ghost ((ghost_keep2 [] [.par 50, .par 10, .loc 900] rfl rfl).trans (ghost_renL2 (.loc 900) (.res 0) rfl rfl rfl rfl)) ?_
    exact q_done (q_end (resT_none rfl) (stHas_spec ⟨rfl, rfl, rfl, trivial⟩))
end Go.AL
/- What cbor.put answers: the bytes of a valid node. -/
set_option linter.unusedVariables false
namespace Go.AL
open Go Go.Proofs Go.RowKit

def preB (k : Int) (ns : List ByteArray) (is : List Nd) (i : Nat) : List UInt8 := if k = 5 then Nd.cbm (ns.take i) (is.take i) else Nd.cbs (is.take i)
theorem wrapU64 {n : Int} (h0 : 0 ≤ n) (h : n < 18446744073709551616) : IntKind.u64.wrap n = n := by
  simp only [IntKind.wrap, IntKind.bits, IntKind.signed, Bool.false_and, Bool.false_eq_true, if_false]
  omega
end Go.AL
/- What parse.Checked, cbor.Encode and cbor.Head answer. -/
set_option linter.unusedVariables false
namespace Go.AL
open Go Go.Proofs Go.RowKit

theorem u8L_isU8 (l : List UInt8) : IsU8 (u8L l) := by
  intro e he
  simp only [u8L, List.mem_map] at he
  obtain ⟨b, _, rfl⟩ := he
  rfl
theorem strT_u8L (l : List UInt8) : strT (u8L l) = ofL l := by
  unfold strT u8L strOfNums ofL
  rw [List.map_map, List.map_map]
  have : (((fun n => UInt8.ofNat n.toNat) ∘ T.num) ∘ u8T) = id := by
    funext b
    show UInt8.ofNat ((b.toNat : Int).toNat) = b
    simp
  rw [this, List.map_id]


end Go.AL
/- The sanity check of law 7, and the document's heads. -/
set_option linter.unusedVariables false
namespace Go.AL
open Go Go.Proofs Go.RowKit

theorem isU8_one (x : Int) : IsU8 [T.int .u8 x] := by
  intro e he
  simp only [List.mem_singleton] at he
  subst he; rfl
theorem ofL_append (a b : List UInt8) : ofL a ++ ofL b = ofL (a ++ b) := by
  have h : (ofL a ++ ofL b).data.toList = (ofL (a ++ b)).data.toList := by
    rw [ByteArray.data_append, Array.toList_append, ofL_toList, ofL_toList, ofL_toList]
  have := congrArg ofL h
  rwa [ofL_of, ofL_of] at this
end Go.AL
