/- What the kit's functions over dice and strings answer, on this seat. -/
import Derived.Test.YtohgkmphkgaabaaTy
import Derived.Test.YtohgkmphkgaabaaPur
import Derived.Test.YtohgkmphkgaabaaAl3
import Derived.Test.YtohgkmphkgaabaaHsf
set_option linter.unusedVariables false
namespace Go.AL
open Go Go.Proofs Go.RowKit


/-- Dice in memory. -/
def Dc.row (d : Dc) : Row := .var 113 [.t (.sl 1 (d.l.map (T.int .i64))), .t (.int .i64 d.k)]
set_option maxHeartbeats 1000000 in
theorem Light_spec (l : List Int) : Spec Try.prog 45 [.t (.sl 1 (l.map (T.int .i64)))] [] (.t (.bool (decide ((l.length : Int) ≤ 500)))) [] := by
  refine spec_intro (env0 := [(0, _)]) (st0 := []) Try.func45 rfl rfl rfl rfl ?_
  repeat' (first | (with_reducible refine codeT_seq ?_) | (with_reducible refine codeT_ret ?_) | (with_reducible refine codeT_regionL ?_) | (with_reducible refine lx_nil ?_) | (with_reducible refine q_then ?_) | ((with_reducible refine g_move ?_); first | refine lx_move (r := (.t _)) rfl rfl rfl rfl rfl ?_) | ((with_reducible refine g_binOp ?_); first | refine lx_arith rfl rfl rfl rfl rfl rfl rfl ?_) | ((with_reducible refine g_assign ?_); first | refine lx_assign (r := (.t _)) rfl rfl rfl rfl rfl ?_) | ((with_reducible refine g_len ?_); first | refine lx_len_map rfl rfl rfl rfl rfl ?_))
  exact q_ret (resT_oneE rfl rfl rfl) (by simp)
set_option maxHeartbeats 1000000 in
theorem Roll_spec (l : List Int) : Spec Try.prog 48 [.t (.sl 1 (l.map (T.int .i64)))] [] (.ref (.res 0) 0 0 0) [(.res 0, (Dc.mk l 0).row)] := by
  unfold Dc.row
  refine spec_introG (env0 := [(0, _)]) (st0 := []) Try.func48 rfl rfl rfl rfl ?_
  repeat' (first | (with_reducible refine codeT_seq ?_) | (with_reducible refine codeT_ret ?_) | (with_reducible refine codeT_regionL ?_) | (with_reducible refine lx_nil ?_) | (with_reducible refine q_then ?_) | ((with_reducible refine g_move ?_); first | refine lx_move (r := (.t _)) rfl rfl rfl rfl rfl ?_) | ((with_reducible refine g_assign ?_); first | refine lx_assign (r := (.t _)) rfl rfl rfl rfl rfl ?_ | refine lx_assign (r := (.ref _ _ _ _)) rfl rfl rfl rfl rfl ?_) | ((with_reducible refine g_box ?_); first | refine lx_box (r := (.t (.agg _))) (cs := (List.map .t _)) rfl rfl rfl rfl rfl rfl rfl rfl rfl ?_) | ((with_reducible refine g_build ?_); first | refine lx_build (r := (.t (.agg _))) rfl rfl rfl rfl rfl rfl rfl ?_))
  refine q_ghost ((ghost_keep2 [2] [.loc 5] rfl rfl).trans (ghost_renL2 (.loc 5) (.res 0) rfl rfl rfl rfl)) ?_
  exact q_done (q_ret (resT_one rfl (AVLE.refl _)) (stHas_spec ⟨rfl, trivial⟩))
theorem modI_tmod (n m : Int) (h : 1 ≤ m) : (n.tmod m + m).tmod m = modI n m ∧ 0 ≤ n.tmod m + m ∧ n.tmod m + m ≤ 2 * m := by
  have h1 : -m < n.tmod m ∧ n.tmod m < m := by
    have a := Int.tmod_lt_of_pos n (b := m) (by omega)
    have b := Int.lt_tmod_of_pos n (b := m) (by omega)
    exact ⟨b, a⟩
  refine ⟨?_, by omega, by omega⟩
  unfold modI
  rw [if_neg (by omega), Int.tmod_eq_emod_of_nonneg (by omega), Int.tmod_def, show n - m * n.tdiv m + m = n + m * (1 - n.tdiv m) by rw [Int.mul_sub]; omega, Int.add_mul_emod_self_left]
set_option maxHeartbeats 1000000 in
theorem Mod_spec (n m : Int) (h : m ≤ 4611686018427387903) : Spec Try.prog 14 [.t (.int .i64 n), .t (.int .i64 m)] [] (.t (.int .i64 (modI n m))) [] := by
  refine spec_intro (env0 := [(0, _), (1, _)]) (st0 := []) Try.func14 rfl rfl rfl rfl ?_
  repeat' (first | (with_reducible refine codeT_seq ?_) | (with_reducible refine codeT_skip ?_) | (with_reducible refine codeT_ret ?_) | (with_reducible refine codeT_regionL ?_) | (with_reducible refine lx_nil ?_) | (with_reducible refine q_then ?_) | (with_reducible refine q_then_ret ?_) | ((with_reducible refine g_move ?_); first | refine lx_move (r := (.t _)) rfl rfl rfl rfl rfl ?_) | ((with_reducible refine g_binOp ?_); first | refine lx_arith rfl rfl rfl rfl rfl rfl rfl ?_ | refine lx_rem rfl rfl rfl rfl rfl rfl ?_ ?_) | ((with_reducible refine g_assign ?_); first | refine lx_assign (r := (.t _)) rfl rfl rfl rfl rfl ?_) | refine c_condP rfl (fun hc => ?_) (fun hc => ?_))
  all_goals try omega
  · exact q_ret (resT_oneE rfl rfl (by unfold modI; rw [if_pos hc])) (by simp)
  · have e := modI_tmod n m (by omega)
    refine q_ret (resT_oneE rfl rfl ?_) (by simp)
    rw [wrap64 (by omega) (by omega), e.1]
set_option maxHeartbeats 1000000 in
theorem Next_spec (d : Dc) (n : Int) (h : n ≤ 4611686018427387903) (hd : d.l.length ≤ 1000) : Spec Try.prog 78 [.ref (.par 0) 0 0 0, .t (.int .i64 n)] [(.par 0, d.row)] (.t (.int .i64 (d.next n).1)) [(.par 0, (d.next n).2.row)] := by
  have hm := Mod_spec (d.l.getD d.k 0) n h
  unfold Dc.row Dc.next
  generalize modI (d.l.getD d.k 0) n = v at *
  by_cases h0 : (d.l.length : Int) ≤ d.k
  · simp only [if_pos h0]
    refine spec_intro (env0 := [(0, _), (1, _)]) (st0 := [(_, some _)]) Try.func78 rfl rfl rfl rfl ?_
    repeat' (first | (with_reducible refine codeT_seq ?_) | (with_reducible refine codeT_skip ?_) | (with_reducible refine codeT_ret ?_) | (with_reducible refine codeT_regionL ?_) | ((with_reducible refine codeT_region_drawL ?_ ?_); · rfl) | (with_reducible refine lx_nil ?_) | (with_reducible refine q_then ?_) | (with_reducible refine q_then_ret ?_) | ((with_reducible refine q_region_draw ?_ ?_); · rfl) | ((with_reducible refine g_move ?_); first | refine lx_move (r := (.t _)) rfl rfl rfl rfl rfl ?_ | refine lx_move (r := (.ref _ _ _ _)) rfl rfl rfl rfl rfl ?_) | ((with_reducible refine g_load ?_); first | refine lx_load_var rfl rfl rfl rfl rfl rfl rfl rfl ?_ | refine lx_load_tp rfl rfl rfl rfl rfl rfl rfl ?_) | ((with_reducible refine g_fieldAddr ?_); first | refine lx_fieldAddr rfl rfl rfl rfl rfl rfl rfl ?_) | ((with_reducible refine g_binOp ?_); first | refine lx_arith rfl rfl rfl rfl rfl rfl rfl ?_) | ((with_reducible refine g_assign ?_); first | refine lx_assign (r := (.t _)) rfl rfl rfl rfl rfl ?_) | ((with_reducible refine g_store ?_); first | refine lx_store_var (r := (.t _)) rfl rfl rfl rfl rfl rfl rfl rfl rfl rfl ?_) | ((with_reducible refine g_nilCheck ?_); first | refine lx_nilCheck (r := (.ref _ _ _ _)) rfl rfl rfl rfl rfl rfl ?_) | ((with_reducible refine g_indexAddr ?_); first | refine lx_indexAddr_map rfl rfl rfl rfl rfl rfl ?_ ?_ ?_) | ((with_reducible refine g_len ?_); first | refine lx_len_map rfl rfl rfl rfl rfl ?_) | ((with_reducible refine g_call ?_); first | exact absurd h0 ‹_›) | refine c_condP rfl (fun hc => ?_) (fun hc => ?_))
    all_goals try (exfalso; omega)
    exact q_ret (resT_oneE rfl rfl rfl) (stHas_spec ⟨rfl, trivial⟩)
  · simp only [if_neg h0]
    have e : (IntKind.i64.wrap (IntKind.i64.wrap ((d.k : Int) + 1) - 1)).toNat = d.k := by
      rw [wrap64 (n := (d.k : Int) + 1) (by omega) (by omega), wrap64 (by omega) (by omega)]; omega
    have e2 : IntKind.i64.wrap (IntKind.i64.wrap ((d.k : Int) + 1) - 1) = d.k := by
      rw [wrap64 (n := (d.k : Int) + 1) (by omega) (by omega), wrap64 (by omega) (by omega)]; omega
    have e3 : IntKind.i64.wrap ((d.k : Int) + 1) = d.k + 1 := wrap64 (by omega) (by omega)
    have e4 : ((d.k + 1 : Nat) : Int) = IntKind.i64.wrap ((d.k : Int) + 1) := by rw [e3]; omega
    rw [← e] at hm
    rw [e4]
    refine spec_intro (env0 := [(0, _), (1, _)]) (st0 := [(_, some _)]) Try.func78 rfl rfl rfl rfl ?_
    repeat' (first | (with_reducible refine codeT_seq ?_) | (with_reducible refine codeT_skip ?_) | (with_reducible refine codeT_ret ?_) | (with_reducible refine codeT_regionL ?_) | ((with_reducible refine codeT_region_drawL ?_ ?_); · rfl) | (with_reducible refine lx_nil ?_) | (with_reducible refine q_then ?_) | (with_reducible refine q_then_ret ?_) | ((with_reducible refine q_region_draw ?_ ?_); · rfl) | ((with_reducible refine g_move ?_); first | refine lx_move (r := (.t _)) rfl rfl rfl rfl rfl ?_ | refine lx_move (r := (.ref _ _ _ _)) rfl rfl rfl rfl rfl ?_) | ((with_reducible refine g_load ?_); first | refine lx_load_var rfl rfl rfl rfl rfl rfl rfl rfl ?_ | refine lx_load_tp rfl rfl rfl rfl rfl rfl rfl ?_) | ((with_reducible refine g_fieldAddr ?_); first | refine lx_fieldAddr rfl rfl rfl rfl rfl rfl rfl ?_) | ((with_reducible refine g_binOp ?_); first | refine lx_arith rfl rfl rfl rfl rfl rfl rfl ?_) | ((with_reducible refine g_assign ?_); first | refine lx_assign (r := (.t _)) rfl rfl rfl rfl rfl ?_) | ((with_reducible refine g_store ?_); first | refine lx_store_var (r := (.t _)) rfl rfl rfl rfl rfl rfl rfl rfl rfl rfl ?_) | ((with_reducible refine g_nilCheck ?_); first | refine lx_nilCheck (r := (.ref _ _ _ _)) rfl rfl rfl rfl rfl rfl ?_) | ((with_reducible refine g_indexAddr ?_); first | refine lx_indexAddr_map rfl rfl rfl rfl rfl rfl ?_ ?_ ?_) | ((with_reducible refine g_len ?_); first | refine lx_len_map rfl rfl rfl rfl rfl ?_) | ((with_reducible refine g_call ?_); first | refine lx_callT rfl rfl hm rfl rfl (ArgsLE.refl _) rfl rfl rfl rfl rfl ?_) | refine c_condP rfl (fun hc => ?_) (fun hc => ?_))
    all_goals try (exfalso; omega)
    all_goals try omega
    exact q_ret (resT_oneE rfl rfl rfl) (stHas_spec ⟨rfl, trivial⟩)


/-- The string whose byte at a place is changed by so much. -/
def spoil (s : ByteArray) (at_ by_ : Int) : ByteArray :=
  if s = ⟨#[]⟩ then s else
  strT ((bytesT s).set (modI at_ s.size).toNat (.int .u8 (IntKind.u8.wrap (((s.data.toList.getD (modI at_ s.size).toNat default).toNat : Int) + IntKind.u8.wrap by_))))
end Go.AL
/- A journal's bytes: records, and what is read of them. -/
set_option linter.unusedVariables false
namespace Go.AL
open Go Go.RowKit

def headS (b : ByteArray) : ByteArray := fourS b.size ++ (sha b).extract 0 8
theorem headS_size (b : ByteArray) : (headS b).size = 12 := by
  unfold headS
  rw [ByteArray.size_append, fourS_size, ByteArray.size_extract, sha_size]; rfl
def appS (s b : ByteArray) : ByteArray := s ++ headS b ++ b
theorem appS_size (s b : ByteArray) : (appS s b).size = s.size + 12 + b.size := by
  unfold appS
  rw [ByteArray.size_append, ByteArray.size_append, headS_size]
def bN (s : ByteArray) (i : Nat) : Nat := (bAt s (i : Int)).toNat
theorem bN_lt (s : ByteArray) (i : Nat) : bN s i < 256 := by
  have := bAt_range s (i : Int)
  unfold bN; omega
def numP (s : ByteArray) (a : Nat) : Nat → Nat
  | 0 => 0
  | j + 1 => numP s a j * 256 + bN s (a + j)
theorem numP_lt (s : ByteArray) (a : Nat) : ∀ j, numP s a j < 256 ^ j
  | 0 => by simp [numP]
  | j + 1 => by
    have h1 := numP_lt s a j
    have h2 := bN_lt s (a + j)
    rw [numP, Nat.pow_succ]
    omega
/-- The body whose record begins at a place. -/
def oneR (s : ByteArray) (a : Nat) : Option ByteArray :=
  if a + 12 ≤ s.size ∧ numP s a 4 ≤ 1048576 ∧ a + 12 + numP s a 4 ≤ s.size ∧ s.extract a (a + 12) = headS (s.extract (a + 12) (a + 12 + numP s a 4)) then some (s.extract (a + 12) (a + 12 + numP s a 4)) else none
def readL (s : ByteArray) : Nat → Nat → List ByteArray × Nat
  | 0, a => ([], a)
  | u + 1, a => match oneR s a with
    | none => ([], a)
    | some b => (b :: (readL s u (a + 12 + b.size)).1, (readL s u (a + 12 + b.size)).2)
/-- The bytes of some bodies' records. -/
def recsS (s : ByteArray) (l : List ByteArray) : ByteArray := l.foldl appS s
def readS (s : ByteArray) : List ByteArray × Nat := readL s (s.size + 1) 0
end Go.AL
/- What is read of a journal's records, of a torn one, and of what a crash leaves; no program in sight. -/
set_option linter.unusedVariables false
namespace Go.AL
open Go Go.RowKit

theorem ext_mid (P X t : ByteArray) : (P ++ X ++ t).extract P.size (P.size + X.size) = X := by
  rw [ByteArray.append_assoc, ByteArray.extract_append, ByteArray.extract_append]
  have e1 : P.extract P.size (P.size + X.size) = ByteArray.empty := by
    apply ByteArray.size_eq_zero_iff.1; rw [ByteArray.size_extract]; omega
  have e2 : t.extract (P.size - P.size - X.size) (P.size + X.size - P.size - X.size) = ByteArray.empty := by
    apply ByteArray.size_eq_zero_iff.1; rw [ByteArray.size_extract]; omega
  rw [e1, e2, ByteArray.empty_append, ByteArray.append_empty, show P.size - P.size = 0 by omega, show P.size + X.size - P.size = X.size by omega, ByteArray.extract_zero_size]
theorem bAt_skip (P X : ByteArray) (j : Nat) : bAt (P ++ X) ((P.size + j : Nat) : Int) = bAt X (j : Int) := by
  have hl : P.data.toList.length = P.size := toList_len P
  unfold bAt
  rw [ByteArray.data_append, Array.toList_append, Int.toNat_natCast, Int.toNat_natCast, List.getD_eq_getElem?_getD, List.getD_eq_getElem?_getD, List.getElem?_append_right (by omega), hl, show P.size + j - P.size = j by omega]
theorem bAt_pre (X Y : ByteArray) (j : Nat) (h : j < X.size) : bAt (X ++ Y) (j : Int) = bAt X (j : Int) := by
  have hl : X.data.toList.length = X.size := toList_len X
  unfold bAt
  rw [ByteArray.data_append, Array.toList_append, Int.toNat_natCast, List.getD_eq_getElem?_getD, List.getD_eq_getElem?_getD, List.getElem?_append_left (by omega)]
theorem u8_wrap_num (n : Nat) : (UInt8.ofNat (IntKind.u8.wrap (n : Int)).toNat).toNat = n % 256 := by
  have : IntKind.u8.wrap (n : Int) = ((n % 256 : Nat) : Int) := by
    simp only [IntKind.wrap, IntKind.bits, IntKind.signed, Bool.false_and, Bool.false_eq_true, if_false]; omega
  rw [this, Int.toNat_natCast, UInt8.toNat_ofNat']
  omega
theorem four_at (n : Nat) : bN (fourS (n : Int)) 0 = n / 16777216 % 256 ∧ bN (fourS (n : Int)) 1 = n / 65536 % 256 ∧ bN (fourS (n : Int)) 2 = n / 256 % 256 ∧ bN (fourS (n : Int)) 3 = n % 256 := by
  have e0 : (n : Int) / 2 ^ 24 = ((n / 16777216 : Nat) : Int) := by simp
  have e1 : (n : Int) / 2 ^ 16 = ((n / 65536 : Nat) : Int) := by simp
  have e2 : (n : Int) / 2 ^ 8 = ((n / 256 : Nat) : Int) := by simp
  refine ⟨?_, ?_, ?_, ?_⟩
  · show (((UInt8.ofNat (IntKind.u8.wrap ((n : Int) / 2 ^ 24)).toNat).toNat : Int)).toNat = _
    rw [e0, u8_wrap_num]; rfl
  · show (((UInt8.ofNat (IntKind.u8.wrap ((n : Int) / 2 ^ 16)).toNat).toNat : Int)).toNat = _
    rw [e1, u8_wrap_num]; rfl
  · show (((UInt8.ofNat (IntKind.u8.wrap ((n : Int) / 2 ^ 8)).toNat).toNat : Int)).toNat = _
    rw [e2, u8_wrap_num]; rfl
  · show (((UInt8.ofNat (IntKind.u8.wrap (n : Int)).toNat).toNat : Int)).toNat = _
    rw [u8_wrap_num]; rfl
theorem num_four (P t : ByteArray) (n : Nat) (hn : n < 4294967296) : numP (P ++ (fourS (n : Int) ++ t)) P.size 4 = n := by
  have h : ∀ j, j < 4 → bN (P ++ (fourS (n : Int) ++ t)) (P.size + j) = bN (fourS (n : Int)) j := fun j hj => by
    unfold bN
    rw [bAt_skip, bAt_pre _ _ _ (by rw [fourS_size]; exact hj)]
  obtain ⟨h0, h1, h2, h3⟩ := four_at n
  simp only [numP]
  rw [h 0 (by omega), h 1 (by omega), h 2 (by omega), h 3 (by omega), h0, h1, h2, h3]
  omega
theorem oneR_at (P b t : ByteArray) (hb : b.size ≤ 1048576) : oneR (appS P b ++ t) P.size = some b := by
  have e1 : appS P b ++ t = P ++ (fourS (b.size : Int) ++ ((sha b).extract 0 8 ++ b ++ t)) := by unfold appS headS; simp only [ByteArray.append_assoc]
  have hn : numP (appS P b ++ t) P.size 4 = b.size := by rw [e1]; exact num_four _ _ _ (by omega)
  have hz : (appS P b ++ t).size = P.size + 12 + b.size + t.size := by rw [ByteArray.size_append, appS_size]
  have h1 : (appS P b ++ t).extract P.size (P.size + 12) = headS b := by
    have := ext_mid P (headS b) (b ++ t)
    rw [headS_size, ← ByteArray.append_assoc] at this
    exact this
  have h2 : (appS P b ++ t).extract (P.size + 12) (P.size + 12 + b.size) = b := by
    have := ext_mid (P ++ headS b) b t
    rw [ByteArray.size_append, headS_size] at this
    exact this
  unfold oneR
  rw [hn, h1, h2, if_pos ⟨by omega, hb, by omega, rfl⟩]
theorem recsS_pre : ∀ (l : List ByteArray) (Q : ByteArray), ∃ X, recsS Q l = Q ++ X
  | [], Q => ⟨ByteArray.empty, by rw [ByteArray.append_empty]; rfl⟩
  | b :: l, Q => by
    obtain ⟨X, h⟩ := recsS_pre l (appS Q b)
    refine ⟨headS b ++ b ++ X, ?_⟩
    show recsS (appS Q b) l = _
    rw [h]
    unfold appS
    simp only [ByteArray.append_assoc]
theorem recsS_snoc (Q b : ByteArray) (l : List ByteArray) : recsS Q (l ++ [b]) = appS (recsS Q l) b := by simp [recsS]
theorem recsS_le (Q : ByteArray) (l : List ByteArray) : Q.size + 12 * l.length ≤ (recsS Q l).size := by
  induction l generalizing Q with
  | nil => simp [recsS]
  | cons b l ih =>
    have := ih (appS Q b)
    rw [appS_size] at this
    show _ ≤ (recsS (appS Q b) l).size
    simp only [List.length_cons]; omega
/-- What stands behind whole records is read behind them. -/
theorem readL_pre (t : ByteArray) : ∀ (l : List ByteArray) (P : ByteArray) (u : Nat), l.length ≤ u → (∀ b ∈ l, b.size ≤ 1048576) →
    readL (recsS P l ++ t) u P.size = (l ++ (readL (recsS P l ++ t) (u - l.length) (recsS P l).size).1, (readL (recsS P l ++ t) (u - l.length) (recsS P l).size).2)
  | [], P, u, _, _ => rfl
  | b :: l, P, 0, h, _ => by simp at h
  | b :: l, P, u + 1, h, hb => by
    have e : recsS P (b :: l) = recsS (appS P b) l := rfl
    obtain ⟨X, hX⟩ := recsS_pre l (appS P b)
    have h1 : oneR (recsS P (b :: l) ++ t) P.size = some b := by
      rw [e, hX, ByteArray.append_assoc]
      exact oneR_at P b _ (hb b (by simp))
    have ih := readL_pre t l (appS P b) u (by simpa using h) (fun x hx => hb x (by simp [hx]))
    rw [readL, h1]
    simp only
    rw [appS_size] at ih
    rw [e, ih]
    simp
/-- No whole record at a place: nothing is read there. -/
theorem readL_none {s : ByteArray} {a : Nat} (h : oneR s a = none) (u : Nat) : readL s u a = ([], a) := by
  cases u with
  | zero => rfl
  | succ u => rw [readL, h]
theorem oneR_short {s : ByteArray} {a : Nat} (h : s.size < a + 12) : oneR s a = none := by
  unfold oneR; rw [if_neg (fun hc => by omega)]
theorem readS_recs (l : List ByteArray) (t : ByteArray) (hl : ∀ b ∈ l, b.size ≤ 1048576) (hn : oneR (recsS ⟨#[]⟩ l ++ t) (recsS ⟨#[]⟩ l).size = none) : readS (recsS ⟨#[]⟩ l ++ t) = (l, (recsS ⟨#[]⟩ l).size) := by
  have hle := recsS_le ⟨#[]⟩ l
  have hsz : (recsS ⟨#[]⟩ l ++ t).size = (recsS ⟨#[]⟩ l).size + t.size := ByteArray.size_append
  have := readL_pre t l ⟨#[]⟩ ((recsS ⟨#[]⟩ l ++ t).size + 1) (by omega) hl
  rw [readL_none hn, List.append_nil] at this
  exact this
theorem readS_all (l : List ByteArray) (hl : ∀ b ∈ l, b.size ≤ 1048576) : readS (recsS ⟨#[]⟩ l) = (l, (recsS ⟨#[]⟩ l).size) := by
  have := readS_recs l ByteArray.empty hl (oneR_short (by rw [ByteArray.append_empty]; omega))
  rwa [ByteArray.append_empty] at this
/-- A record of which something is missing is not read. -/
theorem oneR_torn (P b : ByteArray) (n : Nat) (h0 : P.size ≤ n) (h1 : n < (appS P b).size) (hb : b.size ≤ 1048576) : oneR ((appS P b).extract 0 n) P.size = none := by
  rw [appS_size] at h1
  have hz : ((appS P b).extract 0 n).size = n := by rw [ByteArray.size_extract, appS_size]; omega
  rcases Nat.lt_or_ge n (P.size + 12) with h | h
  · exact oneR_short (by omega)
  · have e : (appS P b).extract 0 n = P ++ (fourS (b.size : Int) ++ ((sha b).extract 0 8 ++ b.extract 0 (n - P.size - 12))) := by
      have e1 : appS P b = P ++ headS b ++ b := rfl
      have hp : (P ++ headS b).size = P.size + 12 := by rw [ByteArray.size_append, headS_size]
      rw [e1, ByteArray.extract_append, hp]
      have e2 : (P ++ headS b).extract 0 n = P ++ headS b := by
        have : (P ++ headS b).extract 0 n = (P ++ headS b).extract 0 (P ++ headS b).size := by
          apply ByteArray.ext_getElem
          · rw [ByteArray.size_extract, ByteArray.size_extract]; omega
          · intro i h1 h2; rw [ByteArray.getElem_extract, ByteArray.getElem_extract]
        rw [this, ByteArray.extract_zero_size]
      rw [e2, show 0 - (P.size + 12) = 0 by omega, show n - (P.size + 12) = n - P.size - 12 by omega]
      unfold headS
      simp only [ByteArray.append_assoc]
    have hnum : numP ((appS P b).extract 0 n) P.size 4 = b.size := by rw [e]; exact num_four _ _ _ (by omega)
    unfold oneR
    rw [hnum, if_neg (fun hc => by omega)]
end Go.AL
/- Whole records of a journal; what a crash leaves; bodies that dice make. No program in sight. -/
set_option linter.unusedVariables false
namespace Go.AL
open Go Go.RowKit

theorem torn_read (l : List ByteArray) (b : ByteArray) (hl : ∀ b ∈ l, b.size ≤ 1048576) (hb : b.size ≤ 1048576) (n : Nat) (h0 : (recsS ⟨#[]⟩ l).size ≤ n) (h1 : n < (appS (recsS ⟨#[]⟩ l) b).size) :
    readS ((appS (recsS ⟨#[]⟩ l) b).extract 0 n) = (l, (recsS ⟨#[]⟩ l).size) := by
  have ht := oneR_torn (recsS ⟨#[]⟩ l) b n h0 h1 hb
  have e : (appS (recsS ⟨#[]⟩ l) b).extract 0 n = recsS ⟨#[]⟩ l ++ (headS b ++ b).extract 0 (n - (recsS ⟨#[]⟩ l).size) := by
    have e1 : appS (recsS ⟨#[]⟩ l) b = recsS ⟨#[]⟩ l ++ (headS b ++ b) := by unfold appS; rw [ByteArray.append_assoc]
    rw [e1]
    generalize recsS ⟨#[]⟩ l = Q at h0 ⊢
    rw [ByteArray.extract_append]
    have e2 : Q.extract 0 n = Q := by
      have : Q.extract 0 n = Q.extract 0 Q.size := by
        apply ByteArray.ext_getElem
        · rw [ByteArray.size_extract, ByteArray.size_extract]; omega
        · intro i h1 h2; rw [ByteArray.getElem_extract, ByteArray.getElem_extract]
      rw [this, ByteArray.extract_zero_size]
    rw [e2, show 0 - Q.size = 0 by omega]
  rw [e] at ht ⊢
  exact readS_recs l _ hl ht
theorem appS_pre (P b : ByteArray) : (appS P b).extract 0 P.size = P := by
  have e1 : appS P b = P ++ (headS b ++ b) := by unfold appS; rw [ByteArray.append_assoc]
  have := ext_mid ⟨#[]⟩ P (headS b ++ b)
  rw [e1]
  have e : (⟨#[]⟩ : ByteArray) ++ P = P := ByteArray.empty_append
  rw [e] at this
  have z : (⟨#[]⟩ : ByteArray).size = 0 := rfl
  rw [z, Nat.zero_add] at this
  exact this
/-- The bodies that dice make. -/
def ws43 : List ByteArray := [⟨#[]⟩, ⟨#[109, 105, 108, 108]⟩, ⟨#[97, 32, 102, 111, 114, 100]⟩, ⟨#[116, 104, 101, 32, 98, 114, 105, 100, 103, 101, 32, 97, 116, 32, 116, 104, 101, 32, 109, 105, 108, 108]⟩]
def fillL : Nat → Dc → List ByteArray → List ByteArray × Dc
  | 0, d, l => (l, d)
  | k + 1, d, l => fillL k (d.word ws43).2 (l ++ [(d.word ws43).1])
theorem word43_size (d : Dc) : (d.word ws43).1.size ≤ 22 := by
  have h := d.next_lt 4 (by omega)
  show (ws43.getD (d.next 4).1.toNat default).size ≤ 22
  have : (d.next 4).1.toNat = 0 ∨ (d.next 4).1.toNat = 1 ∨ (d.next 4).1.toNat = 2 ∨ (d.next 4).1.toNat = 3 := by omega
  rcases this with h | h | h | h <;> rw [h] <;> decide
theorem fillL_ok : ∀ (k : Nat) (d : Dc) (l : List ByteArray), (∀ b ∈ l, b.size ≤ 22) → (fillL k d l).1.length = l.length + k ∧ ∀ b ∈ (fillL k d l).1, b.size ≤ 22
  | 0, d, l, h => ⟨rfl, h⟩
  | k + 1, d, l, h => by
    have := fillL_ok k (d.word ws43).2 (l ++ [(d.word ws43).1]) (fun b hb => by
      rcases List.mem_append.1 hb with hb | hb
      · exact h b hb
      · rw [List.mem_singleton.1 hb]; exact word43_size d)
    rw [fillL]
    refine ⟨by rw [this.1, List.length_append, List.length_singleton]; omega, this.2⟩
theorem recsS_max {B : Nat} (l : List ByteArray) (Q : ByteArray) (h : ∀ b ∈ l, b.size ≤ B) : (recsS Q l).size ≤ Q.size + l.length * (12 + B) := by
  induction l generalizing Q with
  | nil => simp [recsS]
  | cons b l ih =>
    have h1 := ih (appS Q b) (fun x hx => h x (by simp [hx]))
    have h2 := h b (by simp)
    rw [appS_size] at h1
    show (recsS (appS Q b) l).size ≤ _
    simp only [List.length_cons, Nat.add_mul]; omega
end Go.AL
/- What the parts of a journal answer: heads, appending, a crash, lists that are equal. -/
set_option linter.unusedVariables false
namespace Go.AL
open Go Go.Proofs Go.RowKit

theorem isU8_4 (a b c d : Int) : IsU8 [T.int .u8 a, .int .u8 b, .int .u8 c, .int .u8 d] := by
  intro e he
  simp only [List.mem_cons, List.not_mem_nil, or_false] at he
  rcases he with rfl | rfl | rfl | rfl <;> rfl
set_option maxHeartbeats 2000000 in
theorem head_spec (b : ByteArray) (hb : b.size ≤ 10000000) : Spec Try.prog 82 [.t (.str b)] [] (.t (.str (headS b))) [] := by
  have hS := Sum_spec b (by omega)
  have hz := sha_size b
  unfold headS
  generalize sha b = Y at hS hz ⊢
  have z4 := fourS_size (b.size : Int)
  unfold fourS at z4 ⊢
  refine spec_intro (env0 := [(0, _)]) (st0 := []) Try.func82 rfl rfl rfl rfl ?_
  repeat' (first | (with_reducible refine codeT_seq ?_) | (with_reducible refine codeT_ret ?_) | (with_reducible refine codeT_regionL ?_) | ((with_reducible refine codeT_region_drawL ?_ ?_); · rfl) | (with_reducible refine lx_nil ?_) | (with_reducible refine q_then ?_) | ((with_reducible refine q_region_draw ?_ ?_); · rfl) | ((with_reducible refine g_move ?_); first | refine lx_move (r := (.t _)) rfl rfl rfl rfl rfl ?_) | ((with_reducible refine g_binOp ?_); first | refine lx_concat rfl rfl rfl rfl rfl rfl ?_ ?_ | refine lx_shr rfl rfl rfl rfl rfl rfl (by decide) ?_) | ((with_reducible refine g_assign ?_); first | refine lx_assign (r := (.t _)) rfl rfl rfl rfl rfl ?_) | ((with_reducible refine g_convert ?_); first | refine lx_conv_int rfl rfl rfl rfl rfl ?_ | refine lx_ofBytes_row rfl rfl rfl rfl rfl rfl ?_ ?_) | ((with_reducible refine g_slice ?_); first | refine lx_slice_str rfl rfl rfl ⟨_, rfl⟩ rfl rfl rfl ?_ ?_ ?_ ?_) | ((with_reducible refine g_buildSlice ?_); first | refine lx_buildSlice rfl rfl rfl rfl rfl rfl rfl ?_) | ((with_reducible refine g_len ?_); first | refine lx_len_str rfl rfl rfl rfl rfl ?_) | ((with_reducible refine g_call ?_); first | refine lx_callT rfl rfl hS rfl rfl (ArgsLE.refl _) rfl rfl rfl rfl rfl ?_))
  all_goals try exact isU8_4 _ _ _ _
  all_goals try omega
  · rw [strT_size, ByteArray.size_extract, hz]; exact (by decide : 4 + (min (Int.toNat 8) 32 - Int.toNat 0) ≤ 9223372036854775807)
  · exact q_ret (resT_oneE rfl rfl rfl) (by simp)
set_option maxHeartbeats 2000000 in
theorem Append_spec (s b : ByteArray) (hs : s.size ≤ 10000000) (hb : b.size ≤ 1000000) : Spec Try.prog 52 [.t (.agg [.str s]), .t (.str b)] [] (.tup [.t (.agg [.str (appS s b)]), .t (.int .i64 0)]) [] := by
  have hH := head_spec b (by omega)
  have hz := headS_size b
  unfold appS
  generalize headS b = Y at hH hz ⊢
  have z1 : (s ++ Y).size = s.size + 12 := by rw [ByteArray.size_append, hz]
  refine spec_intro (env0 := [(0, _), (1, _)]) (st0 := []) Try.func52 rfl rfl rfl rfl ?_
  repeat' (first | (with_reducible refine codeT_seq ?_) | (with_reducible refine codeT_skip ?_) | (with_reducible refine codeT_ret ?_) | (with_reducible refine codeT_regionL ?_) | ((with_reducible refine codeT_region_drawL ?_ ?_); · rfl) | (with_reducible refine lx_nil ?_) | (with_reducible refine q_then ?_) | ((with_reducible refine q_region_draw ?_ ?_); · rfl) | (exfalso; omega) | ((with_reducible refine g_move ?_); first | refine lx_move (r := (.t _)) rfl rfl rfl rfl rfl ?_) | ((with_reducible refine g_load ?_); first | refine lx_load_var rfl rfl rfl rfl rfl rfl rfl rfl ?_) | ((with_reducible refine g_fieldAddr ?_); first | refine lx_fieldAddr rfl rfl rfl rfl rfl rfl rfl ?_) | ((with_reducible refine g_binOp ?_); first | refine lx_arith rfl rfl rfl rfl rfl rfl rfl ?_ | refine lx_concat rfl rfl rfl rfl rfl rfl ?_ ?_) | ((with_reducible refine g_assign ?_); first | refine lx_assign (r := (.t _)) rfl rfl rfl rfl rfl ?_) | ((with_reducible refine g_box ?_); first | refine lx_box (r := (.t (.agg _))) (cs := (List.map .t _)) rfl rfl rfl rfl rfl rfl rfl rfl rfl ?_) | ((with_reducible refine g_alloc ?_); first | refine lx_alloc rfl rfl rfl rfl rfl rfl rfl ?_) | ((with_reducible refine g_store ?_); first | refine lx_store_var (r := (.t (.agg _))) rfl rfl rfl rfl rfl rfl rfl rfl rfl rfl ?_) | ((with_reducible refine g_build ?_); first | refine lx_build (r := (.t (.agg _))) rfl rfl rfl rfl rfl rfl rfl ?_) | ((with_reducible refine g_len ?_); first | refine lx_len_str rfl rfl rfl rfl rfl ?_) | ((with_reducible refine g_call ?_); first | refine lx_callT rfl rfl hH rfl rfl (ArgsLE.refl _) rfl rfl rfl rfl rfl ?_) | refine c_condP rfl (fun hc => ?_) (fun hc => ?_))
  all_goals try omega
  refine q_ret ?_ (stHas_spec trivial); refine resT_cell_tmp rfl rfl rfl inferInstance rfl inferInstance rfl ?_ ?_; exact TLe.av (by repeat first | exact TLe.refl _ | exact TLe.nil _ | exact TLe.esl _ | refine TLe.agg ?_ | refine TLs.cons ?_ ?_ | exact TLs.nil); exact AVLE.refl _
set_option maxHeartbeats 2000000 in
theorem qAppend_spec (s b : ByteArray) (hs : s.size ≤ 10000000) (hb : b.size ≤ 1000000) : Spec Try.prog 80 [.t (.agg [.str s]), .t (.str b)] [] (.tup [.t (.agg [.str (appS s b)]), .t (.int .i64 0)]) [] := by
  have h4 := qFour_spec (b.size : Int)
  have z4 := fourS_size (b.size : Int)
  have hS := qSum_spec b (by omega)
  have hz := sha_size b
  have e : appS s b = s ++ fourS (b.size : Int) ++ (sha b).extract 0 8 ++ b := by unfold appS headS; simp only [ByteArray.append_assoc]
  rw [e]
  clear e
  generalize sha b = Y at hS hz ⊢
  generalize fourS (b.size : Int) = X at h4 z4 ⊢
  have z1 : (s ++ X).size = s.size + 4 := by rw [ByteArray.size_append, z4]
  have z2 : (s ++ X ++ Y.extract (Int.toNat 0) (Int.toNat 8)).size = s.size + 12 := by rw [ByteArray.size_append, z1, ByteArray.size_extract]; show _ + (min 8 _ - 0) = _; omega
  refine spec_intro (env0 := [(0, _), (1, _)]) (st0 := []) Try.func80 rfl rfl rfl rfl ?_
  repeat' (first | (with_reducible refine codeT_seq ?_) | (with_reducible refine codeT_skip ?_) | (with_reducible refine codeT_ret ?_) | (with_reducible refine codeT_regionL ?_) | ((with_reducible refine codeT_region_drawL ?_ ?_); · rfl) | (with_reducible refine lx_nil ?_) | (with_reducible refine q_then ?_) | ((with_reducible refine q_region_draw ?_ ?_); · rfl) | (exfalso; omega) | ((with_reducible refine g_move ?_); first | refine lx_move (r := (.t _)) rfl rfl rfl rfl rfl ?_) | ((with_reducible refine g_load ?_); first | refine lx_load_var rfl rfl rfl rfl rfl rfl rfl rfl ?_) | ((with_reducible refine g_fieldAddr ?_); first | refine lx_fieldAddr rfl rfl rfl rfl rfl rfl rfl ?_) | ((with_reducible refine g_binOp ?_); first | refine lx_arith rfl rfl rfl rfl rfl rfl rfl ?_ | refine lx_concat rfl rfl rfl rfl rfl rfl ?_ ?_) | ((with_reducible refine g_assign ?_); first | refine lx_assign (r := (.t _)) rfl rfl rfl rfl rfl ?_) | ((with_reducible refine g_box ?_); first | refine lx_box (r := (.t (.agg _))) (cs := (List.map .t _)) rfl rfl rfl rfl rfl rfl rfl rfl rfl ?_) | ((with_reducible refine g_alloc ?_); first | refine lx_alloc rfl rfl rfl rfl rfl rfl rfl ?_) | ((with_reducible refine g_store ?_); first | refine lx_store_var (r := (.t (.agg _))) rfl rfl rfl rfl rfl rfl rfl rfl rfl rfl ?_) | ((with_reducible refine g_slice ?_); first | refine lx_slice_str rfl rfl rfl ⟨_, rfl⟩ rfl rfl rfl ?_ ?_ ?_ ?_) | ((with_reducible refine g_build ?_); first | refine lx_build (r := (.t (.agg _))) rfl rfl rfl rfl rfl rfl rfl ?_) | ((with_reducible refine g_len ?_); first | refine lx_len_str rfl rfl rfl rfl rfl ?_) | ((with_reducible refine g_call ?_); first | refine lx_callT rfl rfl hS rfl rfl (ArgsLE.refl _) rfl rfl rfl rfl rfl ?_ | refine lx_callT rfl rfl h4 rfl rfl (ArgsLE.refl _) rfl rfl rfl rfl rfl ?_) | refine c_condP rfl (fun hc => ?_) (fun hc => ?_))
  all_goals try omega
  · rw [z1, ByteArray.size_extract]; omega
  refine q_ret ?_ (stHas_spec trivial); refine resT_cell_tmp rfl rfl rfl inferInstance rfl inferInstance rfl ?_ ?_; exact TLe.av (by repeat first | exact TLe.refl _ | exact TLe.nil _ | exact TLe.esl _ | refine TLe.agg ?_ | refine TLs.cons ?_ ?_ | exact TLs.nil); exact AVLE.refl _
set_option maxHeartbeats 2000000 in
theorem Crash_spec (s t : ByteArray) (n : Int) (hs : s.size ≤ 10000000) (ht : t.size ≤ 1000000) (hn0 : 0 ≤ n) (hn1 : n ≤ s.size) : Spec Try.prog 49 [.t (.agg [.str s]), .t (.int .i64 n), .t (.str t)] [] (.t (.agg [.str (s.extract 0 n.toNat ++ t)])) [] := by
  refine spec_intro (env0 := [(0, _), (1, _), (2, _)]) (st0 := []) Try.func49 rfl rfl rfl rfl ?_
  repeat' (first | (with_reducible refine codeT_seq ?_) | (with_reducible refine codeT_ret ?_) | (with_reducible refine codeT_regionL ?_) | (with_reducible refine lx_nil ?_) | (with_reducible refine q_then ?_) | ((with_reducible refine g_move ?_); first | refine lx_move (r := (.t _)) rfl rfl rfl rfl rfl ?_) | ((with_reducible refine g_load ?_); first | refine lx_load_var rfl rfl rfl rfl rfl rfl rfl rfl ?_) | ((with_reducible refine g_fieldAddr ?_); first | refine lx_fieldAddr rfl rfl rfl rfl rfl rfl rfl ?_) | ((with_reducible refine g_binOp ?_); first | refine lx_concat rfl rfl rfl rfl rfl rfl ?_ ?_) | ((with_reducible refine g_box ?_); first | refine lx_box (r := (.t (.agg _))) (cs := (List.map .t _)) rfl rfl rfl rfl rfl rfl rfl rfl rfl ?_) | ((with_reducible refine g_alloc ?_); first | refine lx_alloc rfl rfl rfl rfl rfl rfl rfl ?_) | ((with_reducible refine g_store ?_); first | refine lx_store_var (r := (.t (.agg _))) rfl rfl rfl rfl rfl rfl rfl rfl rfl rfl ?_) | ((with_reducible refine g_slice ?_); first | refine lx_slice_str rfl rfl rfl ⟨_, rfl⟩ rfl rfl rfl ?_ ?_ ?_ ?_) | ((with_reducible refine g_build ?_); first | refine lx_build (r := (.t (.agg _))) rfl rfl rfl rfl rfl rfl rfl ?_) | ((with_reducible refine g_len ?_); first | refine lx_len_str rfl rfl rfl rfl rfl ?_) | ((with_reducible refine g_min ?_); first | refine lx_min rfl rfl rfl rfl rfl rfl ?_) | ((with_reducible refine g_max ?_); first | refine lx_max rfl rfl rfl rfl rfl rfl ?_))
  all_goals try omega
  · rw [ByteArray.size_extract]; omega
  have e1 : (if (s.size : Int) < n then (s.size : Int) else n) = n := by split <;> omega
  rw [e1, if_neg (by omega : ¬ (0 : Int) > n)]
  refine q_ret ?_ (stHas_spec trivial); refine resT_cell rfl rfl rfl inferInstance rfl inferInstance rfl ?_; exact TLe.av (by repeat first | exact TLe.refl _ | exact TLe.nil _ | exact TLe.esl _ | refine TLe.agg ?_ | refine TLs.cons ?_ ?_ | exact TLs.nil)
end Go.AL
/- What is read of a journal: the iterator over its records, Read, Whole; lists that are equal. -/
set_option linter.unusedVariables false
namespace Go.AL
open Go Go.Proofs Go.RowKit

set_option maxHeartbeats 2000000 in
theorem records_spec (s : ByteArray) : Spec Try.prog 81 [.t (.str s)] [] (.fn 99 [.ref (.res 0) 0 0 0]) [(.res 0, .var 9 [.t (.str s)])] := by
  refine spec_introG (env0 := [(0, _)]) (st0 := []) Try.func81 rfl rfl rfl rfl ?_
  repeat' (first | (with_reducible refine codeT_seq ?_) | (with_reducible refine codeT_ret ?_) | (with_reducible refine codeT_regionL ?_) | (with_reducible refine lx_nil ?_) | (with_reducible refine q_then ?_) | ((with_reducible refine g_assign ?_); first | refine lx_assign (r := (.t _)) rfl rfl rfl rfl rfl ?_ | refine lx_assign (r := (.fn _ _)) rfl rfl rfl rfl rfl ?_) | ((with_reducible refine g_box ?_); first | refine lx_box (r := (.t _)) (cs := [.t _]) rfl rfl rfl rfl rfl rfl rfl rfl rfl ?_) | ((with_reducible refine g_makeFunc ?_); first | refine lx_makeFunc rfl rfl rfl rfl rfl ?_))
  refine q_ghost ((ghost_keep2 [2] [.loc 1] rfl rfl).trans (ghost_renL2 (.loc 1) (.res 0) rfl rfl rfl rfl)) ?_
  exact q_done (q_ret (resT_one rfl (AVLE.of_eq rfl)) (stHas_spec ⟨rfl, trivial⟩))
theorem or8b {v b : Nat} (hv : v < 4294967297) (hb : b < 256) : IntKind.i64.wrap ((BitVec.ofInt IntKind.i64.bits (IntKind.i64.wrap ((v : Int) * 2 ^ min (Int.toNat 8) IntKind.i64.bits)) ||| BitVec.ofInt IntKind.i64.bits (IntKind.i64.wrap (b : Int))).toNat : Int) = ((v * 256 + b : Nat) : Int) := by
  have e8 : min (Int.toNat 8) IntKind.i64.bits = 8 := by decide
  have e1 : IntKind.i64.wrap ((v : Int) * 2 ^ 8) = ((v * 256 : Nat) : Int) := by rw [wrap64 (by omega) (by omega)]; omega
  rw [e8, wrap64 (n := (b : Int)) (by omega) (by omega), e1]
  have e2 : (BitVec.ofInt IntKind.i64.bits ((v * 256 : Nat) : Int) ||| BitVec.ofInt IntKind.i64.bits (b : Int)).toNat = v * 256 + b := by
    rw [BitVec.toNat_or, BitVec.ofInt_natCast, BitVec.ofInt_natCast, BitVec.toNat_ofNat, BitVec.toNat_ofNat]
    have : IntKind.i64.bits = 64 := rfl
    rw [this, Nat.mod_eq_of_lt (by omega), Nat.mod_eq_of_lt (by omega)]
    have := Nat.shiftLeft_add_eq_or_of_lt (i := 8) (b := b) (by omega) v
    rw [Nat.shiftLeft_eq] at this
    rw [← this]
  rw [e2, wrap64 (by omega) (by omega)]
def jSt (ds : List ByteArray) (o : Int) (q : Id) : StL := [(.par 10, .var 31 [.row q]), (.par 12, .var 3 [.t (.int .i64 o)]), (q, .slt 9 1 (ds.map .str))]
set_option maxHeartbeats 8000000 in
theorem recsF_spec (s : ByteArray) (hs : s.size ≤ 10000000) (kk : LoopK) (tb tn : Nat)
    (H : ∀ (ds : List ByteArray) (b : ByteArray) (a o : Int), ds.length ≤ 10000000 → RoundT Try.prog kk [(tb, .ref (.par 10) 0 0 0), (tn, .ref (.par 12) 0 0 0)] [.t (.str b), .t (.int .i64 a)] (jSt ds o (.par 11)) (jSt (ds ++ [b]) a (.res 0))) :
    Spec Try.prog 99 [.row (.par 50), .ref (.par 20) 0 0 0] ((.par 50, .loop kk [(tb, .ref (.par 10) 0 0 0), (tn, .ref (.par 12) 0 0 0)]) :: (.par 20, .var 9 [.t (.str s)]) :: jSt [] 0 (.par 11))
      (.tup []) ((.par 50, .loop kk [(tb, .ref (.par 10) 0 0 0), (tn, .ref (.par 12) 0 0 0)]) :: (.par 20, .var 9 [.t (.str s)]) :: jSt (readS s).1 (readS s).2 (.res 0)) := by
  unfold jSt at H ⊢
  unfold readS
  obtain ⟨L, hL⟩ : ∃ L, readL s (s.size + 1) 0 = L := ⟨_, rfl⟩
  rw [hL]
  obtain ⟨L, E⟩ := L
  simp only
  refine spec_introG (env0 := [(0, _), (1, _)]) (st0 := [(_, some _), (_, some _), (_, some _), (_, some _), (_, some _)]) Try.func99 rfl rfl rfl rfl ?_
  repeat' (first | (with_reducible refine codeT_seq ?_) | (with_reducible refine codeT_block ?_) | (with_reducible refine codeT_regionL ?_) | (with_reducible refine lx_nil ?_) | (with_reducible refine q_then ?_) | ((with_reducible refine g_assign ?_); first | refine lx_assign (r := (.t _)) rfl rfl rfl rfl rfl ?_))
  refine codeT_ghost ((ghost_keep2 [0, 1, 3] [.par 50, .par 20, .par 10, .par 12, .par 11] rfl rfl).trans (ghost_renLP (.par 11) (.loc 900) rfl rfl rfl rfl)) ?_
  refine codeT_loop (fun p env st => ∃ (u a : Nat) (ds : List ByteArray), p = u ∧ a ≤ s.size ∧ ds.length ≤ a ∧ s.size < u + a ∧ (ds ++ (readL s u a).1, (readL s u a).2) = (L, E) ∧
      env = EnvL.get [(0, .row (.par 50)), (1, .ref (.par 20) 0 0 0), (3, .t (.int .i64 (a : Int)))] ∧
      st = StO.get [(.par 50, some (.loop kk [(tb, .ref (.par 10) 0 0 0), (tn, .ref (.par 12) 0 0 0)])), (.par 20, some (.var 9 [.t (.str s)])), (.par 10, some (.var 31 [.row (.loc 900)])), (.par 12, some (.var 3 [.t (.int .i64 (a : Int))])), (.loc 900, some (.slt 9 1 (ds.map .str)))])
    ?_ (n := s.size + 1) ⟨s.size + 1, 0, [], rfl, by omega, by simp, by omega, by rw [hL]; rfl, rfl, rfl⟩
  rintro p env st ⟨u, a, ds, rfl, ha, hda, hu, hr, rfl, rfl⟩
  obtain ⟨u, rfl⟩ : ∃ v, p = v + 1 := ⟨p - 1, by omega⟩
  have w1 : IntKind.i64.wrap ((s.size : Int) - (a : Int)) = (s.size : Int) - (a : Int) := wrap64 (by omega) (by omega)
  have w2 : IntKind.i64.wrap ((a : Int) + 4) = ((a + 4 : Nat) : Int) := by rw [wrap64 (by omega) (by omega)]; omega
  by_cases c1 : a + 12 ≤ s.size
  · obtain ⟨W, hW⟩ : ∃ W, W = s.extract ((a : Int)).toNat (IntKind.i64.wrap ((a : Int) + 4)).toNat := ⟨_, rfl⟩
    have hWz : W.size = 4 := by rw [hW, w2, ByteArray.size_extract]; omega
    have hWb : ∀ j : Nat, j < 4 → (W.data.toList.getD ((j : Int)).toNat default).toNat = bN s (a + j) := fun j hj => by
      have e1 : W.data.toList = (s.data.toList.drop a).take 4 := by
        rw [hW, w2, toList_extr]
        show List.take (a + 4 - a) _ = _
        rw [show a + 4 - a = 4 by omega]; rfl
      have hl : a + j < s.data.toList.length := by rw [toList_len]; omega
      unfold bN bAt
      rw [e1, Int.toNat_natCast, Int.toNat_natCast, Int.toNat_natCast, List.getD_eq_getElem?_getD, List.getD_eq_getElem?_getD, List.getElem?_take, if_pos hj, List.getElem?_drop, List.getElem?_eq_getElem hl]
      rfl
    have hWl : W.data.toList.length = 4 := by rw [toList_len]; exact hWz
    repeat' (first | (with_reducible refine codeT_seq ?_) | (with_reducible refine codeT_block ?_) | (with_reducible refine codeT_skip ?_) | (with_reducible refine codeT_exit ?_) | (with_reducible refine codeT_regionL ?_) | (with_reducible refine lx_nil ?_) | (with_reducible refine q_then ?_) | (with_reducible refine q_then_exit ?_) | ((with_reducible refine q_block_same ?_ ?_); · rfl) | (with_reducible refine q_loop_exit ?_) | (exfalso; omega) | ((with_reducible refine g_move ?_); first | refine lx_move (r := (.t _)) rfl rfl rfl rfl rfl ?_) | ((with_reducible refine g_load ?_); first | refine lx_load_var rfl rfl rfl rfl rfl rfl rfl rfl ?_) | ((with_reducible refine g_binOp ?_); first | refine lx_arith rfl rfl rfl rfl rfl rfl rfl ?_) | ((with_reducible refine g_assign ?_); first | refine lx_assign (r := (.t _)) rfl rfl rfl rfl rfl ?_) | ((with_reducible refine g_convert ?_); first | refine lx_toBytes rfl rfl rfl rfl rfl rfl ?_ ?_) | ((with_reducible refine g_slice ?_); first | refine lx_slice_str rfl rfl ⟨_, rfl⟩ ⟨_, rfl⟩ rfl rfl rfl ?_ ?_ ?_ ?_) | ((with_reducible refine g_len ?_); first | refine lx_len_str rfl rfl rfl rfl rfl ?_ | refine lx_len_rowmap rfl rfl rfl rfl rfl rfl ?_) | refine c_condP rfl (fun hc => ?_) (fun hc => ?_))
    all_goals try omega
    · rw [← hW]; omega
    rw [← hW]
    refine codeT_ghost (ghost_keep2 [0, 1, 3, 4, 19, 20, 21] [.par 50, .par 20, .par 10, .par 12, .loc 900, .loc 19] rfl rfl) ?_
    refine codeT_loop (fun p env st => ∃ (j : Nat), j ≤ 4 ∧ p = 4 - j ∧
        env = EnvL.get [(0, .row (.par 50)), (1, .ref (.par 20) 0 0 0), (3, .t (.int .i64 (a : Int))), (4, .t (.int .i64 (numP s a j : Int))), (19, .row (.loc 19)), (20, .t (.int .i64 (W.data.toList.length : Int))), (21, .t (.int .i64 (j : Int)))] ∧
        st = StO.get [(.par 50, some (.loop kk [(tb, .ref (.par 10) 0 0 0), (tn, .ref (.par 12) 0 0 0)])), (.par 20, some (.var 9 [.t (.str s)])), (.par 10, some (.var 31 [.row (.loc 900)])), (.par 12, some (.var 3 [.t (.int .i64 (a : Int))])), (.loc 900, some (.slt 9 1 (ds.map .str))), (.loc 19, some (.slt 5 1 (bytesT W)))])
      ?_ (n := 4) ⟨0, by omega, rfl, rfl, rfl⟩
    rintro p env st ⟨j, hj, rfl, rfl, rfl⟩
    by_cases hlt : j < 4
    · have hb := hWb j hlt
      have hor := or8b (v := numP s a j) (b := bN s (a + j)) (by
        have h1 := numP_lt s a j
        have h2 : 256 ^ j ≤ 256 ^ 4 := Nat.pow_le_pow_right (by decide) hj
        omega) (bN_lt s _)
      rw [← hb] at hor
      repeat' (first | (with_reducible refine codeT_seq ?_) | (with_reducible refine codeT_block ?_) | (with_reducible refine codeT_skip ?_) | (with_reducible refine codeT_exit ?_) | (with_reducible refine codeT_regionL ?_) | (with_reducible refine lx_nil ?_) | (with_reducible refine q_then ?_) | (with_reducible refine q_then_exit ?_) | (with_reducible refine q_block ?_) | ((with_reducible refine q_block_same ?_ ?_); · rfl) | (with_reducible refine q_loop_exit ?_) | (exfalso; omega) | ((with_reducible refine g_move ?_); first | refine lx_move (r := (.t _)) rfl rfl rfl rfl rfl ?_) | ((with_reducible refine g_load ?_); first | refine lx_load_elsM rfl rfl rfl rfl rfl rfl rfl rfl ?_ ?_) | ((with_reducible refine g_binOp ?_); first | refine lx_arith rfl rfl rfl rfl rfl rfl rfl ?_ | refine lx_shl rfl rfl rfl rfl rfl rfl (by decide) ?_) | ((with_reducible refine g_assign ?_); first | refine lx_assign (r := (.t _)) rfl rfl rfl rfl rfl ?_) | ((with_reducible refine g_indexAddr ?_); first | refine lx_indexAddr_row rfl rfl rfl rfl rfl rfl rfl ?_ ?_ ?_) | ((with_reducible refine g_convert ?_); first | refine lx_conv_int rfl rfl rfl rfl rfl ?_) | refine c_condP rfl (fun hc => ?_) (fun hc => ?_))
      all_goals try omega
      · rw [bytesT_len]; omega
      refine q_loop (n' := 4 - (j + 1)) (by omega) (ghost_keep2 [0, 1, 3, 4, 19, 20, 21] [.par 50, .par 20, .par 10, .par 12, .loc 900, .loc 19] rfl rfl) ⟨j + 1, by omega, rfl, ?_, rfl⟩
      rw [wrap64 (n := (j : Int) + 1) (by omega) (by omega), hor, hb]
      rfl
    · obtain rfl : j = 4 := by omega
      clear hWb
      have hN4 := numP_lt s a 4
      have hone : oneR s a = if a + 12 ≤ s.size ∧ numP s a 4 ≤ 1048576 ∧ a + 12 + numP s a 4 ≤ s.size ∧ s.extract a (a + 12) = headS (s.extract (a + 12) (a + 12 + numP s a 4)) then some (s.extract (a + 12) (a + 12 + numP s a 4)) else none := rfl
      generalize numP s a 4 = N at hone hN4 ⊢
      have w5 : IntKind.i64.wrap (IntKind.i64.wrap ((a : Int) + 4) + 8) = ((a + 12 : Nat) : Int) := by rw [w2, wrap64 (by omega) (by omega)]; omega
      have w6 : IntKind.i64.wrap ((s.size : Int) - IntKind.i64.wrap (IntKind.i64.wrap ((a : Int) + 4) + 8)) = (s.size : Int) - ((a + 12 : Nat) : Int) := by rw [w5]; exact wrap64 (by omega) (by omega)
      by_cases c2 : N ≤ 1048576 ∧ a + 12 + N ≤ s.size
      · have w7 : IntKind.i64.wrap (IntKind.i64.wrap (IntKind.i64.wrap ((a : Int) + 4) + 8) + (N : Int)) = ((a + 12 + N : Nat) : Int) := by rw [w5, wrap64 (by omega) (by omega)]; omega
        obtain ⟨b, hb⟩ : ∃ b, b = s.extract (IntKind.i64.wrap (IntKind.i64.wrap ((a : Int) + 4) + 8)).toNat (IntKind.i64.wrap (IntKind.i64.wrap (IntKind.i64.wrap ((a : Int) + 4) + 8) + (N : Int))).toNat := ⟨_, rfl⟩
        have hb' : b = s.extract (a + 12) (a + 12 + N) := by rw [hb, w7, w5]; rfl
        have hbz : b.size = N := by rw [hb', ByteArray.size_extract]; omega
        have hH := head_spec b (by omega)
        have hR := H ds b (IntKind.i64.wrap (IntKind.i64.wrap (IntKind.i64.wrap ((a : Int) + 4) + 8) + (N : Int))) (a : Int) (by omega)
        have hx : s.extract ((a : Int)).toNat (IntKind.i64.wrap (IntKind.i64.wrap ((a : Int) + 4) + 8)).toNat = s.extract a (a + 12) := by rw [w5]; rfl
        rw [← hb', ← hx] at hone
        rw [hb] at hH hR
        by_cases c4 : s.extract ((a : Int)).toNat (IntKind.i64.wrap (IntKind.i64.wrap ((a : Int) + 4) + 8)).toNat = headS b
        · rw [if_pos ⟨c1, c2.1, c2.2, c4⟩] at hone
          rw [readL, hone] at hr
          simp only at hr
          rw [hb] at c4
          repeat' (first | (with_reducible refine codeT_seq ?_) | (with_reducible refine codeT_block ?_) | (with_reducible refine codeT_skip ?_) | (with_reducible refine codeT_ret ?_) | (with_reducible refine codeT_exit ?_) | (with_reducible refine codeT_regionL ?_) | ((with_reducible refine codeT_region_drawL ?_ ?_); · rfl) | (with_reducible refine lx_nil ?_) | (with_reducible refine q_then ?_) | (with_reducible refine q_then_exit ?_) | (with_reducible refine q_then_ret ?_) | (with_reducible refine q_block ?_) | (with_reducible refine q_block_ret ?_) | ((with_reducible refine q_block_same ?_ ?_); · rfl) | (with_reducible refine q_loop_exit ?_) | (with_reducible refine q_loop_ret ?_) | ((with_reducible refine q_region_draw ?_ ?_); · rfl) | refine c_condT rfl ?_ | refine c_condF rfl ?_ | (exfalso; omega) | ((with_reducible refine g_guard ?_); first | refine lx_skip rfl rfl rfl ?_) | ((with_reducible refine g_move ?_); first | refine lx_move (r := (.t _)) rfl rfl rfl rfl rfl ?_ | refine lx_move (r := (.row _)) rfl rfl rfl rfl rfl ?_) | ((with_reducible refine g_load ?_); first | refine lx_load_var rfl rfl rfl rfl rfl rfl rfl rfl ?_) | ((with_reducible refine g_binOp ?_); first | refine lx_arith rfl rfl rfl rfl rfl rfl rfl ?_ | refine lx_str_ne rfl rfl rfl rfl rfl rfl ?_) | ((with_reducible refine g_assign ?_); first | refine lx_assign (r := (.t _)) rfl rfl rfl rfl rfl ?_) | ((with_reducible refine g_pick ?_); first | refine lx_pickT (r := (.t _)) rfl rfl rfl rfl rfl rfl ?_ | refine lx_pickF (r := (.t _)) rfl rfl rfl rfl rfl rfl ?_) | ((with_reducible refine g_unOp ?_); first | refine lx_not rfl rfl rfl rfl rfl ?_) | ((with_reducible refine g_slice ?_); first | refine lx_slice_str rfl rfl ⟨_, rfl⟩ ⟨_, rfl⟩ rfl rfl rfl ?_ ?_ ?_ ?_) | ((with_reducible refine g_len ?_); first | refine lx_len_str rfl rfl rfl rfl rfl ?_) | ((with_reducible refine g_call ?_); first | refine lx_callT rfl rfl hH rfl rfl (ArgsLE.refl _) rfl rfl rfl rfl rfl ?_ | refine lx_yield [(.par 11, .loc 900), (.res 0, .loc 901)] rfl rfl hR rfl (ArgsLE.refl _) rfl rfl ⟨rfl, rfl, rfl, trivial⟩ rfl rfl rfl rfl rfl rfl rfl rfl rfl rfl ?_) | refine c_condP rfl (fun hc => ?_) (fun hc => ?_) | refine lx_splitP rfl (fun hc => ?_) (fun hc => ?_) | refine lx_splitN rfl (fun hc => ?_) (fun hc => ?_))
          all_goals try omega
          all_goals try (exact absurd c4 ‹_›)
          refine q_loop (n' := u) (by omega) ((ghost_keep2 [0, 1, 3] [.par 50, .par 20, .par 10, .par 12, .loc 901] rfl rfl).trans (ghost_renL2 (.loc 901) (.loc 900) rfl rfl rfl rfl)) ⟨u, a + 12 + N, ds ++ [b], rfl, by omega, by simp; omega, by omega, ?_, ?_, ?_⟩
          · rw [← hbz, List.append_assoc]; exact hr
          · rw [← w7]; rfl
          · rw [← w7, hb]; rfl
        · rw [if_neg (fun h => c4 h.2.2.2)] at hone
          rw [readL, hone] at hr
          simp only [List.append_nil, Prod.mk.injEq] at hr
          obtain ⟨rfl, rfl⟩ := hr
          rw [hb] at c4
          repeat' (first | (with_reducible refine codeT_seq ?_) | (with_reducible refine codeT_block ?_) | (with_reducible refine codeT_skip ?_) | (with_reducible refine codeT_ret ?_) | (with_reducible refine codeT_exit ?_) | (with_reducible refine codeT_regionL ?_) | ((with_reducible refine codeT_region_drawL ?_ ?_); · rfl) | (with_reducible refine lx_nil ?_) | (with_reducible refine q_then ?_) | (with_reducible refine q_then_exit ?_) | (with_reducible refine q_then_ret ?_) | (with_reducible refine q_block_ret ?_) | ((with_reducible refine q_block_same ?_ ?_); · rfl) | (with_reducible refine q_loop_exit ?_) | (with_reducible refine q_loop_ret ?_) | ((with_reducible refine q_region_draw ?_ ?_); · rfl) | refine c_condT rfl ?_ | (exfalso; omega) | exact absurd hc c4 | ((with_reducible refine g_guard ?_); first | refine lx_skip rfl rfl rfl ?_) | ((with_reducible refine g_move ?_); first | refine lx_move (r := (.t _)) rfl rfl rfl rfl rfl ?_) | ((with_reducible refine g_load ?_); first | refine lx_load_var rfl rfl rfl rfl rfl rfl rfl rfl ?_) | ((with_reducible refine g_binOp ?_); first | refine lx_arith rfl rfl rfl rfl rfl rfl rfl ?_ | refine lx_str_ne rfl rfl rfl rfl rfl rfl ?_) | ((with_reducible refine g_assign ?_); first | refine lx_assign (r := (.t _)) rfl rfl rfl rfl rfl ?_) | ((with_reducible refine g_pick ?_); first | refine lx_pickT (r := (.t _)) rfl rfl rfl rfl rfl rfl ?_ | refine lx_pickF (r := (.t _)) rfl rfl rfl rfl rfl rfl ?_) | ((with_reducible refine g_slice ?_); first | refine lx_slice_str rfl rfl ⟨_, rfl⟩ ⟨_, rfl⟩ rfl rfl rfl ?_ ?_ ?_ ?_) | ((with_reducible refine g_len ?_); first | refine lx_len_str rfl rfl rfl rfl rfl ?_) | ((with_reducible refine g_call ?_); first | refine lx_callT rfl rfl hH rfl rfl (ArgsLE.refl _) rfl rfl rfl rfl rfl ?_) | refine c_condP rfl (fun hc => ?_) (fun hc => ?_) | refine lx_splitP rfl (fun hc => ?_) (fun hc => ?_) | refine lx_splitN rfl (fun hc => ?_) (fun hc => ?_))
          all_goals try omega
          all_goals try (exact absurd ‹_› c4)
          refine q_ghost ((ghost_keep2 [] [.par 50, .par 20, .par 10, .par 12, .loc 900] rfl rfl).trans (ghost_renL2 (.loc 900) (.res 0) rfl rfl rfl rfl)) ?_
          exact q_done (q_ret (resT_none rfl) (stHas_spec ⟨rfl, rfl, rfl, rfl, rfl, trivial⟩))
      · rw [if_neg (fun h => c2 ⟨h.2.1, h.2.2.1⟩)] at hone
        rw [readL, hone] at hr
        simp only [List.append_nil, Prod.mk.injEq] at hr
        obtain ⟨rfl, rfl⟩ := hr
        have c2' : 1048576 < (N : Int) ∨ (s.size : Int) - ((a + 12 : Nat) : Int) < (N : Int) := by omega
        repeat' (first | (with_reducible refine codeT_seq ?_) | (with_reducible refine codeT_block ?_) | (with_reducible refine codeT_skip ?_) | (with_reducible refine codeT_ret ?_) | (with_reducible refine codeT_exit ?_) | (with_reducible refine codeT_regionL ?_) | (with_reducible refine lx_nil ?_) | (with_reducible refine q_then ?_) | (with_reducible refine q_then_exit ?_) | (with_reducible refine q_then_ret ?_) | (with_reducible refine q_block_ret ?_) | ((with_reducible refine q_block_same ?_ ?_); · rfl) | (with_reducible refine q_loop_exit ?_) | (with_reducible refine q_loop_ret ?_) | refine c_condT rfl ?_ | (exfalso; omega) | ((with_reducible refine g_guard ?_); first | refine lx_skip rfl rfl rfl ?_) | ((with_reducible refine g_move ?_); first | refine lx_move (r := (.t _)) rfl rfl rfl rfl rfl ?_) | ((with_reducible refine g_load ?_); first | refine lx_load_var rfl rfl rfl rfl rfl rfl rfl rfl ?_) | ((with_reducible refine g_binOp ?_); first | refine lx_arith rfl rfl rfl rfl rfl rfl rfl ?_) | ((with_reducible refine g_assign ?_); first | refine lx_assign (r := (.t _)) rfl rfl rfl rfl rfl ?_) | ((with_reducible refine g_pick ?_); first | refine lx_pickT (r := (.t _)) rfl rfl rfl rfl rfl rfl ?_ | refine lx_pickF (r := (.t _)) rfl rfl rfl rfl rfl rfl ?_) | ((with_reducible refine g_len ?_); first | refine lx_len_str rfl rfl rfl rfl rfl ?_) | refine c_condP rfl (fun hc => ?_) (fun hc => ?_) | refine lx_splitP rfl (fun hc => ?_) (fun hc => ?_))
        all_goals try omega
        all_goals refine q_ghost ((ghost_keep2 [] [.par 50, .par 20, .par 10, .par 12, .loc 900] rfl rfl).trans (ghost_renL2 (.loc 900) (.res 0) rfl rfl rfl rfl)) ?_
        all_goals exact q_done (q_ret (resT_none rfl) (stHas_spec ⟨rfl, rfl, rfl, rfl, rfl, trivial⟩))
  · have hn : oneR s a = none := by unfold oneR; rw [if_neg (fun h => c1 h.1)]
    rw [readL, hn] at hr
    simp only [List.append_nil, Prod.mk.injEq] at hr
    obtain ⟨rfl, rfl⟩ := hr
    repeat' (first | (with_reducible refine codeT_seq ?_) | (with_reducible refine codeT_block ?_) | (with_reducible refine codeT_skip ?_) | (with_reducible refine codeT_exit ?_) | (with_reducible refine codeT_regionL ?_) | (with_reducible refine lx_nil ?_) | (with_reducible refine q_then ?_) | (with_reducible refine q_then_exit ?_) | ((with_reducible refine q_block_same ?_ ?_); · rfl) | (with_reducible refine q_loop_exit ?_) | (exfalso; omega) | ((with_reducible refine g_move ?_); first | refine lx_move (r := (.t _)) rfl rfl rfl rfl rfl ?_) | ((with_reducible refine g_load ?_); first | refine lx_load_var rfl rfl rfl rfl rfl rfl rfl rfl ?_) | ((with_reducible refine g_binOp ?_); first | refine lx_arith rfl rfl rfl rfl rfl rfl rfl ?_) | ((with_reducible refine g_len ?_); first | refine lx_len_str rfl rfl rfl rfl rfl ?_) | refine c_condP rfl (fun hc => ?_) (fun hc => ?_))
    all_goals try omega
    refine q_ghost ((ghost_keep2 [] [.par 50, .par 20, .par 10, .par 12, .loc 900] rfl rfl).trans (ghost_renL2 (.loc 900) (.res 0) rfl rfl rfl rfl)) ?_
    exact q_done (q_end (resT_none rfl) (stHas_spec ⟨rfl, rfl, rfl, rfl, rfl, trivial⟩))
end Go.AL
/- What Read and Whole of a journal answer. -/
set_option linter.unusedVariables false
namespace Go.AL
open Go Go.Proofs Go.RowKit

set_option maxHeartbeats 8000000 in
theorem Read_spec (s : ByteArray) (hs : s.size ≤ 10000000) : Spec Try.prog 50 [.t (.agg [.str s])] [] (.tup [.t (.sl 1 ((readS s).1.map .str)), .t (.int .i64 ((readS s).2 : Int))]) [] := by
  have hI := records_spec s
  have hF := recsF_spec s hs
  generalize readS s = L at hF ⊢
  obtain ⟨L, E⟩ := L
  unfold jSt at hF
  simp only at hF ⊢
  refine spec_introG (env0 := [(0, _)]) (st0 := []) Try.func50 rfl rfl rfl rfl ?_
  repeat' (first | (with_reducible refine codeT_seq ?_) | (with_reducible refine codeT_block ?_) | (with_reducible refine codeT_regionL ?_) | (with_reducible refine lx_nil ?_) | (with_reducible refine q_then ?_) | ((with_reducible refine g_load ?_); first | refine lx_load_var rfl rfl rfl rfl rfl rfl rfl rfl ?_) | ((with_reducible refine g_fieldAddr ?_); first | refine lx_fieldAddr rfl rfl rfl rfl rfl rfl rfl ?_) | ((with_reducible refine g_assign ?_); first | refine lx_assign (r := (.t _)) rfl rfl rfl rfl rfl ?_) | ((with_reducible refine g_box ?_); first | refine lx_box (r := (.t (.agg _))) (cs := (List.map .t _)) rfl rfl rfl rfl rfl rfl rfl rfl rfl ?_) | ((with_reducible refine g_alloc ?_); first | refine lx_alloc rfl rfl rfl rfl rfl rfl rfl ?_) | ((with_reducible refine g_store ?_); first | refine lx_store_var (r := (.t _)) rfl rfl rfl rfl rfl rfl rfl rfl rfl rfl ?_) | ((with_reducible refine g_call ?_); first | refine lx_call (r' := .fn 99 [.ref (.loc 904) 0 0 0]) [(.res 0, .loc 904)] rfl rfl hI (ArgsLE.refl _) rfl trivial rfl rfl rfl rfl rfl rfl rfl rfl rfl rfl ?_))
  refine codeT_ghost (ghost_cellNilL (r := .loc 4) 0 (.loc 900) 9 1 rfl rfl rfl rfl rfl) ?_
  refine codeT_ghost (ghost_keep2 [4, 5, 10] [.loc 4, .loc 5, .loc 900, .loc 904] rfl rfl) ?_
  refine codeT_rangeFuncL (.par 50) (.loc 905) [(.par 50, .loc 905), (.par 10, .loc 4), (.par 12, .loc 5), (.par 11, .loc 900), (.par 20, .loc 904), (.res 0, .loc 906)] rfl (fun fn B => hF ⟨20, fn, #[11, 12], _, _, B⟩ 4 5 ?_) (fun _ _ => rfl) rfl rfl rfl (.cons (.refl _) .nil) ⟨.refl _, .refl _, trivial⟩ rfl rfl ⟨rfl, rfl, rfl, rfl, trivial⟩ rfl rfl rfl rfl rfl rfl ?_
  · intro ds b a o hd
    refine roundT_intro rfl rfl rfl rfl rfl ?_
    rw [show (ds ++ [b]).map T.str = ds.map T.str ++ [T.str b] from List.map_append ..]
    repeat' (first | (with_reducible refine codeT_seq ?_) | (with_reducible refine codeT_block ?_) | (with_reducible refine codeT_regionL ?_) | (with_reducible refine lx_nil ?_) | (with_reducible refine q_then ?_) | (with_reducible refine q_block ?_) | ((with_reducible refine g_move ?_); first | refine lx_move (r := (.t _)) rfl rfl rfl rfl rfl ?_) | ((with_reducible refine g_load ?_); first | refine lx_load_var rfl rfl rfl rfl rfl rfl rfl rfl ?_) | ((with_reducible refine g_assign ?_); first | refine lx_assign (r := (.t _)) rfl rfl rfl rfl rfl ?_) | ((with_reducible refine g_store ?_); first | refine lx_store_var (r := (.t _)) rfl rfl rfl rfl rfl rfl rfl rfl rfl rfl ?_ | refine lx_store_var (r := (.row _)) rfl rfl rfl rfl rfl rfl rfl rfl rfl rfl ?_) | ((with_reducible refine g_buildSlice ?_); first | refine lx_buildSlice rfl rfl rfl rfl rfl rfl rfl ?_) | ((with_reducible refine g_append ?_); first | refine lx_append_row rfl rfl rfl rfl rfl rfl rfl rfl rfl rfl ?_ ?_ ?_))
    all_goals try (simp only [List.length_map, List.length_singleton]; omega)
    refine q_ghost ((ghost_keep2 [] [.par 10, .par 12, .loc 16] rfl rfl).trans (ghost_renL2 (.loc 16) (.res 0) rfl rfl rfl rfl)) ?_
    exact q_round ⟨rfl, rfl, rfl, trivial⟩
  · repeat' (first | (with_reducible refine codeT_seq ?_) | (with_reducible refine codeT_ret ?_) | ((with_reducible refine codeT_region_drawL ?_ ?_); · rfl) | (with_reducible refine lx_nil ?_) | (with_reducible refine q_then ?_) | (with_reducible refine q_block ?_) | ((with_reducible refine q_region_draw ?_ ?_); · rfl) | ((with_reducible refine g_load ?_); first | refine lx_load_var rfl rfl rfl rfl rfl rfl rfl rfl ?_) | ((with_reducible refine g_assign ?_); first | refine lx_assign (r := (.t _)) rfl rfl rfl rfl rfl ?_ | refine lx_assign (r := (.row _)) rfl rfl rfl rfl rfl ?_))
    refine q_ghost (ghost_keep2 [2, 3] [.loc 906] rfl rfl) ?_
    refine q_ghost (ghost_freezeL (id := .loc 906) rfl rfl rfl) ?_
    exact q_done (q_ret (resT_twoE rfl rfl rfl rfl rfl) (stHas_spec trivial))
set_option maxHeartbeats 2000000 in
theorem Whole_spec (s : ByteArray) (hs : s.size ≤ 10000000) (hE : (readS s).2 ≤ s.size) : Spec Try.prog 53 [.t (.agg [.str s])] [] (.t (.agg [.str (s.extract 0 (readS s).2)])) [] := by
  have hR := Read_spec s hs
  generalize readS s = L at hR hE ⊢
  obtain ⟨L, E⟩ := L
  simp only at hR hE ⊢
  refine spec_intro (env0 := [(0, _)]) (st0 := []) Try.func53 rfl rfl rfl rfl ?_
  repeat' (first | (with_reducible refine codeT_seq ?_) | (with_reducible refine codeT_ret ?_) | (with_reducible refine codeT_regionL ?_) | (with_reducible refine lx_nil ?_) | (with_reducible refine q_then ?_) | ((with_reducible refine g_move ?_); first | refine lx_move (r := (.t _)) rfl rfl rfl rfl rfl ?_ | refine lx_move (r := (.tup _)) rfl rfl rfl rfl rfl ?_) | ((with_reducible refine g_load ?_); first | refine lx_load_var rfl rfl rfl rfl rfl rfl rfl rfl ?_ | refine lx_load_varA (r := (.t (.agg _))) rfl rfl rfl rfl rfl rfl rfl rfl rfl ?_) | ((with_reducible refine g_fieldAddr ?_); first | refine lx_fieldAddr rfl rfl rfl rfl rfl rfl rfl ?_) | ((with_reducible refine g_assign ?_); first | refine lx_assign (r := (.t _)) rfl rfl rfl rfl rfl ?_) | ((with_reducible refine g_box ?_); first | refine lx_box (r := (.t (.agg _))) (cs := (List.map .t _)) rfl rfl rfl rfl rfl rfl rfl rfl rfl ?_) | ((with_reducible refine g_alloc ?_); first | refine lx_alloc rfl rfl rfl rfl rfl rfl rfl ?_) | ((with_reducible refine g_store ?_); first | refine lx_store_var (r := (.t (.agg _))) rfl rfl rfl rfl rfl rfl rfl rfl rfl rfl ?_) | ((with_reducible refine g_extract ?_); first | refine lx_extract rfl rfl rfl rfl rfl rfl ?_) | ((with_reducible refine g_slice ?_); first | refine lx_slice_str rfl rfl rfl ⟨_, rfl⟩ rfl rfl rfl ?_ ?_ ?_ ?_) | ((with_reducible refine g_build ?_); first | refine lx_build (r := (.t (.agg _))) rfl rfl rfl rfl rfl rfl rfl ?_) | ((with_reducible refine g_call ?_); first | refine lx_callT rfl rfl hR rfl rfl (ArgsLE.refl _) rfl rfl rfl rfl rfl ?_))
  all_goals try omega
  refine q_ret ?_ (stHas_spec trivial); refine resT_cell rfl rfl rfl inferInstance rfl inferInstance rfl ?_; exact TLe.av (by repeat first | exact TLe.refl _ | exact TLe.nil _ | exact TLe.esl _ | refine TLe.agg ?_ | refine TLs.cons ?_ ?_ | exact TLs.nil)
set_option maxHeartbeats 2000000 in
theorem same43_spec (a b : List ByteArray) (hl : a.length ≤ 1000000000) : Spec Try.prog 51 [.t (.sl 1 (a.map .str)), .t (.sl 1 (b.map .str))] [] (.t (.bool (decide (a = b)))) [] := by
  by_cases h0 : a.length = b.length
  · have h0' : (a.length : Int) = b.length := by omega
    refine spec_intro (env0 := [(0, _), (1, _)]) (st0 := []) Try.func51 rfl rfl rfl rfl ?_
    repeat' (first | (with_reducible refine codeT_seq ?_) | (with_reducible refine codeT_block ?_) | (with_reducible refine codeT_skip ?_) | (with_reducible refine codeT_regionL ?_) | (with_reducible refine lx_nil ?_) | (with_reducible refine q_then ?_) | (exfalso; omega) | ((with_reducible refine g_move ?_); first | refine lx_move (r := (.t _)) rfl rfl rfl rfl rfl ?_) | ((with_reducible refine g_binOp ?_); first | refine lx_arith rfl rfl rfl rfl rfl rfl rfl ?_) | ((with_reducible refine g_assign ?_); first | refine lx_assign (r := (.t _)) rfl rfl rfl rfl rfl ?_) | ((with_reducible refine g_len ?_); first | refine lx_len_map rfl rfl rfl rfl rfl ?_) | refine c_condN rfl (fun hc => ?_) (fun hc => ?_))
    refine codeT_ghost (ghost_keep2 [0, 1, 12, 13] [] rfl rfl) ?_
    refine codeT_loop (fun p env st => ∃ (j : Nat), j ≤ a.length ∧ p = a.length - j ∧ (∀ i, i < j → a.getD i default = b.getD i default) ∧
        env = EnvL.get [(0, .t (.sl 1 (a.map .str))), (1, .t (.sl 1 (b.map .str))), (12, .t (.int .i64 (a.length : Int))), (13, .t (.int .i64 (j : Int)))] ∧ st = StO.get [])
      ?_ (n := a.length) ⟨0, by omega, rfl, fun i h => by omega, rfl, rfl⟩
    rintro p env st ⟨j, hj, rfl, hE, rfl, rfl⟩
    by_cases hlt : j < a.length
    · by_cases he : a.getD (j : Int).toNat default = b.getD (j : Int).toNat default
      · repeat' (first | (with_reducible refine codeT_seq ?_) | (with_reducible refine codeT_block ?_) | (with_reducible refine codeT_skip ?_) | (with_reducible refine codeT_ret ?_) | (with_reducible refine codeT_exit ?_) | (with_reducible refine codeT_regionL ?_) | ((with_reducible refine codeT_region_drawL ?_ ?_); · rfl) | (with_reducible refine lx_nil ?_) | (with_reducible refine q_then ?_) | (with_reducible refine q_then_exit ?_) | (with_reducible refine q_then_ret ?_) | (with_reducible refine q_block ?_) | (with_reducible refine q_block_ret ?_) | ((with_reducible refine q_block_same ?_ ?_); · rfl) | (with_reducible refine q_loop_exit ?_) | (with_reducible refine q_loop_ret ?_) | ((with_reducible refine q_region_draw ?_ ?_); · rfl) | (exfalso; omega) | ((with_reducible refine g_move ?_); first | refine lx_move (r := (.t _)) rfl rfl rfl rfl rfl ?_) | ((with_reducible refine g_load ?_); first | refine lx_load_tp rfl rfl rfl rfl rfl rfl rfl ?_) | ((with_reducible refine g_binOp ?_); first | refine lx_arith rfl rfl rfl rfl rfl rfl rfl ?_ | refine lx_str_ne rfl rfl rfl rfl rfl rfl ?_) | ((with_reducible refine g_assign ?_); first | refine lx_assign (r := (.t _)) rfl rfl rfl rfl rfl ?_) | ((with_reducible refine g_indexAddr ?_); first | refine lx_indexAddr_map rfl rfl rfl rfl rfl rfl ?_ ?_ ?_) | refine c_condP rfl (fun hc => ?_) (fun hc => ?_) | refine c_condN rfl (fun hc => ?_) (fun hc => ?_))
        all_goals try omega
        all_goals try (exact absurd he ‹_›)
        refine q_loop (n' := a.length - (j + 1)) (by omega) (ghost_keep2 [0, 1, 12, 13] [] rfl rfl) ⟨j + 1, by omega, rfl, fun i hi => ?_, by rw [wrap64 (by omega) (by omega)]; rfl, rfl⟩
        rcases Nat.lt_or_ge i j with h | h
        · exact hE i h
        · obtain rfl : i = j := by omega
          exact he
      · have hne : a ≠ b := fun h => he (by rw [h])
        rw [decide_eq_false hne]
        repeat' (first | (with_reducible refine codeT_seq ?_) | (with_reducible refine codeT_block ?_) | (with_reducible refine codeT_skip ?_) | (with_reducible refine codeT_ret ?_) | (with_reducible refine codeT_exit ?_) | (with_reducible refine codeT_regionL ?_) | ((with_reducible refine codeT_region_drawL ?_ ?_); · rfl) | (with_reducible refine lx_nil ?_) | (with_reducible refine q_then ?_) | (with_reducible refine q_then_exit ?_) | (with_reducible refine q_then_ret ?_) | (with_reducible refine q_block ?_) | (with_reducible refine q_block_ret ?_) | ((with_reducible refine q_block_same ?_ ?_); · rfl) | (with_reducible refine q_loop_exit ?_) | (with_reducible refine q_loop_ret ?_) | ((with_reducible refine q_region_draw ?_ ?_); · rfl) | (exfalso; omega) | ((with_reducible refine g_move ?_); first | refine lx_move (r := (.t _)) rfl rfl rfl rfl rfl ?_) | ((with_reducible refine g_load ?_); first | refine lx_load_tp rfl rfl rfl rfl rfl rfl rfl ?_) | ((with_reducible refine g_binOp ?_); first | refine lx_arith rfl rfl rfl rfl rfl rfl rfl ?_ | refine lx_str_ne rfl rfl rfl rfl rfl rfl ?_) | ((with_reducible refine g_assign ?_); first | refine lx_assign (r := (.t _)) rfl rfl rfl rfl rfl ?_) | ((with_reducible refine g_indexAddr ?_); first | refine lx_indexAddr_map rfl rfl rfl rfl rfl rfl ?_ ?_ ?_) | refine c_condP rfl (fun hc => ?_) (fun hc => ?_) | refine c_condN rfl (fun hc => ?_) (fun hc => ?_))
        all_goals try omega
        all_goals try (exact absurd ‹_› he)
        exact q_ret (resT_oneE rfl rfl rfl) (by simp)
    · obtain rfl : j = a.length := by omega
      have : a = b := by
        apply List.ext_getElem h0
        intro i h1 h2
        have := hE i h1
        rwa [List.getD_eq_getElem?_getD, List.getD_eq_getElem?_getD, List.getElem?_eq_getElem h1, List.getElem?_eq_getElem h2] at this
      rw [decide_eq_true this]
      repeat' (first | (with_reducible refine codeT_seq ?_) | (with_reducible refine codeT_block ?_) | (with_reducible refine codeT_skip ?_) | (with_reducible refine codeT_ret ?_) | (with_reducible refine codeT_exit ?_) | (with_reducible refine codeT_regionL ?_) | (with_reducible refine lx_nil ?_) | (with_reducible refine q_then ?_) | (with_reducible refine q_then_exit ?_) | ((with_reducible refine q_block_same ?_ ?_); · rfl) | (with_reducible refine q_loop_exit ?_) | (exfalso; omega) | ((with_reducible refine g_binOp ?_); first | refine lx_arith rfl rfl rfl rfl rfl rfl rfl ?_) | ((with_reducible refine g_assign ?_); first | refine lx_assign (r := (.t _)) rfl rfl rfl rfl rfl ?_) | refine c_condP rfl (fun hc => ?_) (fun hc => ?_))
      exact q_ret (resT_oneE rfl rfl rfl) (by simp)
  · have h0' : (a.length : Int) ≠ b.length := by omega
    have hne : a ≠ b := fun h => h0 (by rw [h])
    rw [decide_eq_false hne]
    refine spec_intro (env0 := [(0, _), (1, _)]) (st0 := []) Try.func51 rfl rfl rfl rfl ?_
    repeat' (first | (with_reducible refine codeT_seq ?_) | (with_reducible refine codeT_skip ?_) | (with_reducible refine codeT_ret ?_) | (with_reducible refine codeT_regionL ?_) | (with_reducible refine lx_nil ?_) | (with_reducible refine q_then ?_) | (with_reducible refine q_then_ret ?_) | (exfalso; omega) | ((with_reducible refine g_move ?_); first | refine lx_move (r := (.t _)) rfl rfl rfl rfl rfl ?_) | ((with_reducible refine g_binOp ?_); first | refine lx_arith rfl rfl rfl rfl rfl rfl rfl ?_) | ((with_reducible refine g_assign ?_); first | refine lx_assign (r := (.t _)) rfl rfl rfl rfl rfl ?_) | ((with_reducible refine g_len ?_); first | refine lx_len_map rfl rfl rfl rfl rfl ?_) | refine c_condN rfl (fun hc => ?_) (fun hc => ?_))
    exact q_ret (resT_oneE rfl rfl rfl) (by simp)
end Go.AL
