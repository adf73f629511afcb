/- What the kit's functions over dice and strings answer, on this seat. -/
import Derived.Test.YtkfjchmmhabocaaDoorTy
import Derived.Test.YtkfjchmmhabocaaDoorNod1
import Derived.Test.YtkfjchmmhabocaaDoorAl3
import Derived.Test.YtkfjchmmhabocaaDoorAl4
set_option linter.unusedVariables false
namespace Go.AL
open Go Go.Proofs Go.RowKit


/-- Dice in memory. -/
def Dc.row (d : Dc) : Row := .var 48 [.t (.sl 1 (d.l.map (T.int .i64))), .t (.int .i64 d.k)]
set_option maxHeartbeats 1000000 in
theorem Light_spec (l : List Int) : Spec Tryd.prog 7 [.t (.sl 1 (l.map (T.int .i64)))] [] (.t (.bool (decide ((l.length : Int) ≤ 500)))) [] := by
  refine spec_intro (env0 := [(0, _)]) (st0 := []) Tryd.func7 rfl rfl rfl rfl ?_
  repeat' (first | (with_reducible refine codeT_seq ?_) | (with_reducible refine codeT_ret ?_) | (with_reducible refine codeT_regionL ?_) | (with_reducible refine lx_nil ?_) | (with_reducible refine q_then ?_) | ((with_reducible refine g_move ?_); first | refine lx_move (r := (.t _)) rfl rfl rfl rfl rfl ?_) | ((with_reducible refine g_binOp ?_); first | refine lx_arith rfl rfl rfl rfl rfl rfl rfl ?_) | ((with_reducible refine g_assign ?_); first | refine lx_assign (r := (.t _)) rfl rfl rfl rfl rfl ?_) | ((with_reducible refine g_len ?_); first | refine lx_len_map rfl rfl rfl rfl rfl ?_))
  exact q_ret (resT_oneE rfl rfl rfl) (by simp)
set_option maxHeartbeats 1000000 in
theorem Roll_spec (l : List Int) : Spec Tryd.prog 10 [.t (.sl 1 (l.map (T.int .i64)))] [] (.ref (.res 0) 0 0 0) [(.res 0, (Dc.mk l 0).row)] := by
  unfold Dc.row
  refine spec_introG (env0 := [(0, _)]) (st0 := []) Tryd.func10 rfl rfl rfl rfl ?_
  repeat' (first | (with_reducible refine codeT_seq ?_) | (with_reducible refine codeT_ret ?_) | (with_reducible refine codeT_regionL ?_) | (with_reducible refine lx_nil ?_) | (with_reducible refine q_then ?_) | ((with_reducible refine g_move ?_); first | refine lx_move (r := (.t _)) rfl rfl rfl rfl rfl ?_) | ((with_reducible refine g_assign ?_); first | refine lx_assign (r := (.t _)) rfl rfl rfl rfl rfl ?_ | refine lx_assign (r := (.ref _ _ _ _)) rfl rfl rfl rfl rfl ?_) | ((with_reducible refine g_box ?_); first | refine lx_box (r := (.t (.agg _))) (cs := (List.map .t _)) rfl rfl rfl rfl rfl rfl rfl rfl rfl ?_) | ((with_reducible refine g_build ?_); first | refine lx_build (r := (.t (.agg _))) rfl rfl rfl rfl rfl rfl rfl ?_))
  refine q_ghost ((ghost_keep2 [2] [.loc 5] rfl rfl).trans (ghost_renL2 (.loc 5) (.res 0) rfl rfl rfl rfl)) ?_
  exact q_done (q_ret (resT_one rfl (AVLE.refl _)) (stHas_spec ⟨rfl, trivial⟩))
theorem modI_tmod (n m : Int) (h : 1 ≤ m) : (n.tmod m + m).tmod m = modI n m ∧ 0 ≤ n.tmod m + m ∧ n.tmod m + m ≤ 2 * m := by
  have h1 : -m < n.tmod m ∧ n.tmod m < m := by
    have a := Int.tmod_lt_of_pos n (b := m) (by omega)
    have b := Int.lt_tmod_of_pos n (b := m) (by omega)
    exact ⟨b, a⟩
  refine ⟨?_, by omega, by omega⟩
  unfold modI
  rw [if_neg (by omega), Int.tmod_eq_emod_of_nonneg (by omega), Int.tmod_def, show n - m * n.tdiv m + m = n + m * (1 - n.tdiv m) by rw [Int.mul_sub]; omega, Int.add_mul_emod_self_left]
set_option maxHeartbeats 1000000 in
theorem Mod_spec (n m : Int) (h : m ≤ 4611686018427387903) : Spec Tryd.prog 26 [.t (.int .i64 n), .t (.int .i64 m)] [] (.t (.int .i64 (modI n m))) [] := by
  refine spec_intro (env0 := [(0, _), (1, _)]) (st0 := []) Tryd.func26 rfl rfl rfl rfl ?_
  repeat' (first | (with_reducible refine codeT_seq ?_) | (with_reducible refine codeT_skip ?_) | (with_reducible refine codeT_ret ?_) | (with_reducible refine codeT_regionL ?_) | (with_reducible refine lx_nil ?_) | (with_reducible refine q_then ?_) | (with_reducible refine q_then_ret ?_) | ((with_reducible refine g_move ?_); first | refine lx_move (r := (.t _)) rfl rfl rfl rfl rfl ?_) | ((with_reducible refine g_binOp ?_); first | refine lx_arith rfl rfl rfl rfl rfl rfl rfl ?_ | refine lx_rem rfl rfl rfl rfl rfl rfl ?_ ?_) | ((with_reducible refine g_assign ?_); first | refine lx_assign (r := (.t _)) rfl rfl rfl rfl rfl ?_) | refine c_condP rfl (fun hc => ?_) (fun hc => ?_))
  all_goals try omega
  · exact q_ret (resT_oneE rfl rfl (by unfold modI; rw [if_pos hc])) (by simp)
  · have e := modI_tmod n m (by omega)
    refine q_ret (resT_oneE rfl rfl ?_) (by simp)
    rw [wrap64 (by omega) (by omega), e.1]
set_option maxHeartbeats 1000000 in
theorem Next_spec (d : Dc) (n : Int) (h : n ≤ 4611686018427387903) (hd : d.l.length ≤ 1000) : Spec Tryd.prog 21 [.ref (.par 0) 0 0 0, .t (.int .i64 n)] [(.par 0, d.row)] (.t (.int .i64 (d.next n).1)) [(.par 0, (d.next n).2.row)] := by
  have hm := Mod_spec (d.l.getD d.k 0) n h
  unfold Dc.row Dc.next
  generalize modI (d.l.getD d.k 0) n = v at *
  by_cases h0 : (d.l.length : Int) ≤ d.k
  · simp only [if_pos h0]
    refine spec_intro (env0 := [(0, _), (1, _)]) (st0 := [(_, some _)]) Tryd.func21 rfl rfl rfl rfl ?_
    repeat' (first | (with_reducible refine codeT_seq ?_) | (with_reducible refine codeT_skip ?_) | (with_reducible refine codeT_ret ?_) | (with_reducible refine codeT_regionL ?_) | ((with_reducible refine codeT_region_drawL ?_ ?_); · rfl) | (with_reducible refine lx_nil ?_) | (with_reducible refine q_then ?_) | (with_reducible refine q_then_ret ?_) | ((with_reducible refine q_region_draw ?_ ?_); · rfl) | ((with_reducible refine g_move ?_); first | refine lx_move (r := (.t _)) rfl rfl rfl rfl rfl ?_ | refine lx_move (r := (.ref _ _ _ _)) rfl rfl rfl rfl rfl ?_) | ((with_reducible refine g_load ?_); first | refine lx_load_var rfl rfl rfl rfl rfl rfl rfl rfl ?_ | refine lx_load_tp rfl rfl rfl rfl rfl rfl rfl ?_) | ((with_reducible refine g_fieldAddr ?_); first | refine lx_fieldAddr rfl rfl rfl rfl rfl rfl rfl ?_) | ((with_reducible refine g_binOp ?_); first | refine lx_arith rfl rfl rfl rfl rfl rfl rfl ?_) | ((with_reducible refine g_assign ?_); first | refine lx_assign (r := (.t _)) rfl rfl rfl rfl rfl ?_) | ((with_reducible refine g_store ?_); first | refine lx_store_var (r := (.t _)) rfl rfl rfl rfl rfl rfl rfl rfl rfl rfl ?_) | ((with_reducible refine g_nilCheck ?_); first | refine lx_nilCheck (r := (.ref _ _ _ _)) rfl rfl rfl rfl rfl rfl ?_) | ((with_reducible refine g_indexAddr ?_); first | refine lx_indexAddr_map rfl rfl rfl rfl rfl rfl ?_ ?_ ?_) | ((with_reducible refine g_len ?_); first | refine lx_len_map rfl rfl rfl rfl rfl ?_) | ((with_reducible refine g_call ?_); first | exact absurd h0 ‹_›) | refine c_condP rfl (fun hc => ?_) (fun hc => ?_))
    all_goals try (exfalso; omega)
    exact q_ret (resT_oneE rfl rfl rfl) (stHas_spec ⟨rfl, trivial⟩)
  · simp only [if_neg h0]
    have e : (IntKind.i64.wrap (IntKind.i64.wrap ((d.k : Int) + 1) - 1)).toNat = d.k := by
      rw [wrap64 (n := (d.k : Int) + 1) (by omega) (by omega), wrap64 (by omega) (by omega)]; omega
    have e2 : IntKind.i64.wrap (IntKind.i64.wrap ((d.k : Int) + 1) - 1) = d.k := by
      rw [wrap64 (n := (d.k : Int) + 1) (by omega) (by omega), wrap64 (by omega) (by omega)]; omega
    have e3 : IntKind.i64.wrap ((d.k : Int) + 1) = d.k + 1 := wrap64 (by omega) (by omega)
    have e4 : ((d.k + 1 : Nat) : Int) = IntKind.i64.wrap ((d.k : Int) + 1) := by rw [e3]; omega
    rw [← e] at hm
    rw [e4]
    refine spec_intro (env0 := [(0, _), (1, _)]) (st0 := [(_, some _)]) Tryd.func21 rfl rfl rfl rfl ?_
    repeat' (first | (with_reducible refine codeT_seq ?_) | (with_reducible refine codeT_skip ?_) | (with_reducible refine codeT_ret ?_) | (with_reducible refine codeT_regionL ?_) | ((with_reducible refine codeT_region_drawL ?_ ?_); · rfl) | (with_reducible refine lx_nil ?_) | (with_reducible refine q_then ?_) | (with_reducible refine q_then_ret ?_) | ((with_reducible refine q_region_draw ?_ ?_); · rfl) | ((with_reducible refine g_move ?_); first | refine lx_move (r := (.t _)) rfl rfl rfl rfl rfl ?_ | refine lx_move (r := (.ref _ _ _ _)) rfl rfl rfl rfl rfl ?_) | ((with_reducible refine g_load ?_); first | refine lx_load_var rfl rfl rfl rfl rfl rfl rfl rfl ?_ | refine lx_load_tp rfl rfl rfl rfl rfl rfl rfl ?_) | ((with_reducible refine g_fieldAddr ?_); first | refine lx_fieldAddr rfl rfl rfl rfl rfl rfl rfl ?_) | ((with_reducible refine g_binOp ?_); first | refine lx_arith rfl rfl rfl rfl rfl rfl rfl ?_) | ((with_reducible refine g_assign ?_); first | refine lx_assign (r := (.t _)) rfl rfl rfl rfl rfl ?_) | ((with_reducible refine g_store ?_); first | refine lx_store_var (r := (.t _)) rfl rfl rfl rfl rfl rfl rfl rfl rfl rfl ?_) | ((with_reducible refine g_nilCheck ?_); first | refine lx_nilCheck (r := (.ref _ _ _ _)) rfl rfl rfl rfl rfl rfl ?_) | ((with_reducible refine g_indexAddr ?_); first | refine lx_indexAddr_map rfl rfl rfl rfl rfl rfl ?_ ?_ ?_) | ((with_reducible refine g_len ?_); first | refine lx_len_map rfl rfl rfl rfl rfl ?_) | ((with_reducible refine g_call ?_); first | refine lx_callT rfl rfl hm rfl rfl (ArgsLE.refl _) rfl rfl rfl rfl rfl ?_) | refine c_condP rfl (fun hc => ?_) (fun hc => ?_))
    all_goals try (exfalso; omega)
    all_goals try omega
    exact q_ret (resT_oneE rfl rfl rfl) (stHas_spec ⟨rfl, trivial⟩)


/-- The string whose byte at a place is changed by so much. -/
def spoil (s : ByteArray) (at_ by_ : Int) : ByteArray :=
  if s = ⟨#[]⟩ then s else
  strT ((bytesT s).set (modI at_ s.size).toNat (.int .u8 (IntKind.u8.wrap (((s.data.toList.getD (modI at_ s.size).toNat default).toNat : Int) + IntKind.u8.wrap by_))))
theorem ba_len (s : ByteArray) : s.size = s.data.toList.length := by cases s; rfl
set_option maxHeartbeats 2000000 in
theorem Spoil_spec (s : ByteArray) (a b : Int) (hs : s.size ≤ 4611686018427387903) : Spec Tryd.prog 15 [.t (.str s), .t (.int .i64 a), .t (.int .i64 b)] [] (.t (.str (spoil s a b))) [] := by
  have hm := Mod_spec a s.size (by omega)
  unfold spoil
  by_cases h0 : s = ⟨#[]⟩
  · rw [if_pos h0]
    refine spec_intro (env0 := [(0, _), (1, _), (2, _)]) (st0 := []) Tryd.func15 rfl rfl rfl rfl ?_
    repeat' (first | (with_reducible refine codeT_seq ?_) | (with_reducible refine codeT_skip ?_) | (with_reducible refine codeT_ret ?_) | (with_reducible refine codeT_regionL ?_) | (with_reducible refine lx_nil ?_) | (with_reducible refine q_then ?_) | (with_reducible refine q_then_ret ?_) | ((with_reducible refine g_move ?_); first | refine lx_move (r := (.t _)) rfl rfl rfl rfl rfl ?_ | refine lx_move (r := (.row _)) rfl rfl rfl rfl rfl ?_) | ((with_reducible refine g_binOp ?_); first | refine lx_str_eq rfl rfl rfl rfl rfl rfl ?_) | ((with_reducible refine g_assign ?_); first | refine lx_assign (r := (.t _)) rfl rfl rfl rfl rfl ?_ | refine lx_assign (r := (.row _)) rfl rfl rfl rfl rfl ?_) | ((with_reducible refine g_convert ?_); first | refine lx_toBytes rfl rfl rfl rfl rfl rfl ?_ ?_) | ((with_reducible refine g_len ?_); first | refine lx_len_rowmap rfl rfl rfl rfl rfl rfl ?_) | ((with_reducible refine g_call ?_); first | exact absurd h0 ‹_›) | refine c_condP rfl (fun hc => ?_) (fun hc => ?_))
    · exact q_ret (resT_oneE rfl rfl rfl) (by simp)
    all_goals first | exact absurd h0 ‹¬ s = ⟨#[]⟩› | omega
  · rw [if_neg h0]
    have hlt := modI_lt a s.size (by
      have : s.size ≠ 0 := fun e => h0 (by cases s with | mk d => cases d with | mk l => cases l with | nil => rfl | cons x xs => simp [ByteArray.size] at e)
      omega)
    generalize modI a s.size = k at *
    refine spec_intro (env0 := [(0, _), (1, _), (2, _)]) (st0 := []) Tryd.func15 rfl rfl rfl rfl ?_
    repeat' (first | (with_reducible refine codeT_seq ?_) | (with_reducible refine codeT_skip ?_) | (with_reducible refine codeT_ret ?_) | (with_reducible refine codeT_regionL ?_) | (with_reducible refine lx_nil ?_) | (with_reducible refine q_then ?_) | (with_reducible refine q_then_ret ?_) | ((with_reducible refine g_move ?_); first | refine lx_move (r := (.t _)) rfl rfl rfl rfl rfl ?_ | refine lx_move (r := (.row _)) rfl rfl rfl rfl rfl ?_) | ((with_reducible refine g_load ?_); first | refine lx_load_elsM rfl rfl rfl rfl rfl rfl rfl rfl ?_ ?_) | ((with_reducible refine g_binOp ?_); first | refine lx_arith rfl rfl rfl rfl rfl rfl rfl ?_ | refine lx_str_eq rfl rfl rfl rfl rfl rfl ?_) | ((with_reducible refine g_assign ?_); first | refine lx_assign (r := (.t _)) rfl rfl rfl rfl rfl ?_ | refine lx_assign (r := (.row _)) rfl rfl rfl rfl rfl ?_) | ((with_reducible refine g_store ?_); first | refine lx_store_slt rfl rfl rfl rfl rfl rfl ?_ ?_ ?_) | ((with_reducible refine g_indexAddr ?_); first | refine lx_indexAddr_row rfl rfl rfl rfl rfl rfl rfl ?_ ?_ ?_) | ((with_reducible refine g_convert ?_); first | refine lx_conv_int rfl rfl rfl rfl rfl ?_ | refine lx_toBytes rfl rfl rfl rfl rfl rfl ?_ ?_ | refine lx_ofBytes_row rfl rfl rfl rfl rfl rfl ?_ ?_) | ((with_reducible refine g_len ?_); first | refine lx_len_rowmap rfl rfl rfl rfl rfl rfl ?_) | ((with_reducible refine g_call ?_); first | refine lx_callT rfl rfl hm rfl rfl (ArgsLE.refl _) rfl rfl rfl rfl rfl ?_) | refine c_condP rfl (fun hc => ?_) (fun hc => ?_))
    all_goals try exact absurd ‹s = ⟨#[]⟩› h0
    all_goals try omega
    all_goals try (simp only [bytesT, List.length_map]; rw [← ba_len]; omega)
    all_goals try rfl
    · rw [← ba_len]; omega
    · intro e he
      rcases List.mem_or_eq_of_mem_set he with h | rfl
      · simp only [bytesT, List.mem_map] at h
        obtain ⟨c, _, rfl⟩ := h
        rfl
      · rfl
    · exact q_ret (resT_oneE rfl rfl rfl) (by simp)
theorem strT_len (l : List T) : (strT l).size = l.length := by
  unfold strT strOfNums
  rw [ByteArray.size, List.size_toArray, List.length_map, List.length_map]
theorem spoil_size (s : ByteArray) (a b : Int) : (spoil s a b).size = s.size := by
  unfold spoil
  split
  · rfl
  · rw [strT_len, List.length_set, bytesT, List.length_map]; exact toList_len s
end Go.AL
/- What small functions of strconv, strings and math/bits answer; where the laid variables hold what the text lays. -/
set_option linter.unusedVariables false
namespace Go.AL
open Go Go.Proofs Go.RowKit Go.Shelf

theorem rv_extra : Builder.Extra Tryd.prog rv_ren where
  sizeBuilder := by kernel_rfl
  liesBuilder := by kernel_rfl
  t5 := Tryd.underlying5
  a5 := fun w => rv_a (P := Tryd.prog) (d := .int .u8) 5 w
  z5 := fun w => rv_z 5 w
  v5 := fun w => rv_v 5 w
  infoByte := by kernel_rfl
  cellsByte := by kernel_rfl
  sizeByte := by kernel_rfl
  neB5 := by decide
/-- A call that changes nothing of what was there. -/
theorem Spec.of_below {P : Program} {f : FuncId} {args : List AV} {r : AV} (H : ∀ h m (vs : Array Value) w, vs.size = args.length → RepAs h m (fun j => vs[j]?) 0 args → Calls P f vs w fun e w' => ∃ v, e = .returned v ∧ (∀ h' m', RepA h' m' v r) ∧ Below w.heap.size w w') : Spec P f args [] r [] where
  run h m vs w hs hv hr := (H h m vs w hv hr).mono fun e w' ⟨v, he, hv', hb⟩ => by
    refine ⟨v, h, m, he, hv' h m, ⟨fun b o hb' => ?_, fun _ _ hx => by simp [StL.get] at hx, fun _ _ _ hx => by simp [StL.get] at hx, fun _ _ _ _ _ hx => by simp [StL.get] at hx⟩, ?_⟩
    · have h1 := hs.imm b o hb'
      have hlt : b < w.heap.size := by
        rcases Nat.lt_or_ge b w.heap.size with h2 | h2
        · exact h2
        · rw [Array.getElem?_eq_none h2] at h1; cases h1
      rw [hb.block b hlt]; exact h1
    · exact ⟨⟨hb.os, hb.tape, hb.output, hb.size, fun b hb' _ => ⟨hb.block b hb', rfl⟩, fun _ _ hu => hu, fun _ _ _ hx => by simp [StL.get] at hx⟩, fun _ => rfl⟩
theorem Repeat_spec (s : ByteArray) (c : Nat) (hc : c ≤ 9223372036854775807) (hl : s.size * c ≤ 140737488355328) : Spec Tryd.prog 30 [.t (.str s), .t (.int .i64 (c : Int))] [] (.t (.str ⟨(Lib.repeatL s.data.toList c).toArray⟩)) [] :=
  Spec.of_below fun h m vs w hv hr => by
    simp only [RepAs, RepA, RepT, and_true] at hr
    obtain ⟨⟨u0, h0, rfl⟩, u1, h1, rfl⟩ := hr
    have hv2 : vs.size = 2 := hv
    have e : vs = #[.string s, .int .i64 c] := by
      apply Array.ext
      · simpa using hv2
      · intro i h1' h2'
        have : i = 0 ∨ i = 1 := by omega
        rcases this with rfl | rfl
        · rw [Array.getElem?_eq_getElem h1'] at h0; simpa using h0
        · rw [Array.getElem?_eq_getElem h1'] at h1; simpa using h1
    subst e
    exact (Any.strings_Repeat rv_lays rv_extra s c w hc hl).mono fun e w' ⟨he, hb⟩ => ⟨_, he, fun h' m' => by simp [RepA, RepT], hb⟩
theorem repeat_one (b : UInt8) : ∀ c : Nat, Lib.repeatL [b] c = List.replicate c b
  | 0 => rfl
  | c + 1 => by rw [Lib.repeatL, repeat_one b c, List.replicate_succ]; rfl
theorem Clone_spec (s : ByteArray) (hl : s.size ≤ 281474976710656) : Spec Tryd.prog 63 [.t (.str s)] [] (.t (.str s)) [] :=
  Spec.of_below fun h m vs w hv hr => by
    simp only [RepAs, RepA, RepT, and_true] at hr
    obtain ⟨u0, h0, rfl⟩ := hr
    have hv2 : vs.size = 1 := hv
    have e : vs = #[.string s] := by
      apply Array.ext
      · simpa using hv2
      · intro i h1' h2'
        obtain rfl : i = 0 := by omega
        rw [Array.getElem?_eq_getElem h1'] at h0; simpa using h0
    subst e
    exact (Any.stringslite_Clone cl_lays s w hl).mono fun e w' ⟨he, hb⟩ => ⟨_, he, fun h' m' => by simp [RepA, RepT], hb⟩
instance : CmpT Tryd.prog 89 := .of (by kernel_rfl)

/-- The table of math/bits.TrailingZeros64. -/
def deB : List Int := [0, 1, 56, 2, 57, 49, 28, 3, 61, 58, 42, 50, 38, 29, 17, 4, 62, 47, 59, 36, 45, 43, 51, 22, 53, 39, 33, 30, 24, 18, 12, 5, 63, 55, 48, 27, 60, 41, 37, 16, 46, 35, 44, 21, 52, 32, 23, 11, 54, 26, 40, 15, 34, 20, 31, 10, 25, 14, 19, 9, 13, 8, 7, 6]
structure GOk (oS oR oD : Obj) : Prop where
  s : isErrVar oS = true
  r : isErrVar oR = true
  d : isTabOf .u8 deB oD
set_option maxHeartbeats 1000000 in
theorem tz64_spec {oS oR oD : Obj} (G : GOk oS oR oD) : Spec Tryd.prog 67 [.t (.int .u64 16)] [(.par 100, .dat (.fix 1 oS)), (.par 101, .dat (.fix 2 oR)), (.par 102, .dat (.fix 5 oD))] (.t (.int .i64 4)) [(.par 100, .dat (.fix 1 oS)), (.par 101, .dat (.fix 2 oR)), (.par 102, .dat (.fix 5 oD))] := by
  refine spec_intro (env0 := [(0, _)]) (st0 := [(_, some _), (_, some _), (_, some _)]) Tryd.func67 rfl rfl rfl rfl ?_
  repeat' (first | (with_reducible refine codeT_seq ?_) | (with_reducible refine codeT_skip ?_) | (with_reducible refine codeT_ret ?_) | (with_reducible refine codeT_regionL ?_) | (with_reducible refine lx_nil ?_) | (with_reducible refine q_then ?_) | refine c_condF rfl ?_ | refine lx_indexAddr_glob (.par 102) rfl rfl rfl rfl rfl rfl ?_ ?_ ?_ | refine lx_load_tab G.d rfl rfl rfl rfl rfl rfl rfl rfl ?_ | ((with_reducible refine g_move ?_); first | refine lx_move (r := (.t _)) rfl rfl rfl rfl rfl ?_) | ((with_reducible refine g_binOp ?_); first | refine lx_arith rfl rfl rfl rfl rfl rfl rfl ?_ | refine lx_shr rfl rfl rfl rfl rfl rfl (by decide) ?_) | ((with_reducible refine g_assign ?_); first | refine lx_assign (r := (.t _)) rfl rfl rfl rfl rfl ?_) | ((with_reducible refine g_unOp ?_); first | refine lx_neg rfl rfl rfl rfl rfl ?_) | ((with_reducible refine g_convert ?_); first | refine lx_conv_int rfl rfl rfl rfl rfl ?_))
  · decide +kernel
  · decide +kernel
  · exact q_ret (resT_oneE rfl rfl (congrArg (T.int .i64) (by decide +kernel))) (stHas_spec ⟨rfl, rfl, rfl, trivial⟩)
set_option maxHeartbeats 1000000 in
theorem tz_spec {oS oR oD : Obj} (G : GOk oS oR oD) : Spec Tryd.prog 60 [.t (.int .u64 16)] [(.par 100, .dat (.fix 1 oS)), (.par 101, .dat (.fix 2 oR)), (.par 102, .dat (.fix 5 oD))] (.t (.int .i64 4)) [(.par 100, .dat (.fix 1 oS)), (.par 101, .dat (.fix 2 oR)), (.par 102, .dat (.fix 5 oD))] := by
  have h := tz64_spec G
  refine spec_intro (env0 := [(0, _)]) (st0 := [(_, some _), (_, some _), (_, some _)]) Tryd.func60 rfl rfl rfl rfl ?_
  repeat' (first | (with_reducible refine codeT_seq ?_) | (with_reducible refine codeT_skip ?_) | (with_reducible refine codeT_ret ?_) | (with_reducible refine codeT_regionL ?_) | (with_reducible refine lx_nil ?_) | (with_reducible refine q_then ?_) | refine c_condF rfl ?_ | ((with_reducible refine g_move ?_); first | refine lx_move (r := (.t _)) rfl rfl rfl rfl rfl ?_) | ((with_reducible refine g_assign ?_); first | refine lx_assign (r := (.t _)) rfl rfl rfl rfl rfl ?_) | ((with_reducible refine g_call ?_); first | refine lx_call (r' := (.t (.int .i64 4))) [] rfl rfl h (ArgsLE.refl _) rfl ⟨rfl, rfl, rfl, trivial⟩ rfl rfl rfl rfl rfl rfl rfl rfl rfl rfl ?_))
  exact q_ret (resT_oneE rfl rfl rfl) (stHas_spec ⟨rfl, rfl, rfl, trivial⟩)
set_option maxHeartbeats 1000000 in
theorem pow2_spec : Spec Tryd.prog 59 [.t (.int .i64 16)] [] (.t (.bool true)) [] := by
  refine spec_intro (env0 := [(0, _)]) (st0 := []) Tryd.func59 rfl rfl rfl rfl ?_
  repeat' (first | (with_reducible refine codeT_seq ?_) | (with_reducible refine codeT_ret ?_) | (with_reducible refine codeT_regionL ?_) | (with_reducible refine lx_nil ?_) | (with_reducible refine q_then ?_) | ((with_reducible refine g_move ?_); first | refine lx_move (r := (.t _)) rfl rfl rfl rfl rfl ?_) | ((with_reducible refine g_binOp ?_); first | refine lx_arith rfl rfl rfl rfl rfl rfl rfl ?_) | ((with_reducible refine g_assign ?_); first | refine lx_assign (r := (.t _)) rfl rfl rfl rfl rfl ?_))
  exact q_ret (resT_oneE rfl rfl (congrArg T.bool (by decide +kernel))) (by simp)
/-- A byte in lower case. -/
def lowerI (c : Int) : Int := IntKind.u8.wrap ((BitVec.ofInt IntKind.u8.bits c ||| BitVec.ofInt IntKind.u8.bits 32).toNat : Int)
set_option maxHeartbeats 1000000 in
theorem lower_spec (c : Int) : Spec Tryd.prog 50 [.t (.int .u8 c)] [] (.t (.int .u8 (lowerI c))) [] := by
  refine spec_intro (env0 := [(0, _)]) (st0 := []) Tryd.func50 rfl rfl rfl rfl ?_
  repeat' (first | (with_reducible refine codeT_seq ?_) | (with_reducible refine codeT_ret ?_) | (with_reducible refine codeT_regionL ?_) | (with_reducible refine lx_nil ?_) | (with_reducible refine q_then ?_) | ((with_reducible refine g_move ?_); first | refine lx_move (r := (.t _)) rfl rfl rfl rfl rfl ?_) | ((with_reducible refine g_binOp ?_); first | refine lx_arith rfl rfl rfl rfl rfl rfl rfl ?_) | ((with_reducible refine g_assign ?_); first | refine lx_assign (r := (.t _)) rfl rfl rfl rfl rfl ?_))
  exact q_ret (resT_oneE rfl rfl rfl) (by simp)
set_option maxHeartbeats 1000000 in
theorem syntaxError_spec {oS oR oD : Obj} (G : GOk oS oR oD) (f s : ByteArray) (hs : s.size ≤ 281474976710656) : Spec Tryd.prog 52 [.t (.str f), .t (.str s)] [(.par 100, .dat (.fix 1 oS)), (.par 101, .dat (.fix 2 oR)), (.par 102, .dat (.fix 5 oD))] .junk [(.par 100, .dat (.fix 1 oS)), (.par 101, .dat (.fix 2 oR)), (.par 102, .dat (.fix 5 oD))] := by
  have h := Clone_spec s hs
  refine spec_introG (env0 := [(0, _), (1, _)]) (st0 := [(_, some _), (_, some _), (_, some _)]) Tryd.func52 rfl rfl rfl rfl ?_
  repeat' (first | (with_reducible refine codeT_seq ?_) | (with_reducible refine codeT_ret ?_) | (with_reducible refine codeT_regionL ?_) | ((with_reducible refine codeT_region_drawL ?_ ?_); · rfl) | (with_reducible refine lx_nil ?_) | (with_reducible refine q_then ?_) | ((with_reducible refine q_region_draw ?_ ?_); · rfl) | refine lx_load_err (.par 100) rfl rfl G.s rfl rfl rfl rfl ?_ | ((with_reducible refine g_move ?_); first | refine lx_move (r := (.t _)) rfl rfl rfl rfl rfl ?_) | ((with_reducible refine g_assign ?_); first | refine lx_assign (r := (.t _)) rfl rfl rfl rfl rfl ?_ | refine lx_assign (r := (.ref _ _ _ _)) rfl rfl rfl rfl rfl ?_) | ((with_reducible refine g_box ?_); first | refine lx_box (r := (.t (.agg _))) (cs := (List.map .t _)) rfl rfl rfl rfl rfl rfl rfl rfl rfl ?_) | ((with_reducible refine g_build ?_); first | refine lx_build (r := (.t (.agg _))) rfl rfl rfl rfl rfl rfl rfl ?_) | ((with_reducible refine g_call ?_); first | refine lx_callT rfl rfl h rfl rfl (ArgsLE.refl _) rfl rfl rfl rfl rfl ?_))
  exact q_done (q_ret (resT_one rfl (AVLE.junk _)) (stHas_spec ⟨rfl, rfl, rfl, trivial⟩))
set_option maxHeartbeats 1000000 in
theorem rangeError_spec {oS oR oD : Obj} (G : GOk oS oR oD) (f s : ByteArray) (hs : s.size ≤ 281474976710656) : Spec Tryd.prog 53 [.t (.str f), .t (.str s)] [(.par 100, .dat (.fix 1 oS)), (.par 101, .dat (.fix 2 oR)), (.par 102, .dat (.fix 5 oD))] .junk [(.par 100, .dat (.fix 1 oS)), (.par 101, .dat (.fix 2 oR)), (.par 102, .dat (.fix 5 oD))] := by
  have h := Clone_spec s hs
  refine spec_introG (env0 := [(0, _), (1, _)]) (st0 := [(_, some _), (_, some _), (_, some _)]) Tryd.func53 rfl rfl rfl rfl ?_
  repeat' (first | (with_reducible refine codeT_seq ?_) | (with_reducible refine codeT_ret ?_) | (with_reducible refine codeT_regionL ?_) | ((with_reducible refine codeT_region_drawL ?_ ?_); · rfl) | (with_reducible refine lx_nil ?_) | (with_reducible refine q_then ?_) | ((with_reducible refine q_region_draw ?_ ?_); · rfl) | refine lx_load_err (.par 101) rfl rfl G.r rfl rfl rfl rfl ?_ | ((with_reducible refine g_move ?_); first | refine lx_move (r := (.t _)) rfl rfl rfl rfl rfl ?_) | ((with_reducible refine g_assign ?_); first | refine lx_assign (r := (.t _)) rfl rfl rfl rfl rfl ?_ | refine lx_assign (r := (.ref _ _ _ _)) rfl rfl rfl rfl rfl ?_) | ((with_reducible refine g_box ?_); first | refine lx_box (r := (.t (.agg _))) (cs := (List.map .t _)) rfl rfl rfl rfl rfl rfl rfl rfl rfl ?_) | ((with_reducible refine g_build ?_); first | refine lx_build (r := (.t (.agg _))) rfl rfl rfl rfl rfl rfl rfl ?_) | ((with_reducible refine g_call ?_); first | refine lx_callT rfl rfl h rfl rfl (ArgsLE.refl _) rfl rfl rfl rfl rfl ?_))
  exact q_done (q_ret (resT_one rfl (AVLE.junk _)) (stHas_spec ⟨rfl, rfl, rfl, trivial⟩))
set_option maxHeartbeats 1000000 in
theorem toError_spec {oS oR oD : Obj} (G : GOk oS oR oD) (f s : ByteArray) (hs : s.size ≤ 281474976710656) (b c k : Int) (hk : k = 1 ∨ k = 2) : Spec Tryd.prog 40 [.t (.str f), .t (.str s), .t (.int .i64 b), .t (.int .i64 c), .t (.ifi 89 .i64 k)] [(.par 100, .dat (.fix 1 oS)), (.par 101, .dat (.fix 2 oR)), (.par 102, .dat (.fix 5 oD))] (.t .iface) [(.par 100, .dat (.fix 1 oS)), (.par 101, .dat (.fix 2 oR)), (.par 102, .dat (.fix 5 oD))] := by
  have hS := syntaxError_spec G f s hs
  have hR := rangeError_spec G f s hs
  rcases hk with rfl | rfl
  · refine spec_intro (env0 := [(0, _), (1, _), (2, _), (3, _), (4, _)]) (st0 := [(_, some _), (_, some _), (_, some _)]) Tryd.func40 rfl rfl rfl rfl ?_
    repeat' (first | (with_reducible refine codeT_seq ?_) | (with_reducible refine codeT_block ?_) | (with_reducible refine codeT_ret ?_) | (with_reducible refine codeT_regionL ?_) | (with_reducible refine lx_nil ?_) | (with_reducible refine q_then ?_) | (with_reducible refine q_then_ret ?_) | (with_reducible refine q_block_ret ?_) | refine c_condT rfl ?_ | refine c_condF rfl ?_ | ((with_reducible refine g_move ?_); first | refine lx_move (r := (.t _)) rfl rfl rfl rfl rfl ?_) | ((with_reducible refine g_assign ?_); first | refine lx_assign (r := (.t _)) rfl rfl rfl rfl rfl ?_) | ((with_reducible refine g_call ?_); first | refine lx_call (r' := .junk) [] rfl rfl hR (ArgsLE.refl _) rfl ⟨rfl, rfl, rfl, trivial⟩ rfl rfl rfl rfl rfl rfl rfl rfl rfl rfl ?_) | ((with_reducible refine g_binOp ?_); first | refine lx_ifi_eq rfl rfl rfl rfl rfl rfl ?_) | ((with_reducible refine g_makeInterface ?_); first | refine lx_ifi rfl rfl rfl rfl rfl ?_ | refine lx_iface rfl rfl rfl rfl rfl ?_))
    exact q_ret (resT_oneE rfl rfl rfl) (stHas_spec ⟨rfl, rfl, rfl, trivial⟩)
  · refine spec_intro (env0 := [(0, _), (1, _), (2, _), (3, _), (4, _)]) (st0 := [(_, some _), (_, some _), (_, some _)]) Tryd.func40 rfl rfl rfl rfl ?_
    repeat' (first | (with_reducible refine codeT_seq ?_) | (with_reducible refine codeT_block ?_) | (with_reducible refine codeT_ret ?_) | (with_reducible refine codeT_regionL ?_) | (with_reducible refine lx_nil ?_) | (with_reducible refine q_then ?_) | (with_reducible refine q_then_ret ?_) | (with_reducible refine q_block_ret ?_) | refine c_condT rfl ?_ | ((with_reducible refine g_move ?_); first | refine lx_move (r := (.t _)) rfl rfl rfl rfl rfl ?_) | ((with_reducible refine g_assign ?_); first | refine lx_assign (r := (.t _)) rfl rfl rfl rfl rfl ?_) | ((with_reducible refine g_call ?_); first | refine lx_call (r' := .junk) [] rfl rfl hS (ArgsLE.refl _) rfl ⟨rfl, rfl, rfl, trivial⟩ rfl rfl rfl rfl rfl rfl rfl rfl rfl rfl ?_) | ((with_reducible refine g_binOp ?_); first | refine lx_ifi_eq rfl rfl rfl rfl rfl rfl ?_) | ((with_reducible refine g_makeInterface ?_); first | refine lx_ifi rfl rfl rfl rfl rfl ?_ | refine lx_iface rfl rfl rfl rfl rfl ?_))
    exact q_ret (resT_oneE rfl rfl rfl) (stHas_spec ⟨rfl, rfl, rfl, trivial⟩)
end Go.AL
/- What strconv.FormatInt answers of numbers that are not negative, in base 16. -/
set_option linter.unusedVariables false
namespace Go.AL
open Go Go.Proofs Go.RowKit

theorem u8i_flat (l : List Int) : ∀ x ∈ l.map (T.int .u8), x.isAgg = false := fun x hx => by
  obtain ⟨n, _, rfl⟩ := List.mem_map.1 hx; rfl
theorem and15 (n : Nat) (h : n < 18446744073709551616) : IntKind.u64.wrap ((BitVec.ofInt IntKind.u64.bits (n : Int) &&& BitVec.ofInt IntKind.u64.bits 15).toNat : Int) = ((n % 16 : Nat) : Int) := by
  rw [BitVec.toNat_and, BitVec.ofInt_natCast, show (15 : Int) = ((15 : Nat) : Int) from rfl, BitVec.ofInt_natCast, BitVec.toNat_ofNat, BitVec.toNat_ofNat]
  have : IntKind.u64.bits = 64 := rfl
  rw [this, Nat.mod_eq_of_lt (by omega), show 15 % 2 ^ 64 = 2 ^ 4 - 1 from rfl, Nat.and_two_pow_sub_one_eq_mod]
  exact wrapU64 (by omega) (by omega)
set_option maxHeartbeats 4000000 in
theorem formatBits_spec {oS oR oD : Obj} (G : GOk oS oR oD) (u k : Nat) (hu : u < 18446744073709551616) (h1 : u < 16 ^ (k + 1)) (h2 : k = 0 ∨ 16 ^ k ≤ u) :
    Spec Tryd.prog 44 [.t .nilsl, .t (.int .u64 (u : Int)), .t (.int .i64 16), .t (.bool false), .t (.bool false)] [(.par 100, .dat (.fix 1 oS)), (.par 101, .dat (.fix 2 oR)), (.par 102, .dat (.fix 5 oD))] (.tup [.t .nilsl, .t (.str (ofL (lowHex (k + 1) u)))]) [(.par 100, .dat (.fix 1 oS)), (.par 101, .dat (.fix 2 oR)), (.par 102, .dat (.fix 5 oD))] := by
  have hT := tz_spec G
  have hP := pow2_spec
  refine spec_intro (env0 := [(0, _), (1, _), (2, _), (3, _), (4, _)]) (st0 := [(_, some _), (_, some _), (_, some _)]) Tryd.func44 rfl rfl rfl rfl ?_
  repeat' (first | (with_reducible refine codeT_seq ?_) | (with_reducible refine codeT_block ?_) | (with_reducible refine codeT_skip ?_) | (with_reducible refine codeT_regionL ?_) | (with_reducible refine lx_nil ?_) | (with_reducible refine q_then ?_) | refine c_condT rfl ?_ | refine c_condF rfl ?_ | ((with_reducible refine g_move ?_); first | refine lx_move (r := (.t _)) rfl rfl rfl rfl rfl ?_) | ((with_reducible refine g_binOp ?_); first | refine lx_arith rfl rfl rfl rfl rfl rfl rfl ?_) | ((with_reducible refine g_assign ?_); first | refine lx_assign (r := (.t _)) rfl rfl rfl rfl rfl ?_) | ((with_reducible refine g_pick ?_); first | refine lx_pickF (r := (.t _)) rfl rfl rfl rfl rfl rfl ?_) | ((with_reducible refine g_alloc ?_); first | refine lx_alloc rfl rfl rfl rfl rfl rfl rfl ?_) | ((with_reducible refine g_convert ?_); first | refine lx_conv_int rfl rfl rfl rfl rfl ?_) | ((with_reducible refine g_call ?_); first | refine lx_call (r' := (.t (.int .i64 4))) [] rfl rfl hT (ArgsLE.refl _) rfl ⟨rfl, rfl, rfl, trivial⟩ rfl rfl rfl rfl rfl rfl rfl rfl rfl rfl ?_ | refine lx_callT rfl rfl hP rfl rfl (ArgsLE.refl _) rfl rfl rfl rfl rfl ?_))
  refine codeT_ghost (ghost_rowL (id := .loc 12) rfl (RowLE.arr (es := (List.replicate 65 (0 : Int)).map (T.int .u8)) rfl (u8i_flat _)) rfl) ?_
  refine codeT_ghost (ghost_keep2 [1, 3, 4, 10, 12, 13, 14, 15, 16] [.loc 12, .par 100, .par 101, .par 102] rfl rfl) ?_
  have hk15 : k ≤ 15 := by
    rcases h2 with rfl | h2
    · omega
    · rcases Nat.lt_or_ge k 16 with h | h
      · omega
      · have : 16 ^ 16 ≤ 16 ^ k := Nat.pow_le_pow_right (by omega) h
        omega
  refine codeT_loop (fun p env st => ∃ (j : Nat) (v : Nat) (l : List Int), j ≤ k ∧ p = k - j ∧ v = u / 16 ^ j ∧ l.length = 65 ∧ l.drop (65 - j) = (lowHex j u).map (fun b => (b.toNat : Int)) ∧
      env = EnvL.get [(1, .t (.int .u64 (v : Int))), (3, .t (.bool false)), (4, .t (.bool false)), (10, .t .nilsl), (12, .ref (.loc 12) 0 0 0), (13, .t (.int .i64 ((65 - j : Nat) : Int))), (14, .t (.int .u64 4)), (15, .t (.int .u64 16)), (16, .t (.int .u64 15))] ∧
      st = StO.get [(.loc 12, some (.arr 96 1 (l.map (T.int .u8)))), (.par 100, some (.dat (.fix 1 oS))), (.par 101, some (.dat (.fix 2 oR))), (.par 102, some (.dat (.fix 5 oD)))])
    ?_ (n := k) ⟨0, u, _, by omega, rfl, by simp, by simp, rfl, rfl, rfl⟩
  rintro p env st ⟨j, v, l, hj, rfl, hv, hl, hd, rfl, rfl⟩
  have hvu : v ≤ u := by rw [hv]; exact Nat.div_le_self _ _
  have hstep : v / 16 = u / 16 ^ (j + 1) := by rw [hv, Nat.pow_succ, Nat.div_div_eq_div_mul]
  have w1 : IntKind.i64.wrap (((65 - j : Nat) : Int) - 1) = ((64 - j : Nat) : Int) := by rw [wrap64 (by omega) (by omega)]; omega
  have hlt0 : l.length = 65 := hl
  have hfin : ∀ x : UInt8, ((((l.set (64 - j) (x.toNat : Int)).map (T.int .u8)).take 65).drop (64 - j)) = (x :: lowHex j u).map u8T := fun x => by
    rw [List.take_of_length_le (by simp [hl]), ← List.map_drop, drop_set_self _ _ _ (by omega), show 64 - j + 1 = 65 - j by omega, hd, List.map_cons, List.map_cons, List.map_map]
    rfl
  have hsh : (v : Int) / 2 ^ min (Int.toNat 4) IntKind.u64.bits = ((v / 16 : Nat) : Int) := by
    rw [show min (Int.toNat 4) IntKind.u64.bits = 4 from by decide]; omega
  by_cases hlt : v < 16
  · have hjk : j = k := by
      rcases Nat.lt_or_ge j k with h | h
      · rcases h2 with rfl | h2
        · omega
        · have e1 : 16 ^ (j + 1) ≤ 16 ^ k := Nat.pow_le_pow_right (by omega) h
          have e2 : 0 < u / 16 ^ (j + 1) := Nat.div_pos (by omega) (Nat.pow_pos (by omega))
          omega
      · omega
    have hlast : hexC v :: lowHex j u = lowHex (k + 1) u := by rw [lowHex, ← hjk, ← hv, Nat.mod_eq_of_lt hlt]
    repeat' (first | (with_reducible refine codeT_seq ?_) | (with_reducible refine codeT_block ?_) | (with_reducible refine codeT_skip ?_) | (with_reducible refine codeT_ret ?_) | (with_reducible refine codeT_exit ?_) | (with_reducible refine codeT_regionL ?_) | (with_reducible refine lx_nil ?_) | (with_reducible refine q_then ?_) | (with_reducible refine q_then_exit ?_) | ((with_reducible refine q_block_same ?_ ?_); · rfl) | (with_reducible refine q_loop_exit ?_) | refine c_condF rfl ?_ | (exfalso; omega) | ((with_reducible refine g_move ?_); first | refine lx_move (r := (.t _)) rfl rfl rfl rfl rfl ?_) | ((with_reducible refine g_binOp ?_); first | refine lx_arith rfl rfl rfl rfl rfl rfl rfl ?_) | ((with_reducible refine g_assign ?_); first | refine lx_assign (r := (.t _)) rfl rfl rfl rfl rfl ?_) | ((with_reducible refine g_indexAddr ?_); first | refine lx_indexAddr_arr rfl rfl rfl rfl rfl rfl ?_ ?_ ?_) | ((with_reducible refine g_index ?_); first | refine lx_index_str rfl rfl rfl rfl rfl rfl ?_ ?_ ?_) | ((with_reducible refine g_convert ?_); first | refine lx_ofBytes_sl rfl rfl rfl rfl rfl ?_ ?_) | ((with_reducible refine g_store ?_); first | refine lx_store_arrM rfl rfl rfl rfl rfl rfl rfl ?_ ?_) | ((with_reducible refine g_slice ?_); first | refine lx_slice_arrF rfl rfl rfl ⟨_, rfl⟩ rfl rfl rfl rfl rfl rfl ?_ ?_ ?_ ?_ ?_) | refine c_condP rfl (fun hc => ?_) (fun hc => ?_))
    all_goals try simp only [w1, Int.toNat_natCast, List.length_map, List.length_set]
    all_goals try omega
    · show (v : Int) < 36
      omega
    all_goals rw [show bAt _ (v : Int) = ((hexC v).toNat : Int) from hex_bAt rfl hlt, hfin]
    · exact isU8_map _
    · exact q_ret (resT_two rfl (AVLE.refl _) (AVLE.of_eq (congrArg (fun x => AV.t (T.str x)) ((strT_map _).trans (congrArg ofL hlast))))) (stHas_spec ⟨rfl, rfl, rfl, trivial⟩)
  · have hjk : j < k := by
      rcases Nat.lt_or_ge j k with h | h
      · exact h
      · obtain rfl : j = k := by omega
        have : u / 16 ^ j < 16 := (Nat.div_lt_iff_lt_mul (Nat.pow_pos (by omega))).2 (by rw [Nat.pow_succ] at h1; omega)
        omega
    have ha := and15 v (by omega)
    repeat' (first | (with_reducible refine codeT_seq ?_) | (with_reducible refine codeT_block ?_) | (with_reducible refine codeT_skip ?_) | (with_reducible refine codeT_exit ?_) | (with_reducible refine codeT_regionL ?_) | (with_reducible refine lx_nil ?_) | (with_reducible refine q_then ?_) | (with_reducible refine q_then_exit ?_) | (with_reducible refine q_block ?_) | ((with_reducible refine q_block_same ?_ ?_); · rfl) | (with_reducible refine q_loop_exit ?_) | (exfalso; omega) | ((with_reducible refine g_move ?_); first | refine lx_move (r := (.t _)) rfl rfl rfl rfl rfl ?_) | ((with_reducible refine g_binOp ?_); first | refine lx_arith rfl rfl rfl rfl rfl rfl rfl ?_ | refine lx_shr rfl rfl rfl rfl rfl rfl (by decide) ?_) | ((with_reducible refine g_assign ?_); first | refine lx_assign (r := (.t _)) rfl rfl rfl rfl rfl ?_) | ((with_reducible refine g_indexAddr ?_); first | refine lx_indexAddr_arr rfl rfl rfl rfl rfl rfl ?_ ?_ ?_) | ((with_reducible refine g_index ?_); first | refine lx_index_str rfl rfl rfl rfl rfl rfl ?_ ?_ ?_) | ((with_reducible refine g_store ?_); first | refine lx_store_arrM rfl rfl rfl rfl rfl rfl rfl ?_ ?_) | refine c_condP rfl (fun hc => ?_) (fun hc => ?_))
    all_goals try simp only [w1, ha, Int.toNat_natCast, List.length_map, List.length_set]
    all_goals try omega
    · show ((v % 16 : Nat) : Int) < 36
      omega
    rw [show bAt _ ((v % 16 : Nat) : Int) = ((hexC (v % 16)).toNat : Int) from hex_bAt rfl (by omega)]
    refine q_loop (n' := k - (j + 1)) (by omega) (ghost_keep2 [1, 3, 4, 10, 12, 13, 14, 15, 16] [.loc 12, .par 100, .par 101, .par 102] rfl rfl) ⟨j + 1, v / 16, l.set (64 - j) ((hexC (v % 16)).toNat : Int), by omega, rfl, hstep, by rw [List.length_set]; exact hl, ?_, ?_, rfl⟩
    · rw [show 65 - (j + 1) = 64 - j by omega, drop_set_self _ _ _ (by omega), show 64 - j + 1 = 65 - j by omega, hd, lowHex, hv]; rfl
    · rw [show 65 - (j + 1) = 64 - j by omega, show (v : Int) / 2 ^ min (Int.toNat 4) IntKind.u64.bits = ((v / 16 : Nat) : Int) from hsh]; rfl
set_option maxHeartbeats 2000000 in
theorem iFormatInt_spec {oS oR oD : Obj} (G : GOk oS oR oD) (u k : Nat) (hu : u < 9223372036854775808) (h1 : u < 16 ^ (k + 1)) (h2 : k = 0 ∨ 16 ^ k ≤ u) :
    Spec Tryd.prog 32 [.t (.int .i64 (u : Int)), .t (.int .i64 16)] [(.par 100, .dat (.fix 1 oS)), (.par 101, .dat (.fix 2 oR)), (.par 102, .dat (.fix 5 oD))] (.t (.str (ofL (lowHex (k + 1) u)))) [(.par 100, .dat (.fix 1 oS)), (.par 101, .dat (.fix 2 oR)), (.par 102, .dat (.fix 5 oD))] := by
  have hB := formatBits_spec G u k (by omega) h1 h2
  generalize ofL (lowHex (k + 1) u) = r at *
  have hw : IntKind.u64.wrap (u : Int) = (u : Int) := wrapU64 (by omega) (by omega)
  rw [← hw] at hB
  refine spec_intro (env0 := [(0, _), (1, _)]) (st0 := [(_, some _), (_, some _), (_, some _)]) Tryd.func32 rfl rfl rfl rfl ?_
  repeat' (first | (with_reducible refine codeT_seq ?_) | (with_reducible refine codeT_skip ?_) | (with_reducible refine codeT_ret ?_) | (with_reducible refine codeT_regionL ?_) | (with_reducible refine lx_nil ?_) | (with_reducible refine q_then ?_) | refine c_condF rfl ?_ | ((with_reducible refine g_move ?_); first | refine lx_move (r := (.t _)) rfl rfl rfl rfl rfl ?_ | refine lx_move (r := (.tup _)) rfl rfl rfl rfl rfl ?_) | ((with_reducible refine g_binOp ?_); first | refine lx_arith rfl rfl rfl rfl rfl rfl rfl ?_) | ((with_reducible refine g_assign ?_); first | refine lx_assign (r := (.t _)) rfl rfl rfl rfl rfl ?_) | ((with_reducible refine g_convert ?_); first | refine lx_conv_int rfl rfl rfl rfl rfl ?_) | ((with_reducible refine g_extract ?_); first | refine lx_extract rfl rfl rfl rfl rfl rfl ?_) | ((with_reducible refine g_call ?_); first | refine lx_call (r' := (.tup [.t .nilsl, .t (.str r)])) [] rfl rfl hB (ArgsLE.refl _) rfl ⟨rfl, rfl, rfl, trivial⟩ rfl rfl rfl rfl rfl rfl rfl rfl rfl rfl ?_))
  exact q_ret (resT_oneE rfl rfl rfl) (stHas_spec ⟨rfl, rfl, rfl, trivial⟩)
set_option maxHeartbeats 1000000 in
theorem FormatInt_spec {oS oR oD : Obj} (G : GOk oS oR oD) (u k : Nat) (hu : u < 9223372036854775808) (h1 : u < 16 ^ (k + 1)) (h2 : k = 0 ∨ 16 ^ k ≤ u) :
    Spec Tryd.prog 29 [.t (.int .i64 (u : Int)), .t (.int .i64 16)] [(.par 100, .dat (.fix 1 oS)), (.par 101, .dat (.fix 2 oR)), (.par 102, .dat (.fix 5 oD))] (.t (.str (ofL (lowHex (k + 1) u)))) [(.par 100, .dat (.fix 1 oS)), (.par 101, .dat (.fix 2 oR)), (.par 102, .dat (.fix 5 oD))] := by
  have hB := iFormatInt_spec G u k hu h1 h2
  generalize ofL (lowHex (k + 1) u) = r at *
  refine spec_intro (env0 := [(0, _), (1, _)]) (st0 := [(_, some _), (_, some _), (_, some _)]) Tryd.func29 rfl rfl rfl rfl ?_
  repeat' (first | (with_reducible refine codeT_seq ?_) | (with_reducible refine codeT_ret ?_) | (with_reducible refine codeT_regionL ?_) | (with_reducible refine lx_nil ?_) | (with_reducible refine q_then ?_) | ((with_reducible refine g_move ?_); first | refine lx_move (r := (.t _)) rfl rfl rfl rfl rfl ?_) | ((with_reducible refine g_assign ?_); first | refine lx_assign (r := (.t _)) rfl rfl rfl rfl rfl ?_) | ((with_reducible refine g_call ?_); first | refine lx_call (r' := (.t (.str r))) [] rfl rfl hB (ArgsLE.refl _) rfl ⟨rfl, rfl, rfl, trivial⟩ rfl rfl rfl rfl rfl rfl rfl rfl rfl rfl ?_))
  exact q_ret (resT_oneE rfl rfl rfl) (stHas_spec ⟨rfl, rfl, rfl, trivial⟩)
end Go.AL
/- What strconv.ParseUint answers in base 16. -/
set_option linter.unusedVariables false
namespace Go.AL
open Go Go.Proofs Go.RowKit

theorem lowerI_nat : ∀ c : Fin 256, lowerI (c.val : Int) = ((lowN c.val : Nat) : Int) := by decide +kernel
def pAV : Except Int Nat → AV
  | .ok n => .tup [.t (.int .u64 (n : Int)), .t .nili]
  | .error k => .tup [.junk, .t (.ifi 89 .i64 k)]
set_option maxHeartbeats 8000000 in
theorem iParseUint_spec (s : ByteArray) (hs : s.size ≤ 1000000000) (h0 : s ≠ ⟨#[]⟩) (bits : Int) (mx : Nat) (hb : 1 ≤ bits ∧ bits ≤ 64) (hmx : mx ≤ 4294967295)
    (hm : IntKind.u64.wrap (IntKind.u64.wrap (1 * 2 ^ min bits.toNat IntKind.u64.bits) - 1) = (mx : Int)) :
    Spec Tryd.prog 39 [.t (.str s), .t (.int .i64 16), .t (.int .i64 bits)] [] (pAV (pgo mx s.data.toList 0)) [] := by
  have hw : IntKind.u64.wrap bits = bits := wrapU64 (by omega) (by omega)
  obtain ⟨R, hR⟩ : ∃ R, R = pgo mx s.data.toList 0 := ⟨_, rfl⟩
  rw [← hR]
  obtain ⟨X, hX⟩ : ∃ X, X = pAV R := ⟨_, rfl⟩
  rw [← hX]
  obtain ⟨L, hL⟩ : ∃ L, L = s.data.toList := ⟨_, rfl⟩
  have hLs : s.size = L.length := by rw [hL]; exact ba_len2 s
  rw [← hL] at hR
  refine spec_intro (env0 := [(0, _), (1, _), (2, _)]) (st0 := []) Tryd.func39 rfl rfl rfl rfl ?_
  repeat' (first | (with_reducible refine codeT_seq ?_) | (with_reducible refine codeT_block ?_) | (with_reducible refine codeT_skip ?_) | (with_reducible refine codeT_regionL ?_) | (with_reducible refine lx_nil ?_) | (with_reducible refine q_then ?_) | (with_reducible refine q_block ?_) | refine c_condT rfl ?_ | refine c_condF rfl ?_ | (exfalso; omega) | exact absurd ‹_› h0 | ((with_reducible refine g_move ?_); first | refine lx_move (r := (.t _)) rfl rfl rfl rfl rfl ?_) | ((with_reducible refine g_binOp ?_); first | refine lx_arith rfl rfl rfl rfl rfl rfl rfl ?_ | refine lx_str_eq rfl rfl rfl rfl rfl rfl ?_ | refine lx_shl rfl rfl rfl rfl rfl rfl ?_ ?_) | ((with_reducible refine g_assign ?_); first | refine lx_assign (r := (.t _)) rfl rfl rfl rfl rfl ?_) | ((with_reducible refine g_pick ?_); first | refine lx_pickT (r := (.t _)) rfl rfl rfl rfl rfl rfl ?_ | refine lx_pickF (r := (.t _)) rfl rfl rfl rfl rfl rfl ?_) | ((with_reducible refine g_convert ?_); first | refine lx_conv_int rfl rfl rfl rfl rfl ?_ | refine lx_toBytes rfl rfl rfl rfl rfl rfl ?_ ?_) | ((with_reducible refine g_len ?_); first | refine lx_len_rowmap rfl rfl rfl rfl rfl rfl ?_) | refine c_condP rfl (fun hc => ?_) (fun hc => ?_) | refine lx_splitP rfl (fun hc => ?_) (fun hc => ?_))
  all_goals try omega
  rw [show bytesT s = L.map u8T from by rw [hL]; rfl, ← hL, hw, hm]
  refine codeT_ghost (ghost_keep2 [1, 8, 9, 10, 11, 12, 13, 99, 100, 101] [.loc 99] rfl rfl) ?_
  refine codeT_loop (fun p env st => ∃ (j n : Nat), j ≤ L.length ∧ p = L.length - j ∧ n ≤ mx ∧ pgo mx (L.drop j) n = R ∧
      env = EnvL.get [(1, .t (.int .i64 16)), (8, .t (.bool false)), (9, .t (.str s)), (10, .t (.int .u64 1152921504606846976)), (11, .t (.int .u64 (mx : Int))), (12, .t (.bool false)), (13, .t (.int .u64 (n : Int))), (99, .row (.loc 99)), (100, .t (.int .i64 (L.length : Int))), (101, .t (.int .i64 (j : Int)))] ∧ st = StO.get [(.loc 99, some (.slt 5 1 (L.map u8T)))])
    ?_ (n := L.length) ⟨0, 0, by omega, rfl, by omega, hR.symm, rfl, rfl⟩
  rintro p env st ⟨j, n, hj, rfl, hn, hG, rfl, rfl⟩
  by_cases hlt : j < L.length
  · rw [drop_getD L j hlt, pgo] at hG
    obtain ⟨b, hbb⟩ : ∃ b, b = L.getD (j : Int).toNat default := ⟨_, rfl⟩
    rw [show L.getD j default = b from hbb.symm] at hG
    obtain ⟨c, hcc⟩ : ∃ c, c = b.toNat := ⟨_, rfl⟩
    have hc256 : c < 256 := by rw [hcc]; exact b.toNat_lt
    rw [← hcc] at hG
    have hCC : ((L.getD (j : Int).toNat default).toNat : Int) = (c : Int) := by rw [← hbb, hcc]
    have hlow := lower_spec ((L.getD (j : Int).toNat default).toNat : Int)
    rw [show lowerI ((L.getD (j : Int).toNat default).toNat : Int) = ((lowN c : Nat) : Int) from by rw [hCC]; exact lowerI_nat ⟨c, hc256⟩] at hlow
    have hlw := lowN_lt c hc256
    unfold hv at hG
    generalize lowN c = lw at *
    have hmul : IntKind.u64.wrap ((n : Int) * IntKind.u64.wrap 16) = ((16 * n : Nat) : Int) := by
      rw [show IntKind.u64.wrap 16 = 16 by decide, wrapU64 (by omega) (by omega)]; omega
    have w16 : IntKind.u8.wrap 16 = 16 := by decide
    have wj : IntKind.i64.wrap ((j : Int) + 1) = ((j + 1 : Nat) : Int) := by rw [wrap64 (by omega) (by omega)]; omega
    by_cases hA : 48 ≤ c ∧ c ≤ 57
    · rw [if_pos hA] at hG
      simp only at hG
      obtain ⟨dd, hdd⟩ : ∃ dd, dd = c - 48 := ⟨_, rfl⟩
      rw [← hdd] at hG
      have e1 : IntKind.u8.wrap (((L.getD (j : Int).toNat default).toNat : Int) - 48) = (dd : Int) := by rw [hCC, wrapU8 (by omega) (by omega)]; omega
      have eN : IntKind.u64.wrap (IntKind.u64.wrap ((n : Int) * IntKind.u64.wrap 16) + IntKind.u64.wrap (IntKind.u8.wrap (((L.getD (j : Int).toNat default).toNat : Int) - 48))) = ((16 * n + dd : Nat) : Int) := by
        rw [hmul, e1, wrapU64 (n := (dd : Int)) (by omega) (by omega), wrapU64 (by omega) (by omega)]; omega
      by_cases hov : mx < 16 * n + dd
      · rw [if_pos hov] at hG
        repeat' (first | (with_reducible refine codeT_seq ?_) | (with_reducible refine codeT_block ?_) | (with_reducible refine codeT_skip ?_) | (with_reducible refine codeT_ret ?_) | (with_reducible refine codeT_exit ?_) | (with_reducible refine codeT_regionL ?_) | (with_reducible refine lx_nil ?_) | (with_reducible refine q_then ?_) | (with_reducible refine q_then_exit ?_) | (with_reducible refine q_then_ret ?_) | (with_reducible refine q_block ?_) | (with_reducible refine q_block_ret ?_) | ((with_reducible refine q_block_same ?_ ?_); · rfl) | (with_reducible refine q_loop_exit ?_) | (with_reducible refine q_loop_ret ?_) | refine c_condF rfl ?_ | (exfalso; omega) | ((with_reducible refine g_guard ?_); first | refine lx_skip rfl rfl rfl ?_) | ((with_reducible refine g_move ?_); first | refine lx_move (r := (.t _)) rfl rfl rfl rfl rfl ?_) | ((with_reducible refine g_load ?_); first | refine lx_load_elsM rfl rfl rfl rfl rfl rfl rfl rfl ?_ ?_) | ((with_reducible refine g_binOp ?_); first | refine lx_arith rfl rfl rfl rfl rfl rfl rfl ?_) | ((with_reducible refine g_assign ?_); first | refine lx_assign (r := (.t _)) rfl rfl rfl rfl rfl ?_) | ((with_reducible refine g_pick ?_); first | refine lx_pickT (r := (.t _)) rfl rfl rfl rfl rfl rfl ?_ | refine lx_pickF (r := (.t _)) rfl rfl rfl rfl rfl rfl ?_) | ((with_reducible refine g_indexAddr ?_); first | refine lx_indexAddr_row rfl rfl rfl rfl rfl rfl rfl ?_ ?_ ?_) | ((with_reducible refine g_convert ?_); first | refine lx_conv_int rfl rfl rfl rfl rfl ?_) | ((with_reducible refine g_makeInterface ?_); first | refine lx_ifi rfl rfl rfl rfl rfl ?_) | refine c_condP rfl (fun hc => ?_) (fun hc => ?_) | refine lx_splitP rfl (fun hc => ?_) (fun hc => ?_))
        all_goals try omega
        all_goals try (simp only [List.length_map, Int.toNat_natCast]; omega)
        all_goals exact q_ret (by rw [hX, ← hG]; exact resT_two rfl (AVLE.junk _) (AVLE.refl _)) (by simp)
      · rw [if_neg hov] at hG
        repeat' (first | (with_reducible refine codeT_seq ?_) | (with_reducible refine codeT_block ?_) | (with_reducible refine codeT_skip ?_) | (with_reducible refine codeT_exit ?_) | (with_reducible refine codeT_regionL ?_) | (with_reducible refine lx_nil ?_) | (with_reducible refine q_then ?_) | (with_reducible refine q_then_exit ?_) | (with_reducible refine q_block ?_) | ((with_reducible refine q_block_same ?_ ?_); · rfl) | (with_reducible refine q_loop_exit ?_) | refine c_condF rfl ?_ | (exfalso; omega) | ((with_reducible refine g_guard ?_); first | refine lx_skip rfl rfl rfl ?_) | ((with_reducible refine g_move ?_); first | refine lx_move (r := (.t _)) rfl rfl rfl rfl rfl ?_) | ((with_reducible refine g_load ?_); first | refine lx_load_elsM rfl rfl rfl rfl rfl rfl rfl rfl ?_ ?_) | ((with_reducible refine g_binOp ?_); first | refine lx_arith rfl rfl rfl rfl rfl rfl rfl ?_) | ((with_reducible refine g_assign ?_); first | refine lx_assign (r := (.t _)) rfl rfl rfl rfl rfl ?_) | ((with_reducible refine g_pick ?_); first | refine lx_pickT (r := (.t _)) rfl rfl rfl rfl rfl rfl ?_ | refine lx_pickF (r := (.t _)) rfl rfl rfl rfl rfl rfl ?_) | ((with_reducible refine g_indexAddr ?_); first | refine lx_indexAddr_row rfl rfl rfl rfl rfl rfl rfl ?_ ?_ ?_) | ((with_reducible refine g_convert ?_); first | refine lx_conv_int rfl rfl rfl rfl rfl ?_) | refine c_condP rfl (fun hc => ?_) (fun hc => ?_) | refine lx_splitP rfl (fun hc => ?_) (fun hc => ?_))
        all_goals try omega
        all_goals try (simp only [List.length_map, Int.toNat_natCast]; omega)
        all_goals exact q_loop (n' := L.length - (j + 1)) (by omega) (ghost_keep2 [1, 8, 9, 10, 11, 12, 13, 99, 100, 101] [.loc 99] rfl rfl) ⟨j + 1, 16 * n + dd, by omega, rfl, by omega, hG, by rw [eN, wj]; rfl, rfl⟩
    · rw [if_neg hA] at hG
      by_cases hB : 97 ≤ lw ∧ lw ≤ 102
      · rw [if_pos hB] at hG
        simp only at hG
        obtain ⟨dd, hdd⟩ : ∃ dd, dd = lw - 87 := ⟨_, rfl⟩
        rw [← hdd] at hG
        have e1 : IntKind.u8.wrap (IntKind.u8.wrap ((lw : Int) - 97) + 10) = (dd : Int) := by rw [wrapU8 (n := (lw : Int) - 97) (by omega) (by omega), wrapU8 (by omega) (by omega)]; omega
        have eN : IntKind.u64.wrap (IntKind.u64.wrap ((n : Int) * IntKind.u64.wrap 16) + IntKind.u64.wrap (IntKind.u8.wrap (IntKind.u8.wrap ((lw : Int) - 97) + 10))) = ((16 * n + dd : Nat) : Int) := by
          rw [hmul, e1, wrapU64 (n := (dd : Int)) (by omega) (by omega), wrapU64 (by omega) (by omega)]; omega
        by_cases hov : mx < 16 * n + dd
        · rw [if_pos hov] at hG
          repeat' (first | (with_reducible refine codeT_seq ?_) | (with_reducible refine codeT_block ?_) | (with_reducible refine codeT_skip ?_) | (with_reducible refine codeT_ret ?_) | (with_reducible refine codeT_exit ?_) | (with_reducible refine codeT_regionL ?_) | (with_reducible refine lx_nil ?_) | (with_reducible refine q_then ?_) | (with_reducible refine q_then_exit ?_) | (with_reducible refine q_then_ret ?_) | (with_reducible refine q_block ?_) | (with_reducible refine q_block_ret ?_) | ((with_reducible refine q_block_same ?_ ?_); · rfl) | (with_reducible refine q_loop_exit ?_) | (with_reducible refine q_loop_ret ?_) | refine c_condF rfl ?_ | (exfalso; omega) | ((with_reducible refine g_guard ?_); first | refine lx_skip rfl rfl rfl ?_) | ((with_reducible refine g_move ?_); first | refine lx_move (r := (.t _)) rfl rfl rfl rfl rfl ?_) | ((with_reducible refine g_load ?_); first | refine lx_load_elsM rfl rfl rfl rfl rfl rfl rfl rfl ?_ ?_) | ((with_reducible refine g_binOp ?_); first | refine lx_arith rfl rfl rfl rfl rfl rfl rfl ?_) | ((with_reducible refine g_assign ?_); first | refine lx_assign (r := (.t _)) rfl rfl rfl rfl rfl ?_) | ((with_reducible refine g_pick ?_); first | refine lx_pickT (r := (.t _)) rfl rfl rfl rfl rfl rfl ?_ | refine lx_pickF (r := (.t _)) rfl rfl rfl rfl rfl rfl ?_) | ((with_reducible refine g_indexAddr ?_); first | refine lx_indexAddr_row rfl rfl rfl rfl rfl rfl rfl ?_ ?_ ?_) | ((with_reducible refine g_convert ?_); first | refine lx_conv_int rfl rfl rfl rfl rfl ?_) | ((with_reducible refine g_call ?_); first | refine lx_callT rfl rfl hlow rfl rfl (ArgsLE.refl _) rfl rfl rfl rfl rfl ?_) | ((with_reducible refine g_makeInterface ?_); first | refine lx_ifi rfl rfl rfl rfl rfl ?_) | refine c_condP rfl (fun hc => ?_) (fun hc => ?_) | refine lx_splitP rfl (fun hc => ?_) (fun hc => ?_))
          all_goals try omega
          all_goals try (simp only [List.length_map, Int.toNat_natCast]; omega)
          all_goals exact q_ret (by rw [hX, ← hG]; exact resT_two rfl (AVLE.junk _) (AVLE.refl _)) (by simp)
        · rw [if_neg hov] at hG
          repeat' (first | (with_reducible refine codeT_seq ?_) | (with_reducible refine codeT_block ?_) | (with_reducible refine codeT_skip ?_) | (with_reducible refine codeT_exit ?_) | (with_reducible refine codeT_regionL ?_) | (with_reducible refine lx_nil ?_) | (with_reducible refine q_then ?_) | (with_reducible refine q_then_exit ?_) | (with_reducible refine q_block ?_) | ((with_reducible refine q_block_same ?_ ?_); · rfl) | (with_reducible refine q_loop_exit ?_) | refine c_condF rfl ?_ | (exfalso; omega) | ((with_reducible refine g_guard ?_); first | refine lx_skip rfl rfl rfl ?_) | ((with_reducible refine g_move ?_); first | refine lx_move (r := (.t _)) rfl rfl rfl rfl rfl ?_) | ((with_reducible refine g_load ?_); first | refine lx_load_elsM rfl rfl rfl rfl rfl rfl rfl rfl ?_ ?_) | ((with_reducible refine g_binOp ?_); first | refine lx_arith rfl rfl rfl rfl rfl rfl rfl ?_) | ((with_reducible refine g_assign ?_); first | refine lx_assign (r := (.t _)) rfl rfl rfl rfl rfl ?_) | ((with_reducible refine g_pick ?_); first | refine lx_pickT (r := (.t _)) rfl rfl rfl rfl rfl rfl ?_ | refine lx_pickF (r := (.t _)) rfl rfl rfl rfl rfl rfl ?_) | ((with_reducible refine g_indexAddr ?_); first | refine lx_indexAddr_row rfl rfl rfl rfl rfl rfl rfl ?_ ?_ ?_) | ((with_reducible refine g_convert ?_); first | refine lx_conv_int rfl rfl rfl rfl rfl ?_) | ((with_reducible refine g_call ?_); first | refine lx_callT rfl rfl hlow rfl rfl (ArgsLE.refl _) rfl rfl rfl rfl rfl ?_) | refine c_condP rfl (fun hc => ?_) (fun hc => ?_) | refine lx_splitP rfl (fun hc => ?_) (fun hc => ?_))
          all_goals try omega
          all_goals try (simp only [List.length_map, Int.toNat_natCast]; omega)
          all_goals exact q_loop (n' := L.length - (j + 1)) (by omega) (ghost_keep2 [1, 8, 9, 10, 11, 12, 13, 99, 100, 101] [.loc 99] rfl rfl) ⟨j + 1, 16 * n + dd, by omega, rfl, by omega, hG, by rw [eN, wj]; rfl, rfl⟩
      · rw [if_neg hB] at hG
        simp only at hG
        by_cases hC : 97 ≤ lw ∧ lw ≤ 122
        · have e1 : IntKind.u8.wrap (IntKind.u8.wrap ((lw : Int) - 97) + 10) = ((lw - 87 : Nat) : Int) := by rw [wrapU8 (n := (lw : Int) - 97) (by omega) (by omega), wrapU8 (by omega) (by omega)]; omega
          repeat' (first | (with_reducible refine codeT_seq ?_) | (with_reducible refine codeT_block ?_) | (with_reducible refine codeT_skip ?_) | (with_reducible refine codeT_ret ?_) | (with_reducible refine codeT_exit ?_) | (with_reducible refine codeT_regionL ?_) | (with_reducible refine lx_nil ?_) | (with_reducible refine q_then ?_) | (with_reducible refine q_then_exit ?_) | (with_reducible refine q_then_ret ?_) | (with_reducible refine q_block ?_) | (with_reducible refine q_block_ret ?_) | ((with_reducible refine q_block_same ?_ ?_); · rfl) | (with_reducible refine q_loop_exit ?_) | (with_reducible refine q_loop_ret ?_) | refine c_condF rfl ?_ | (exfalso; omega) | ((with_reducible refine g_guard ?_); first | refine lx_skip rfl rfl rfl ?_) | ((with_reducible refine g_move ?_); first | refine lx_move (r := (.t _)) rfl rfl rfl rfl rfl ?_) | ((with_reducible refine g_load ?_); first | refine lx_load_elsM rfl rfl rfl rfl rfl rfl rfl rfl ?_ ?_) | ((with_reducible refine g_binOp ?_); first | refine lx_arith rfl rfl rfl rfl rfl rfl rfl ?_) | ((with_reducible refine g_assign ?_); first | refine lx_assign (r := (.t _)) rfl rfl rfl rfl rfl ?_) | ((with_reducible refine g_pick ?_); first | refine lx_pickT (r := (.t _)) rfl rfl rfl rfl rfl rfl ?_ | refine lx_pickF (r := (.t _)) rfl rfl rfl rfl rfl rfl ?_) | ((with_reducible refine g_indexAddr ?_); first | refine lx_indexAddr_row rfl rfl rfl rfl rfl rfl rfl ?_ ?_ ?_) | ((with_reducible refine g_convert ?_); first | refine lx_conv_int rfl rfl rfl rfl rfl ?_) | ((with_reducible refine g_call ?_); first | refine lx_callT rfl rfl hlow rfl rfl (ArgsLE.refl _) rfl rfl rfl rfl rfl ?_) | ((with_reducible refine g_makeInterface ?_); first | refine lx_ifi rfl rfl rfl rfl rfl ?_) | refine c_condP rfl (fun hc => ?_) (fun hc => ?_) | refine lx_splitP rfl (fun hc => ?_) (fun hc => ?_))
          all_goals try omega
          all_goals try (simp only [List.length_map, Int.toNat_natCast]; omega)
          all_goals exact q_ret (by rw [hX, ← hG]; exact resT_two rfl (AVLE.junk _) (AVLE.refl _)) (by simp)
        · repeat' (first | (with_reducible refine codeT_seq ?_) | (with_reducible refine codeT_block ?_) | (with_reducible refine codeT_skip ?_) | (with_reducible refine codeT_ret ?_) | (with_reducible refine codeT_exit ?_) | (with_reducible refine codeT_regionL ?_) | (with_reducible refine lx_nil ?_) | (with_reducible refine q_then ?_) | (with_reducible refine q_then_exit ?_) | (with_reducible refine q_then_ret ?_) | (with_reducible refine q_block_ret ?_) | ((with_reducible refine q_block_same ?_ ?_); · rfl) | (with_reducible refine q_loop_exit ?_) | (with_reducible refine q_loop_ret ?_) | refine c_condF rfl ?_ | (exfalso; omega) | ((with_reducible refine g_guard ?_); first | refine lx_skip rfl rfl rfl ?_) | ((with_reducible refine g_move ?_); first | refine lx_move (r := (.t _)) rfl rfl rfl rfl rfl ?_) | ((with_reducible refine g_load ?_); first | refine lx_load_elsM rfl rfl rfl rfl rfl rfl rfl rfl ?_ ?_) | ((with_reducible refine g_binOp ?_); first | refine lx_arith rfl rfl rfl rfl rfl rfl rfl ?_) | ((with_reducible refine g_assign ?_); first | refine lx_assign (r := (.t _)) rfl rfl rfl rfl rfl ?_) | ((with_reducible refine g_pick ?_); first | refine lx_pickT (r := (.t _)) rfl rfl rfl rfl rfl rfl ?_ | refine lx_pickF (r := (.t _)) rfl rfl rfl rfl rfl rfl ?_) | ((with_reducible refine g_indexAddr ?_); first | refine lx_indexAddr_row rfl rfl rfl rfl rfl rfl rfl ?_ ?_ ?_) | ((with_reducible refine g_call ?_); first | refine lx_callT rfl rfl hlow rfl rfl (ArgsLE.refl _) rfl rfl rfl rfl rfl ?_) | ((with_reducible refine g_makeInterface ?_); first | refine lx_ifi rfl rfl rfl rfl rfl ?_) | refine c_condP rfl (fun hc => ?_) (fun hc => ?_) | refine lx_splitP rfl (fun hc => ?_) (fun hc => ?_))
          all_goals try omega
          all_goals try (simp only [List.length_map, Int.toNat_natCast]; omega)
          all_goals exact q_ret (by rw [hX, ← hG]; exact resT_two rfl (AVLE.junk _) (AVLE.refl _)) (by simp)
  · obtain rfl : j = L.length := by omega
    rw [List.drop_length, pgo] at hG
    repeat' (first | (with_reducible refine codeT_seq ?_) | (with_reducible refine codeT_block ?_) | (with_reducible refine codeT_skip ?_) | (with_reducible refine codeT_ret ?_) | (with_reducible refine codeT_exit ?_) | (with_reducible refine codeT_regionL ?_) | (with_reducible refine lx_nil ?_) | (with_reducible refine q_then ?_) | (with_reducible refine q_then_exit ?_) | ((with_reducible refine q_block_same ?_ ?_); · rfl) | (with_reducible refine q_loop_exit ?_) | refine c_condF rfl ?_ | (exfalso; omega) | ((with_reducible refine g_guard ?_); first | refine lx_skip rfl rfl rfl ?_) | ((with_reducible refine g_move ?_); first | refine lx_move (r := (.t _)) rfl rfl rfl rfl rfl ?_) | ((with_reducible refine g_binOp ?_); first | refine lx_arith rfl rfl rfl rfl rfl rfl rfl ?_) | ((with_reducible refine g_assign ?_); first | refine lx_assign (r := (.t _)) rfl rfl rfl rfl rfl ?_) | ((with_reducible refine g_pick ?_); first | refine lx_pickF (r := (.t _)) rfl rfl rfl rfl rfl rfl ?_) | refine c_condP rfl (fun hc => ?_) (fun hc => ?_))
    all_goals try omega
    all_goals exact q_ret (by rw [hX, ← hG]; exact resT_two rfl (AVLE.refl _) (AVLE.refl _)) (by simp)
set_option maxHeartbeats 2000000 in
theorem ParseUint_spec {oS oR oD : Obj} (G : GOk oS oR oD) (s : ByteArray) (hs : s.size ≤ 1000000000) (h0 : s ≠ ⟨#[]⟩) (bits : Int) (mx : Nat) (hb : 1 ≤ bits ∧ bits ≤ 64) (hmx : mx ≤ 4294967295)
    (hm : IntKind.u64.wrap (IntKind.u64.wrap (1 * 2 ^ min bits.toNat IntKind.u64.bits) - 1) = (mx : Int)) :
    Spec Tryd.prog 31 [.t (.str s), .t (.int .i64 16), .t (.int .i64 bits)] [(.par 100, .dat (.fix 1 oS)), (.par 101, .dat (.fix 2 oR)), (.par 102, .dat (.fix 5 oD))] (match pgo mx s.data.toList 0 with | .ok n => .tup [.t (.int .u64 (n : Int)), .t .nili] | .error _ => .tup [.junk, .t .iface]) [(.par 100, .dat (.fix 1 oS)), (.par 101, .dat (.fix 2 oR)), (.par 102, .dat (.fix 5 oD))] := by
  have h := iParseUint_spec s hs h0 bits mx hb hmx hm
  have hk := pgo_err mx s.data.toList 0
  generalize pgo mx s.data.toList 0 = R at *
  cases R with
  | ok n =>
    simp only [pAV] at h
    refine spec_intro (env0 := [(0, _), (1, _), (2, _)]) (st0 := [(_, some _), (_, some _), (_, some _)]) Tryd.func31 rfl rfl rfl rfl ?_
    repeat' (first | (with_reducible refine codeT_seq ?_) | (with_reducible refine codeT_skip ?_) | (with_reducible refine codeT_ret ?_) | (with_reducible refine codeT_regionL ?_) | (with_reducible refine lx_nil ?_) | (with_reducible refine q_then ?_) | refine c_condF rfl ?_ | ((with_reducible refine g_move ?_); first | refine lx_move (r := (.t _)) rfl rfl rfl rfl rfl ?_ | refine lx_move (r := (.tup _)) rfl rfl rfl rfl rfl ?_) | ((with_reducible refine g_assign ?_); first | refine lx_assign (r := (.t _)) rfl rfl rfl rfl rfl ?_) | ((with_reducible refine g_extract ?_); first | refine lx_extract rfl rfl rfl rfl rfl rfl ?_) | ((with_reducible refine g_call ?_); first | refine lx_callT rfl rfl h rfl rfl (ArgsLE.refl _) rfl rfl rfl rfl rfl ?_) | ((with_reducible refine g_binOp ?_); first | refine lx_ifnil_ne rfl rfl rfl rfl rfl rfl ?_))
    exact q_ret (resT_twoE rfl rfl rfl rfl rfl) (stHas_spec ⟨rfl, rfl, rfl, trivial⟩)
  | error k =>
    simp only [pAV] at h
    have hE := toError_spec G ⟨#[80, 97, 114, 115, 101, 85, 105, 110, 116]⟩ s (by omega) 16 bits k (hk k rfl)
    refine spec_intro (env0 := [(0, _), (1, _), (2, _)]) (st0 := [(_, some _), (_, some _), (_, some _)]) Tryd.func31 rfl rfl rfl rfl ?_
    repeat' (first | (with_reducible refine codeT_seq ?_) | (with_reducible refine codeT_ret ?_) | (with_reducible refine codeT_regionL ?_) | (with_reducible refine lx_nil ?_) | (with_reducible refine q_then ?_) | (with_reducible refine q_then_ret ?_) | refine c_condT rfl ?_ | ((with_reducible refine g_move ?_); first | refine lx_move (r := (.t _)) rfl rfl rfl rfl rfl ?_ | refine lx_move (r := (.tup _)) rfl rfl rfl rfl rfl ?_ | refine lx_move (r := .junk) rfl rfl rfl rfl rfl ?_) | ((with_reducible refine g_assign ?_); first | refine lx_assign (r := (.t _)) rfl rfl rfl rfl rfl ?_ | refine lx_assign (r := .junk) rfl rfl rfl rfl rfl ?_) | ((with_reducible refine g_extract ?_); first | refine lx_extract rfl rfl rfl rfl rfl rfl ?_) | ((with_reducible refine g_call ?_); first | refine lx_callT rfl rfl h rfl rfl (ArgsLE.refl _) rfl rfl rfl rfl rfl ?_ | refine lx_call (r' := (.t .iface)) [] rfl rfl hE (ArgsLE.refl _) rfl ⟨rfl, rfl, rfl, trivial⟩ rfl rfl rfl rfl rfl rfl rfl rfl rfl rfl ?_) | ((with_reducible refine g_binOp ?_); first | refine lx_ifnil_ne rfl rfl rfl rfl rfl rfl ?_))
    exact q_ret (resT_two rfl (AVLE.junk _) (AVLE.refl _)) (stHas_spec ⟨rfl, rfl, rfl, trivial⟩)
end Go.AL
/- What version.hex, names, protocol and number answer. -/
set_option linter.unusedVariables false
namespace Go.AL
open Go Go.Proofs Go.RowKit

set_option maxHeartbeats 2000000 in
theorem vhex_spec {oS oR oD : Obj} (G : GOk oS oR oD) (n dg : Nat) (h1 : 1 ≤ dg) (h6 : dg ≤ 6) (hn : n < 16 ^ dg) : Spec Tryd.prog 22 [.t (.int .i64 (n : Int)), .t (.int .i64 (dg : Int))] [(.par 100, .dat (.fix 1 oS)), (.par 101, .dat (.fix 2 oR)), (.par 102, .dat (.fix 5 oD))] (.t (.str (ofL (lowHex dg n)))) [(.par 100, .dat (.fix 1 oS)), (.par 101, .dat (.fix 2 oR)), (.par 102, .dat (.fix 5 oD))] := by
  obtain ⟨k, hk1, hk2⟩ := hex_exists n
  have hn6 : n < 16777216 := Nat.lt_of_lt_of_le hn (Nat.pow_le_pow_right (n := 16) (i := dg) (j := 6) (by omega) h6)
  have hkd : k < dg := by
    rcases hk2 with rfl | hk2
    · omega
    · rcases Nat.lt_or_ge k dg with h | h
      · exact h
      · have : 16 ^ dg ≤ 16 ^ k := Nat.pow_le_pow_right (by omega) h
        omega
  have hF := FormatInt_spec G n k (by omega) hk1 hk2
  have hl : (ofL (lowHex (k + 1) n)).size = k + 1 := by rw [ba_len2]; exact lowHex_len (k + 1) n
  have hR := Repeat_spec ⟨#[48]⟩ (dg - (k + 1)) (by omega) (by show 1 * _ ≤ _; omega)
  have hw : IntKind.i64.wrap ((dg : Int) - ((ofL (lowHex (k + 1) n)).size : Int)) = ((dg - (k + 1) : Nat) : Int) := by rw [hl, wrap64 (by omega) (by omega)]; omega
  rw [← hw] at hR
  have hz : ofL (lowHex dg n) = (⟨(Lib.repeatL [48] (dg - (k + 1))).toArray⟩ : ByteArray) ++ ofL (lowHex (k + 1) n) := by
    rw [repeat_one]
    have := lowHex_zero (k + 1) n hk1 (dg - (k + 1))
    rw [show k + 1 + (dg - (k + 1)) = dg by omega] at this
    rw [this]
    apply ByteArray.ext
    simp [ofL]
  have hrs : (⟨(Lib.repeatL [48] (dg - (k + 1))).toArray⟩ : ByteArray).size = dg - (k + 1) := by rw [ba_len2, repeat_one]; simp
  generalize ofL (lowHex (k + 1) n) = r at *
  rw [hz]
  have hR' : Spec Tryd.prog 30 [.t (.str ⟨#[48]⟩), .t (.int .i64 (IntKind.i64.wrap ((dg : Int) - (r.size : Int))))] [] (.t (.str (⟨(Lib.repeatL [48] (dg - (k + 1))).toArray⟩ : ByteArray))) [] := hR
  generalize (⟨(Lib.repeatL [48] (dg - (k + 1))).toArray⟩ : ByteArray) = z at *
  refine spec_intro (env0 := [(0, _), (1, _)]) (st0 := [(_, some _), (_, some _), (_, some _)]) Tryd.func22 rfl rfl rfl rfl ?_
  repeat' (first | (with_reducible refine codeT_seq ?_) | (with_reducible refine codeT_ret ?_) | (with_reducible refine codeT_regionL ?_) | (with_reducible refine lx_nil ?_) | (with_reducible refine q_then ?_) | ((with_reducible refine g_move ?_); first | refine lx_move (r := (.t _)) rfl rfl rfl rfl rfl ?_) | ((with_reducible refine g_binOp ?_); first | refine lx_arith rfl rfl rfl rfl rfl rfl rfl ?_ | refine lx_concat rfl rfl rfl rfl rfl rfl ?_ ?_) | ((with_reducible refine g_assign ?_); first | refine lx_assign (r := (.t _)) rfl rfl rfl rfl rfl ?_) | ((with_reducible refine g_len ?_); first | refine lx_len_str rfl rfl rfl rfl rfl ?_) | ((with_reducible refine g_call ?_); first | refine lx_call (r' := (.t (.str r))) [] rfl rfl hF (ArgsLE.refl _) rfl ⟨rfl, rfl, rfl, trivial⟩ rfl rfl rfl rfl rfl rfl rfl rfl rfl rfl ?_ | refine lx_callT rfl rfl hR' rfl rfl (ArgsLE.refl _) rfl rfl rfl rfl rfl ?_))
  all_goals try omega
  exact q_ret (resT_oneE rfl rfl rfl) (stHas_spec ⟨rfl, rfl, rfl, trivial⟩)
/-- The names of the serialisations. -/
def nmL : List (T × T) := [(.int .i64 1, .str ⟨#[74, 83, 79, 78]⟩), (.int .i64 2, .str ⟨#[67, 66, 79, 82]⟩), (.int .i64 3, .str ⟨#[77, 71, 80, 75]⟩)]
set_option maxHeartbeats 2000000 in
theorem names_spec : Spec Tryd.prog 23 [] [] (.row (.res 0)) [(.res 0, .dat (.map nmL))] := by
  refine spec_introG (env0 := []) (st0 := []) Tryd.func23 rfl rfl rfl rfl ?_
  repeat' (first | (with_reducible refine codeT_seq ?_) | (with_reducible refine codeT_ret ?_) | (with_reducible refine codeT_regionL ?_) | (with_reducible refine lx_nil ?_) | (with_reducible refine q_then ?_) | ((with_reducible refine g_move ?_); first | refine lx_move (r := (.row _)) rfl rfl rfl rfl rfl ?_) | ((with_reducible refine g_assign ?_); first | refine lx_assign (r := (.row _)) rfl rfl rfl rfl rfl ?_ | refine lx_assign (r := .junk) rfl rfl rfl rfl rfl ?_) | ((with_reducible refine g_makeMap ?_); first | refine lx_makeMap rfl rfl rfl rfl rfl ?_) | ((with_reducible refine g_insert ?_); first | refine lx_insert rfl rfl rfl rfl rfl rfl rfl rfl ?_ ?_))
  all_goals try rfl
  refine q_ghost ((ghost_keep2 [0] [.loc 1] rfl rfl).trans (ghost_renL2 (.loc 1) (.res 0) rfl rfl rfl rfl)) ?_
  exact q_done (q_ret (resT_one rfl (AVLE.refl _)) (stHas_spec ⟨rfl, trivial⟩))
set_option maxHeartbeats 2000000 in
theorem protocol_spec (s : ByteArray) (hs : s.size ≤ 1000000000) : Spec Tryd.prog 25 [.t (.str s)] [] (.t (.bool (isUp s))) [] := by
  have hls := ba_len2 s
  refine spec_intro (env0 := [(0, _)]) (st0 := []) Tryd.func25 rfl rfl rfl rfl ?_
  repeat' (first | (with_reducible refine codeT_seq ?_) | (with_reducible refine codeT_block ?_) | (with_reducible refine codeT_regionL ?_) | (with_reducible refine lx_nil ?_) | (with_reducible refine q_then ?_) | ((with_reducible refine g_move ?_); first | refine lx_move (r := (.t _)) rfl rfl rfl rfl rfl ?_) | ((with_reducible refine g_assign ?_); first | refine lx_assign (r := (.t _)) rfl rfl rfl rfl rfl ?_) | ((with_reducible refine g_range ?_); first | refine lx_range_str rfl rfl rfl rfl rfl rfl ?_))
  refine codeT_ghost (ghost_keep2 [0, 6] [.loc 6] rfl rfl) ?_
  refine codeT_loop (fun p env st => ∃ (j : Nat), j ≤ s.size ∧ p = s.size - j ∧ (∀ i, i < j → decide (65 ≤ (s.data.toList.getD i default).toNat ∧ (s.data.toList.getD i default).toNat ≤ 90) = true) ∧
      env = EnvL.get [(0, .t (.str s)), (6, .ref (.loc 6) 0 0 0)] ∧ st = StO.get [(.loc 6, some (.dat (.siter s j)))])
    ?_ (n := s.size) ⟨0, by omega, rfl, fun i hi => by omega, rfl, rfl⟩
  rintro p env st ⟨j, hj, rfl, hall, rfl, rfl⟩
  by_cases hlt : j < s.size
  · obtain ⟨d1, d2⟩ := dec_up s j hlt
    by_cases hin : 65 ≤ (Utf8.decode s j).1 ∧ (Utf8.decode s j).1 ≤ 90
    · obtain ⟨e1, e2⟩ := d1 hin
      repeat' (first | (with_reducible refine codeT_seq ?_) | (with_reducible refine codeT_block ?_) | (with_reducible refine codeT_skip ?_) | (with_reducible refine codeT_regionL ?_) | (with_reducible refine lx_nil ?_) | (with_reducible refine q_then ?_) | (with_reducible refine q_block ?_) | refine c_condT rfl ?_ | (exfalso; omega) | ((with_reducible refine g_move ?_); first | refine lx_move (r := (.t _)) rfl rfl rfl rfl rfl ?_) | ((with_reducible refine g_binOp ?_); first | refine lx_arith rfl rfl rfl rfl rfl rfl rfl ?_) | ((with_reducible refine g_assign ?_); first | refine lx_assign (r := (.t _)) rfl rfl rfl rfl rfl ?_) | ((with_reducible refine g_pick ?_); first | refine lx_pickF (r := (.t _)) rfl rfl rfl rfl rfl rfl ?_) | ((with_reducible refine g_extract ?_); first | refine lx_extract rfl rfl rfl rfl rfl rfl ?_) | ((with_reducible refine g_next ?_); first | refine lx_next_strT rfl rfl rfl rfl rfl rfl ?_ ?_) | refine c_condP rfl (fun hc => ?_) (fun hc => ?_) | refine lx_splitP rfl (fun hc => ?_) (fun hc => ?_))
      all_goals try omega
      exact q_loop (n' := s.size - (j + 1)) (by omega) (ghost_keep2 [0, 6] [.loc 6] rfl rfl) ⟨j + 1, by omega, rfl, fun i hi => by
        rcases Nat.lt_or_ge i j with h | h
        · exact hall i h
        · obtain rfl : i = j := by omega
          rw [e2]; exact decide_eq_true hin, rfl, by rw [e1]; rfl⟩
    · have hF : isUp s = false := by
        unfold isUp
        rw [all_split s.data.toList _ j (by omega) (decide_eq_false (d2 hin)), Bool.and_false]
      rw [hF]
      repeat' (first | (with_reducible refine codeT_seq ?_) | (with_reducible refine codeT_block ?_) | (with_reducible refine codeT_skip ?_) | (with_reducible refine codeT_ret ?_) | (with_reducible refine codeT_regionL ?_) | (with_reducible refine lx_nil ?_) | (with_reducible refine q_then ?_) | (with_reducible refine q_then_ret ?_) | (with_reducible refine q_block ?_) | (with_reducible refine q_block_ret ?_) | (with_reducible refine q_loop_ret ?_) | refine c_condT rfl ?_ | (exfalso; omega) | ((with_reducible refine g_guard ?_); first | refine lx_skip rfl rfl rfl ?_) | ((with_reducible refine g_move ?_); first | refine lx_move (r := (.t _)) rfl rfl rfl rfl rfl ?_) | ((with_reducible refine g_binOp ?_); first | refine lx_arith rfl rfl rfl rfl rfl rfl rfl ?_) | ((with_reducible refine g_assign ?_); first | refine lx_assign (r := (.t _)) rfl rfl rfl rfl rfl ?_) | ((with_reducible refine g_pick ?_); first | refine lx_pickT (r := (.t _)) rfl rfl rfl rfl rfl rfl ?_ | refine lx_pickF (r := (.t _)) rfl rfl rfl rfl rfl rfl ?_) | ((with_reducible refine g_extract ?_); first | refine lx_extract rfl rfl rfl rfl rfl rfl ?_) | ((with_reducible refine g_next ?_); first | refine lx_next_strT rfl rfl rfl rfl rfl rfl ?_ ?_) | refine c_condP rfl (fun hc => ?_) (fun hc => ?_) | refine lx_splitP rfl (fun hc => ?_) (fun hc => ?_))
      all_goals try omega
      all_goals exact q_ret (resT_oneE rfl rfl rfl) (by simp)
  · repeat' (first | (with_reducible refine codeT_seq ?_) | (with_reducible refine codeT_ret ?_) | (with_reducible refine codeT_exit ?_) | (with_reducible refine codeT_regionL ?_) | (with_reducible refine lx_nil ?_) | (with_reducible refine q_then ?_) | (with_reducible refine q_then_exit ?_) | ((with_reducible refine q_block_same ?_ ?_); · rfl) | (with_reducible refine q_loop_exit ?_) | refine c_condF rfl ?_ | refine lx_next_strF rfl rfl rfl rfl rfl rfl hlt ?_ | ((with_reducible refine g_move ?_); first | refine lx_move (r := (.t _)) rfl rfl rfl rfl rfl ?_) | ((with_reducible refine g_binOp ?_); first | refine lx_arith rfl rfl rfl rfl rfl rfl rfl ?_) | ((with_reducible refine g_assign ?_); first | refine lx_assign (r := (.t _)) rfl rfl rfl rfl rfl ?_) | ((with_reducible refine g_extract ?_); first | refine lx_extract rfl rfl rfl rfl rfl rfl ?_) | ((with_reducible refine g_len ?_); first | refine lx_len_str rfl rfl rfl rfl rfl ?_))
    all_goals try omega
    refine q_ret (resT_oneE rfl rfl (congrArg T.bool ?_)) (by simp)
    unfold isUp
    rw [all_of _ _ fun i hi => hall i (by omega), Bool.and_true]
    exact decide_eq_decide.2 (by omega)
set_option maxHeartbeats 2000000 in
theorem number_spec {oS oR oD : Obj} (G : GOk oS oR oD) (s : ByteArray) (hs : s.size ≤ 1000000000) (h0 : s ≠ ⟨#[]⟩) : Spec Tryd.prog 27 [.t (.str s)] [(.par 100, .dat (.fix 1 oS)), (.par 101, .dat (.fix 2 oR)), (.par 102, .dat (.fix 5 oD))] (.t (.int .i64 (numI s))) [(.par 100, .dat (.fix 1 oS)), (.par 101, .dat (.fix 2 oR)), (.par 102, .dat (.fix 5 oD))] := by
  have h := ParseUint_spec G s hs h0 32 4294967295 (by omega) (by omega) (by decide +kernel)
  have hb := pgo_le 4294967295 s.data.toList 0
  unfold numI
  generalize pgo 4294967295 s.data.toList 0 = R at *
  cases R with
  | ok n =>
    have hn := hb n (by omega) rfl
    simp only at h ⊢
    refine spec_intro (env0 := [(0, _)]) (st0 := [(_, some _), (_, some _), (_, some _)]) Tryd.func27 rfl rfl rfl rfl ?_
    repeat' (first | (with_reducible refine codeT_seq ?_) | (with_reducible refine codeT_skip ?_) | (with_reducible refine codeT_ret ?_) | (with_reducible refine codeT_regionL ?_) | (with_reducible refine lx_nil ?_) | (with_reducible refine q_then ?_) | refine c_condF rfl ?_ | ((with_reducible refine g_move ?_); first | refine lx_move (r := (.t _)) rfl rfl rfl rfl rfl ?_ | refine lx_move (r := (.tup _)) rfl rfl rfl rfl rfl ?_) | ((with_reducible refine g_assign ?_); first | refine lx_assign (r := (.t _)) rfl rfl rfl rfl rfl ?_) | ((with_reducible refine g_convert ?_); first | refine lx_conv_int rfl rfl rfl rfl rfl ?_) | ((with_reducible refine g_extract ?_); first | refine lx_extract rfl rfl rfl rfl rfl rfl ?_) | ((with_reducible refine g_call ?_); first | refine lx_call (r' := (.tup [.t (.int .u64 (n : Int)), .t .nili])) [] rfl rfl h (ArgsLE.refl _) rfl ⟨rfl, rfl, rfl, trivial⟩ rfl rfl rfl rfl rfl rfl rfl rfl rfl rfl ?_) | ((with_reducible refine g_binOp ?_); first | refine lx_ifnil_ne rfl rfl rfl rfl rfl rfl ?_))
    exact q_ret (resT_oneE rfl rfl (congrArg (T.int .i64) (wrap64 (by omega) (by omega)))) (stHas_spec ⟨rfl, rfl, rfl, trivial⟩)
  | error k =>
    simp only at h ⊢
    refine spec_intro (env0 := [(0, _)]) (st0 := [(_, some _), (_, some _), (_, some _)]) Tryd.func27 rfl rfl rfl rfl ?_
    repeat' (first | (with_reducible refine codeT_seq ?_) | (with_reducible refine codeT_ret ?_) | (with_reducible refine codeT_regionL ?_) | (with_reducible refine lx_nil ?_) | (with_reducible refine q_then ?_) | (with_reducible refine q_then_ret ?_) | refine c_condT rfl ?_ | ((with_reducible refine g_move ?_); first | refine lx_move (r := (.t _)) rfl rfl rfl rfl rfl ?_ | refine lx_move (r := (.tup _)) rfl rfl rfl rfl rfl ?_) | ((with_reducible refine g_assign ?_); first | refine lx_assign (r := (.t _)) rfl rfl rfl rfl rfl ?_ | refine lx_assign (r := .junk) rfl rfl rfl rfl rfl ?_) | ((with_reducible refine g_extract ?_); first | refine lx_extract rfl rfl rfl rfl rfl rfl ?_) | ((with_reducible refine g_call ?_); first | refine lx_call (r' := (.tup [.junk, .t .iface])) [] rfl rfl h (ArgsLE.refl _) rfl ⟨rfl, rfl, rfl, trivial⟩ rfl rfl rfl rfl rfl rfl rfl rfl rfl rfl ?_) | ((with_reducible refine g_binOp ?_); first | refine lx_ifnil_ne rfl rfl rfl rfl rfl rfl ?_))
    exact q_ret (resT_oneE rfl rfl rfl) (stHas_spec ⟨rfl, rfl, rfl, trivial⟩)
end Go.AL
