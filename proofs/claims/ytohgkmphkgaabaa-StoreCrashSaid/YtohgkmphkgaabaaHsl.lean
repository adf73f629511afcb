/- What the laws' makers of journals answer: Word, filled, awake. -/
import Derived.Test.YtohgkmphkgaabaaHsk
set_option linter.unusedVariables false
namespace Go.AL
open Go Go.Proofs Go.RowKit

set_option maxHeartbeats 1000000 in
theorem Word_spec (d : Dc) (l : List ByteArray) (h0 : 1 ≤ l.length) (h : l.length ≤ 1000) (hd : d.l.length ≤ 1000) :
    Spec Try.prog 79 [.ref (.par 0) 0 0 0, .row (.par 1)] [(.par 0, d.row), (.par 1, .slt 9 1 (l.map .str))] (.t (.str (d.word l).1)) [(.par 0, (d.word l).2.row), (.par 1, .slt 9 1 (l.map .str))] := by
  have hn := Next_spec d l.length (by omega) hd
  have hlt := d.next_lt l.length (by omega)
  unfold Dc.word
  simp only
  generalize d.next l.length = q at *
  obtain ⟨v, d2⟩ := q
  simp only at *
  have hg : (l.map T.str)[v.toNat]? = some (.str (l.getD v.toNat default)) := by
    rw [List.getElem?_map, List.getElem?_eq_getElem (by omega)]
    simp [List.getD_eq_getElem?_getD, show v.toNat < l.length by omega]
  refine spec_intro (env0 := [(0, _), (1, _)]) (st0 := [(_, some _), (_, some _)]) Try.func79 rfl rfl rfl rfl ?_
  repeat' (first | (with_reducible refine codeT_seq ?_) | (with_reducible refine codeT_ret ?_) | (with_reducible refine codeT_regionL ?_) | (with_reducible refine lx_nil ?_) | (with_reducible refine q_then ?_) | ((with_reducible refine g_move ?_); first | refine lx_move (r := (.ref _ _ _ _)) rfl rfl rfl rfl rfl ?_ | refine lx_move (r := (.row _)) rfl rfl rfl rfl rfl ?_) | ((with_reducible refine g_load ?_); first | refine lx_load_elsM rfl rfl rfl rfl rfl rfl rfl rfl ?_ ?_) | ((with_reducible refine g_assign ?_); first | refine lx_assign (r := (.t _)) rfl rfl rfl rfl rfl ?_) | ((with_reducible refine g_indexAddr ?_); first | refine lx_indexAddr_row rfl rfl rfl rfl rfl rfl rfl ?_ ?_ ?_) | ((with_reducible refine g_len ?_); first | refine lx_len_rowmap rfl rfl rfl rfl rfl rfl ?_) | ((with_reducible refine g_call ?_); first | refine lx_call (r' := .t (.int .i64 v)) [] rfl rfl hn (ArgsLE.refl _) rfl ⟨rfl, trivial⟩ rfl rfl rfl rfl rfl rfl rfl rfl rfl rfl ?_))
  all_goals try (simp only [List.length_map]; omega)
  all_goals try omega
  exact q_ret (resT_oneE rfl rfl rfl) (stHas_spec ⟨rfl, rfl, trivial⟩)
set_option maxHeartbeats 4000000 in
theorem filled_spec (d0 : Dc) (hd0 : d0.l.length ≤ 1000) : Spec Try.prog 47 [.ref (.par 0) 0 0 0] [(.par 0, d0.row)] (.tup [.t (.agg [.str (recsS ⟨#[]⟩ (fillL (d0.next 6).1.toNat (d0.next 6).2 []).1)]), .t (.sl 1 ((fillL (d0.next 6).1.toNat (d0.next 6).2 []).1.map .str))]) [(.par 0, (fillL (d0.next 6).1.toNat (d0.next 6).2 []).2.row)] := by
  have hN := Next_spec d0 6 (by omega) hd0
  have hlt := d0.next_lt 6 (by omega)
  have hdl : (d0.next 6).2.l.length ≤ 1000 := by rw [Dc.next_l]; exact hd0
  generalize d0.next 6 = q at hN hlt hdl ⊢
  obtain ⟨k0, d1⟩ := q
  simp only at hN hlt hdl ⊢
  obtain ⟨k, rfl⟩ : ∃ k : Nat, k0 = k := ⟨k0.toNat, by omega⟩
  rw [Int.toNat_natCast]
  generalize hres : fillL k d1 [] = res
  obtain ⟨L, D⟩ := res
  simp only
  unfold Dc.row at hN ⊢
  refine spec_introG (env0 := [(0, _)]) (st0 := [(_, some _)]) Try.func47 rfl rfl rfl rfl ?_
  repeat' (first | (with_reducible refine codeT_seq ?_) | (with_reducible refine codeT_block ?_) | (with_reducible refine codeT_regionL ?_) | (with_reducible refine lx_nil ?_) | (with_reducible refine q_then ?_) | ((with_reducible refine g_move ?_); first | refine lx_move (r := (.ref _ _ _ _)) rfl rfl rfl rfl rfl ?_) | ((with_reducible refine g_assign ?_); first | refine lx_assign (r := (.t _)) rfl rfl rfl rfl rfl ?_) | ((with_reducible refine g_alloc ?_); first | refine lx_alloc rfl rfl rfl rfl rfl rfl rfl ?_) | ((with_reducible refine g_call ?_); first | refine lx_call (r' := .t (.int .i64 (k : Int))) [] rfl rfl hN (ArgsLE.refl _) rfl ⟨rfl, trivial⟩ rfl rfl rfl rfl rfl rfl rfl rfl rfl rfl ?_))
  refine codeT_ghost (ghost_nilL 5 (.loc 900) 9 1 rfl rfl rfl) ?_
  refine codeT_ghost (ghost_keep2 [0, 2, 4, 5, 6] [.par 0, .loc 2, .loc 4, .loc 900] rfl rfl) ?_
  refine codeT_loop (fun p env st => ∃ (j : Nat) (d : Dc) (l : List ByteArray), p = j ∧ l.length + j ≤ 10 ∧ (∀ b ∈ l, b.size ≤ 22) ∧ d.l.length ≤ 1000 ∧ fillL j d l = (L, D) ∧
      env = EnvL.get [(0, .ref (.par 0) 0 0 0), (2, .ref (.loc 2) 0 0 0), (4, .ref (.loc 4) 0 0 0), (5, .row (.loc 900)), (6, .t (.int .i64 (j : Int)))] ∧
      st = StO.get [(.par 0, some (.var 113 [.t (.sl 1 (d.l.map (T.int .i64))), .t (.int .i64 d.k)])), (.loc 2, some (.var 51 [.t (.str ⟨#[]⟩)])), (.loc 4, some (.var 51 [.t (.str (recsS ⟨#[]⟩ l))])), (.loc 900, some (.slt 9 1 (l.map .str)))])
    ?_ (n := k) ⟨k, d1, [], rfl, by simp; omega, by simp, hdl, hres, rfl, rfl⟩
  rintro p env st ⟨j, d, l, rfl, hj, hlz, hd, hr, rfl, rfl⟩
  cases p with
  | zero =>
    rw [fillL] at hr
    simp only [Prod.mk.injEq] at hr
    obtain ⟨rfl, rfl⟩ := hr
    repeat' (first | (with_reducible refine codeT_seq ?_) | (with_reducible refine codeT_ret ?_) | (with_reducible refine codeT_exit ?_) | (with_reducible refine codeT_regionL ?_) | (with_reducible refine lx_nil ?_) | (with_reducible refine q_then ?_) | (with_reducible refine q_then_exit ?_) | ((with_reducible refine q_block_same ?_ ?_); · rfl) | (with_reducible refine q_loop_exit ?_) | refine c_condF rfl ?_ | ((with_reducible refine g_move ?_); first | refine lx_move (r := (.t _)) rfl rfl rfl rfl rfl ?_ | refine lx_move (r := (.row _)) rfl rfl rfl rfl rfl ?_) | ((with_reducible refine g_load ?_); first | refine lx_load_varA (r := (.t (.agg _))) rfl rfl rfl rfl rfl rfl rfl rfl rfl ?_) | ((with_reducible refine g_binOp ?_); first | refine lx_arith rfl rfl rfl rfl rfl rfl rfl ?_) | ((with_reducible refine g_assign ?_); first | refine lx_assign (r := (.row _)) rfl rfl rfl rfl rfl ?_) | ((with_reducible refine g_store ?_); first | refine lx_store_var (r := (.t (.agg _))) rfl rfl rfl rfl rfl rfl rfl rfl rfl rfl ?_))
    refine q_ghost (ghost_keep2 [2, 3] [.par 0, .loc 2, .loc 900] rfl rfl) ?_
    refine q_ghost (ghost_freezeL (id := .loc 900) rfl rfl rfl) ?_
    refine q_done ?_
    refine q_ret ?_ (stHas_spec ⟨rfl, trivial⟩); refine resT_cell_tmp rfl rfl rfl inferInstance rfl inferInstance rfl ?_ ?_; exact TLe.av (by repeat first | exact TLe.refl _ | exact TLe.nil _ | exact TLe.esl _ | refine TLe.agg ?_ | refine TLs.cons ?_ ?_ | exact TLs.nil); exact AVLE.refl _
  | succ j =>
    rw [fillL] at hr
    have hW := Word_spec d ws43 (by decide) (by decide) hd
    have hws : (d.word ws43).1.size ≤ 22 := word43_size d
    have hwl : (d.word ws43).2.l.length ≤ 1000 := by rw [Dc.word_l]; exact hd
    generalize d.word ws43 = y at hW hr hws hwl
    obtain ⟨b, d2⟩ := y
    simp only at hW hr hws hwl
    have hzr := recsS_max (B := 22) l ⟨#[]⟩ hlz
    have z0 : (⟨#[]⟩ : ByteArray).size = 0 := rfl
    have hA := qAppend_spec (recsS ⟨#[]⟩ l) b (by omega) (by omega)
    rw [← recsS_snoc] at hA
    unfold Dc.row ws43 at hW
    simp only [List.map_cons, List.map_nil] at hW
    repeat' (first | (with_reducible refine codeT_seq ?_) | (with_reducible refine codeT_block ?_) | (with_reducible refine codeT_skip ?_) | (with_reducible refine codeT_exit ?_) | (with_reducible refine codeT_regionL ?_) | (with_reducible refine lx_nil ?_) | (with_reducible refine q_then ?_) | (with_reducible refine q_then_exit ?_) | (with_reducible refine q_block ?_) | ((with_reducible refine q_block_same ?_ ?_); · rfl) | (with_reducible refine q_loop_exit ?_) | (exfalso; omega) | ((with_reducible refine g_move ?_); first | refine lx_move (r := (.t _)) rfl rfl rfl rfl rfl ?_ | refine lx_move (r := (.ref _ _ _ _)) rfl rfl rfl rfl rfl ?_ | refine lx_move (r := (.row _)) rfl rfl rfl rfl rfl ?_ | refine lx_move (r := (.tup _)) rfl rfl rfl rfl rfl ?_) | ((with_reducible refine g_load ?_); first | refine lx_load_varA (r := (.t (.agg _))) rfl rfl rfl rfl rfl rfl rfl rfl rfl ?_) | ((with_reducible refine g_binOp ?_); first | refine lx_arith rfl rfl rfl rfl rfl rfl rfl ?_) | ((with_reducible refine g_assign ?_); first | refine lx_assign (r := (.t _)) rfl rfl rfl rfl rfl ?_ | refine lx_assign (r := (.row _)) rfl rfl rfl rfl rfl ?_) | ((with_reducible refine g_store ?_); first | refine lx_store_var (r := (.t (.agg _))) rfl rfl rfl rfl rfl rfl rfl rfl rfl rfl ?_) | ((with_reducible refine g_extract ?_); first | refine lx_extract rfl rfl rfl rfl rfl rfl ?_) | ((with_reducible refine g_buildSlice ?_); first | refine lx_buildSlice rfl rfl rfl rfl rfl rfl rfl ?_) | ((with_reducible refine g_append ?_); first | refine lx_append_row rfl rfl rfl rfl rfl rfl rfl rfl rfl rfl ?_ ?_ ?_) | ((with_reducible refine g_call ?_); first | refine lx_call (r' := .t (.str b)) [(.par 1, .loc 15)] rfl rfl hW (ArgsLE.refl _) rfl ⟨rfl, rfl, trivial⟩ rfl rfl rfl rfl rfl rfl rfl rfl rfl rfl ?_ | refine lx_callT rfl rfl hA rfl rfl (ArgsLE.refl _) rfl rfl rfl rfl rfl ?_) | refine c_condP rfl (fun hc => ?_) (fun hc => ?_))
    all_goals try omega
    all_goals try (simp only [List.length_map, List.length_singleton]; omega)
    refine q_loop (n' := j) (by omega) ((ghost_keep2 [0, 2, 4, 5, 6] [.par 0, .loc 2, .loc 4, .loc 26] rfl rfl).trans (ghost_renL2 (.loc 26) (.loc 900) rfl rfl rfl rfl)) ⟨j, d2, l ++ [b], rfl, by simp; omega, ?_, hwl, hr, ?_, ?_⟩
    · intro x hx
      rcases List.mem_append.1 hx with h | h
      · exact hlz x h
      · rw [List.mem_singleton.1 h]; exact hws
    · rw [wrap64 (by omega) (by omega), show ((j + 1 : Nat) : Int) - 1 = (j : Int) by omega]; rfl
    · rw [List.map_append]; rfl
end Go.AL
/- What the check of the journals' laws answers. -/
set_option linter.unusedVariables false
namespace Go.AL
open Go Go.Proofs Go.RowKit

set_option maxHeartbeats 8000000 in
theorem awake43_spec : Spec Try.prog 46 [] [] (.t (.bool true)) [] := by
  obtain ⟨a, ha⟩ : ∃ a : ByteArray, a = ⟨#[109, 105, 108, 108]⟩ := ⟨_, rfl⟩
  obtain ⟨b, hb⟩ : ∃ b : ByteArray, b = ⟨#[102, 111, 114, 100]⟩ := ⟨_, rfl⟩
  have za : a.size = 4 := by rw [ha]; rfl
  have zb : b.size = 4 := by rw [hb]; rfl
  have z0 : (⟨#[]⟩ : ByteArray).size = 0 := rfl
  have h1 := Append_spec ⟨#[]⟩ a (by omega) (by omega)
  have s1 := appS_size ⟨#[]⟩ a
  have h2 := Append_spec (appS ⟨#[]⟩ a) b (by omega) (by omega)
  have s2 := appS_size (appS ⟨#[]⟩ a) b
  have h3 := Read_spec (appS (appS ⟨#[]⟩ a) b) (by omega)
  have r3 : readS (appS (appS ⟨#[]⟩ a) b) = ([a, b], (appS (appS ⟨#[]⟩ a) b).size) := readS_all [a, b] (fun x hx => by
    simp only [List.mem_cons, List.not_mem_nil, or_false] at hx
    rcases hx with rfl | rfl <;> omega)
  rw [r3] at h3
  have r4 : readS ((appS (appS ⟨#[]⟩ a) b).extract 0 (31 : Int).toNat ++ ⟨#[]⟩) = ([a], (appS ⟨#[]⟩ a).size) := by
    have e : ∀ x : ByteArray, x ++ ⟨#[]⟩ = x := fun x => ByteArray.append_empty
    rw [e]
    exact torn_read [a] b (fun x hx => by
      rw [List.mem_singleton.1 hx]; omega) (by omega) 31 (by show (appS ⟨#[]⟩ a).size ≤ 31; omega) (by show 31 < (appS (appS ⟨#[]⟩ a) b).size; omega)
  have h4 := Crash_spec (appS (appS ⟨#[]⟩ a) b) ⟨#[]⟩ 31 (by omega) (by omega) (by omega) (by omega)
  have h5 := Read_spec ((appS (appS ⟨#[]⟩ a) b).extract 0 (31 : Int).toNat ++ ⟨#[]⟩) (by rw [ByteArray.size_append, ByteArray.size_extract]; omega)
  rw [r4] at h5
  generalize (appS (appS ⟨#[]⟩ a) b).extract 0 (31 : Int).toNat ++ ⟨#[]⟩ = X3 at h4 h5
  clear r3 r4
  generalize appS (appS ⟨#[]⟩ a) b = X2 at *
  generalize appS ⟨#[]⟩ a = X1 at *
  have e16 : (X1.size : Int) = 16 := by omega
  have e31 : (31 : Int) = IntKind.i64.wrap ((X2.size : Int) - 1) := by rw [wrap64 (by omega) (by omega)]; omega
  simp only [List.map_cons, List.map_nil] at h3 h5
  rw [e31] at h4
  rw [ha] at h1
  rw [hb] at h2
  refine spec_intro (env0 := []) (st0 := []) Try.func46 rfl rfl rfl rfl ?_
  repeat' (first | (with_reducible refine codeT_seq ?_) | (with_reducible refine codeT_ret ?_) | (with_reducible refine codeT_regionL ?_) | (with_reducible refine lx_nil ?_) | (with_reducible refine q_then ?_) | exact absurd ha ‹_› | ((with_reducible refine g_move ?_); first | refine lx_move (r := (.t _)) rfl rfl rfl rfl rfl ?_ | refine lx_move (r := (.tup _)) rfl rfl rfl rfl rfl ?_) | ((with_reducible refine g_load ?_); first | refine lx_load_var rfl rfl rfl rfl rfl rfl rfl rfl ?_ | refine lx_load_varA (r := (.t (.agg _))) rfl rfl rfl rfl rfl rfl rfl rfl rfl ?_ | refine lx_load_tp rfl rfl rfl rfl rfl rfl rfl ?_) | ((with_reducible refine g_fieldAddr ?_); first | refine lx_fieldAddr rfl rfl rfl rfl rfl rfl rfl ?_) | ((with_reducible refine g_binOp ?_); first | refine lx_arith rfl rfl rfl rfl rfl rfl rfl ?_ | refine lx_str_eq rfl rfl rfl rfl rfl rfl ?_) | ((with_reducible refine g_assign ?_); first | refine lx_assign (r := (.t _)) rfl rfl rfl rfl rfl ?_) | ((with_reducible refine g_pick ?_); first | refine lx_pickT (r := (.t _)) rfl rfl rfl rfl rfl rfl ?_) | ((with_reducible refine g_alloc ?_); first | refine lx_alloc rfl rfl rfl rfl rfl rfl rfl ?_) | ((with_reducible refine g_store ?_); first | refine lx_store_var (r := (.t (.agg _))) rfl rfl rfl rfl rfl rfl rfl rfl rfl rfl ?_) | ((with_reducible refine g_indexAddr ?_); first | refine lx_indexAddr_sl rfl rfl rfl rfl rfl rfl ?_ ?_ ?_) | ((with_reducible refine g_extract ?_); first | refine lx_extract rfl rfl rfl rfl rfl rfl ?_) | ((with_reducible refine g_build ?_); first | refine lx_build (r := (.t (.agg _))) rfl rfl rfl rfl rfl rfl rfl ?_) | ((with_reducible refine g_len ?_); first | refine lx_len_sl rfl rfl rfl rfl rfl ?_ | refine lx_len_str rfl rfl rfl rfl rfl ?_) | ((with_reducible refine g_call ?_); first | refine lx_callT rfl rfl h1 rfl rfl (ArgsLE.refl _) rfl rfl rfl rfl rfl ?_ | refine lx_callT rfl rfl h2 rfl rfl (ArgsLE.refl _) rfl rfl rfl rfl rfl ?_ | refine lx_callT rfl rfl h3 rfl rfl (ArgsLE.refl _) rfl rfl rfl rfl rfl ?_ | refine lx_callT rfl rfl h4 rfl rfl (ArgsLE.refl _) rfl rfl rfl rfl rfl ?_ | refine lx_callT rfl rfl h5 rfl rfl (ArgsLE.refl _) rfl rfl rfl rfl rfl ?_) | refine lx_splitP rfl (fun hc => ?_) (fun hc => ?_))
  all_goals try (exact absurd rfl hc)
  all_goals try (exact absurd ha hc)
  all_goals try omega
  all_goals try (exact (by decide : (0 : Int) < 1))
  exact q_ret (resT_oneE rfl rfl (by simp [e16])) (by simp)
end Go.AL
/- That the law StoreCrash is true, as a contract. -/
set_option linter.unusedVariables false
namespace Go.AL
open Go Go.Proofs Go.RowKit

theorem cut_map (K : List ByteArray) (w : Nat) : (((K.map T.str).take ((w : Nat) : Int).toNat).drop (Int.toNat 0)) = (K.take w).map T.str := by
  rw [Int.toNat_natCast, ← List.map_take]; rfl
set_option maxHeartbeats 16000000 in
theorem StoreCrash_spec (l : List Int) (safe : Int) (torn : ByteArray) : Spec Try.prog 11 [.t (.sl 1 (l.map (T.int .i64))), .t (.int .u8 safe), .t (.str torn)] [] (.t (.bool true)) [] := by
  have hA := awake43_spec
  have hLi := Light_spec l
  by_cases hl : (l.length : Int) ≤ 500
  · rw [decide_eq_true hl] at hLi
    by_cases hs : 2000 < (torn.size : Int)
    · refine spec_intro (env0 := [(0, _), (1, _), (2, _)]) (st0 := []) Try.func11 rfl rfl rfl rfl ?_
      repeat' (first | (with_reducible refine codeT_seq ?_) | (with_reducible refine codeT_skip ?_) | (with_reducible refine codeT_ret ?_) | (with_reducible refine codeT_regionL ?_) | (with_reducible refine lx_nil ?_) | (with_reducible refine q_then ?_) | (with_reducible refine q_then_ret ?_) | (exfalso; omega) | ((with_reducible refine g_move ?_); first | refine lx_move (r := (.t _)) rfl rfl rfl rfl rfl ?_) | ((with_reducible refine g_binOp ?_); first | refine lx_arith rfl rfl rfl rfl rfl rfl rfl ?_) | ((with_reducible refine g_assign ?_); first | refine lx_assign (r := (.t _)) rfl rfl rfl rfl rfl ?_) | ((with_reducible refine g_pick ?_); first | refine lx_pickF (r := (.t _)) rfl rfl rfl rfl rfl rfl ?_) | ((with_reducible refine g_unOp ?_); first | refine lx_not rfl rfl rfl rfl rfl ?_) | ((with_reducible refine g_len ?_); first | refine lx_len_str rfl rfl rfl rfl rfl ?_) | ((with_reducible refine g_call ?_); first | refine lx_callT rfl rfl hLi rfl rfl (ArgsLE.refl _) rfl rfl rfl rfl rfl ?_ | refine lx_callT rfl rfl hA rfl rfl (ArgsLE.refl _) rfl rfl rfl rfl rfl ?_) | refine c_condP rfl (fun hc => ?_) (fun hc => ?_))
      all_goals exact q_ret (resT_oneE rfl rfl rfl) (by simp)
    · have hR := Roll_spec l
      have hF := filled_spec (Dc.mk l 0) (by show l.length ≤ 1000; omega)
      have hk : ((Dc.mk l 0).next 6).1.toNat ≤ 5 := by have := (Dc.mk l 0).next_lt 6 (by omega); omega
      have hfo := fillL_ok ((Dc.mk l 0).next 6).1.toNat ((Dc.mk l 0).next 6).2 [] (by simp)
      generalize ((Dc.mk l 0).next 6).1.toNat = kk at hF hfo hk
      generalize fillL kk ((Dc.mk l 0).next 6).2 [] = fl at hF hfo
      obtain ⟨L, D⟩ := fl
      simp only [List.length_nil] at hF hfo
      obtain ⟨hLl, hLb⟩ := hfo
      have hmax := recsS_max L ⟨#[]⟩ hLb
      have z0 : (⟨#[]⟩ : ByteArray).size = 0 := rfl
      have hmx : (recsS ⟨#[]⟩ L).size ≤ 1000 := by
        have : L.length * (12 + 22) ≤ 5 * (12 + 22) := Nat.mul_le_mul_right _ (by omega)
        omega
      have hLb' : ∀ b ∈ L, b.size ≤ 1048576 := fun b hb => by have := hLb b hb; omega
      have hM := Mod_spec (IntKind.i64.wrap safe) (IntKind.i64.wrap (((recsS ⟨#[]⟩ L).size : Int) + 1)) (by rw [wrap64 (by omega) (by omega)]; omega)
      have hMl := modI_lt (IntKind.i64.wrap safe) (IntKind.i64.wrap (((recsS ⟨#[]⟩ L).size : Int) + 1)) (by rw [wrap64 (by omega) (by omega)]; omega)
      have ws : IntKind.i64.wrap (((recsS ⟨#[]⟩ L).size : Int) + 1) = ((recsS ⟨#[]⟩ L).size : Int) + 1 := wrap64 (by omega) (by omega)
      generalize modI (IntKind.i64.wrap safe) (IntKind.i64.wrap (((recsS ⟨#[]⟩ L).size : Int) + 1)) = n0 at hM hMl
      obtain ⟨n, rfl⟩ : ∃ n : Nat, n0 = n := ⟨n0.toNat, by omega⟩
      obtain ⟨S, hS⟩ : ∃ S, S = recsS ⟨#[]⟩ L := ⟨_, rfl⟩
      rw [← hS] at hF hM hMl hmx ws
      have hC := Crash_spec S torn (n : Int) (by omega) (by omega) (by omega) (by omega)
      have hcr := fun w h1 h2 => crash_read L hLb' torn n w h1 h2
      rw [← hS] at hcr
      have hxz : (S.extract 0 ((n : Int)).toNat ++ torn).size ≤ 3000 := by rw [ByteArray.size_append, ByteArray.size_extract]; omega
      rw [show S.extract 0 n = S.extract 0 ((n : Int)).toNat from rfl] at hcr
      generalize S.extract 0 ((n : Int)).toNat ++ torn = X at hC hcr hxz
      have hRx := Read_spec X (by omega)
      obtain ⟨q1, q2, q3, q4⟩ := readS_whole X
      have hWx := Whole_spec X (by omega) q2
      obtain ⟨new, hnew⟩ : ∃ x : ByteArray, x = ⟨#[110, 101, 119]⟩ := ⟨_, rfl⟩
      have zn : new.size = 3 := by rw [hnew]; rfl
      have hwa := whole_app X new (by omega)
      have hez : (X.extract 0 (readS X).2).size ≤ 3000 := by rw [ByteArray.size_extract]; omega
      have hAp := Append_spec (X.extract 0 (readS X).2) new (by omega) (by omega)
      have zAp := appS_size (X.extract 0 (readS X).2) new
      generalize X.extract 0 (readS X).2 = V at hWx hwa hez hAp zAp
      have hRy := Read_spec (appS V new) (by omega)
      rw [hwa] at hRy
      generalize appS V new = Y at hAp zAp hRy
      generalize readS X = rx at hRx q1 q2 hcr hRy
      obtain ⟨K, e⟩ := rx
      clear hwa q3 q4
      simp only at hRx hRy q1 q2 hcr
      rw [hnew] at hAp
      have hK : K.length ≤ 300 := by omega
      have hs2 := same43_spec K K (by omega)
      rw [decide_eq_true rfl] at hs2
      have hcK := cut_map (K ++ [new]) K.length
      rw [List.take_left'  rfl] at hcK
      have hmz : ((K ++ [new]).length : Int) = (K.length : Int) + 1 := by simp
      have hgn : (K ++ [new]).getD ((K.length : Int)).toNat default = ⟨#[110, 101, 119]⟩ := by rw [← hnew]; simp [List.getD_eq_getElem?_getD]
      generalize K ++ [new] = M at hRy hcK hmz hgn
      have wK : IntKind.i64.wrap ((K.length : Int) + 1) = (K.length : Int) + 1 := wrap64 (by omega) (by omega)
      refine spec_intro (env0 := [(0, _), (1, _), (2, _)]) (st0 := []) Try.func11 rfl rfl rfl rfl ?_
      repeat' (first | (with_reducible refine codeT_seq ?_) | (with_reducible refine codeT_block ?_) | (with_reducible refine codeT_skip ?_) | (with_reducible refine codeT_regionL ?_) | (with_reducible refine lx_nil ?_) | (with_reducible refine q_then ?_) | (exfalso; omega) | ((with_reducible refine g_move ?_); first | refine lx_move (r := (.t _)) rfl rfl rfl rfl rfl ?_ | refine lx_move (r := (.tup _)) rfl rfl rfl rfl rfl ?_) | ((with_reducible refine g_load ?_); first | refine lx_load_var rfl rfl rfl rfl rfl rfl rfl rfl ?_) | ((with_reducible refine g_fieldAddr ?_); first | refine lx_fieldAddr rfl rfl rfl rfl rfl rfl rfl ?_) | ((with_reducible refine g_binOp ?_); first | refine lx_arith rfl rfl rfl rfl rfl rfl rfl ?_) | ((with_reducible refine g_assign ?_); first | refine lx_assign (r := (.t _)) rfl rfl rfl rfl rfl ?_) | ((with_reducible refine g_pick ?_); first | refine lx_pickF (r := (.t _)) rfl rfl rfl rfl rfl rfl ?_) | ((with_reducible refine g_alloc ?_); first | refine lx_alloc rfl rfl rfl rfl rfl rfl rfl ?_) | ((with_reducible refine g_store ?_); first | refine lx_store_var (r := (.t (.agg _))) rfl rfl rfl rfl rfl rfl rfl rfl rfl rfl ?_) | ((with_reducible refine g_unOp ?_); first | refine lx_not rfl rfl rfl rfl rfl ?_) | ((with_reducible refine g_convert ?_); first | refine lx_conv_int rfl rfl rfl rfl rfl ?_) | ((with_reducible refine g_extract ?_); first | refine lx_extract rfl rfl rfl rfl rfl rfl ?_) | ((with_reducible refine g_len ?_); first | refine lx_len_map rfl rfl rfl rfl rfl ?_ | refine lx_len_str rfl rfl rfl rfl rfl ?_) | ((with_reducible refine g_call ?_); first | refine lx_callT rfl rfl hLi rfl rfl (ArgsLE.refl _) rfl rfl rfl rfl rfl ?_ | refine lx_call (r' := .ref (.loc 900) 0 0 0) [(.res 0, .loc 900)] rfl rfl hR (ArgsLE.refl _) rfl trivial rfl rfl rfl rfl rfl rfl rfl rfl rfl rfl ?_ | refine lx_call (r' := .tup [.t (.agg [.str S]), .t (.sl 1 (L.map .str))]) [(.par 0, .loc 900)] rfl rfl hF (ArgsLE.refl _) rfl ⟨rfl, trivial⟩ rfl rfl rfl rfl rfl rfl rfl rfl rfl rfl ?_ | refine lx_callT rfl rfl hM rfl rfl (ArgsLE.refl _) rfl rfl rfl rfl rfl ?_) | refine c_condP rfl (fun hc => ?_) (fun hc => ?_))
      all_goals try omega
      refine codeT_ghost (ghost_keep2 [2, 7, 8, 9, 10, 11, 43, 44, 45] [.loc 7] rfl rfl) ?_
      refine codeT_loop (fun p env st => ∃ (j w : Nat), j ≤ L.length ∧ p = L.length - j ∧ w ≤ j ∧ (recsS ⟨#[]⟩ (L.take w)).size ≤ n ∧
          env = EnvL.get [(2, .t (.str torn)), (7, .ref (.loc 7) 0 0 0), (8, .t (.sl 1 (L.map .str))), (9, .t (.int .i64 (n : Int))), (10, .t (.int .i64 (w : Int))), (11, .t (.int .i64 ((recsS ⟨#[]⟩ (L.take j)).size : Int))), (43, .t (.sl 1 (L.map .str))), (44, .t (.int .i64 (L.length : Int))), (45, .t (.int .i64 (j : Int)))] ∧
          st = StO.get [(.loc 7, some (.var 51 [.t (.str S)]))])
        ?_ (n := L.length) ⟨0, 0, by omega, rfl, by omega, by show (0 : Nat) ≤ n; omega, rfl, rfl⟩
      rintro p env st ⟨j, w, hj, rfl, hwj, hwn, rfl, rfl⟩
      by_cases hlt : j < L.length
      · have hbm : L.getD (j : Int).toNat default ∈ L := by
          rw [List.getD_eq_getElem?_getD, List.getElem?_eq_getElem (by omega)]; exact List.getElem_mem _
        have hbz := hLb _ hbm
        have hts := take_size L hlt
        rw [show L.getD j default = L.getD (j : Int).toNat default from rfl] at hts
        have htm := take_mono L (v := j) (w := L.length) hj
        rw [List.take_length, ← hS] at htm
        have htw := take_mono L (v := w + 1) (w := j + 1) (by omega)
        have htj := take_mono L (v := j + 1) (w := L.length) hlt
        rw [List.take_length, ← hS] at htj
        generalize hp : (recsS ⟨#[]⟩ (L.take j)).size = pj at *
        obtain ⟨bz, hbz'⟩ : ∃ bz, bz = (L.getD (j : Int).toNat default).size := ⟨_, rfl⟩
        rw [← hbz'] at hts hbz
        have x1 : IntKind.i64.wrap ((pj : Int) + 12) = (pj : Int) + 12 := wrap64 (by omega) (by omega)
        have x2 : IntKind.i64.wrap (IntKind.i64.wrap ((pj : Int) + 12) + ((L.getD (j : Int).toNat default).size : Int)) = (pj : Int) + 12 + (bz : Int) := by rw [x1, ← hbz']; exact wrap64 (by omega) (by omega)
        have x3 : IntKind.i64.wrap (12 + (bz : Int)) = 12 + (bz : Int) := wrap64 (by omega) (by omega)
        have x4 : IntKind.i64.wrap ((pj : Int) + IntKind.i64.wrap (12 + ((L.getD (j : Int).toNat default).size : Int))) = ((pj + 12 + bz : Nat) : Int) := by rw [← hbz', x3, wrap64 (by omega) (by omega)]; omega
        have x5 : IntKind.i64.wrap ((w : Int) + 1) = ((w + 1 : Nat) : Int) := by rw [wrap64 (by omega) (by omega)]; omega
        clear hM hMl hF hR hLi hC hRx hWx hAp hRy hs2 hcr hcK hgn
        repeat' (first | (with_reducible refine codeT_seq ?_) | (with_reducible refine codeT_block ?_) | (with_reducible refine codeT_skip ?_) | (with_reducible refine codeT_exit ?_) | (with_reducible refine codeT_regionL ?_) | (with_reducible refine lx_nil ?_) | (with_reducible refine q_then ?_) | (with_reducible refine q_then_exit ?_) | (with_reducible refine q_block ?_) | ((with_reducible refine q_block_same ?_ ?_); · rfl) | (with_reducible refine q_loop_exit ?_) | (exfalso; omega) | ((with_reducible refine g_move ?_); first | refine lx_move (r := (.t _)) rfl rfl rfl rfl rfl ?_) | ((with_reducible refine g_load ?_); first | refine lx_load_tp rfl rfl rfl rfl rfl rfl rfl ?_) | ((with_reducible refine g_binOp ?_); first | refine lx_arith rfl rfl rfl rfl rfl rfl rfl ?_) | ((with_reducible refine g_assign ?_); first | refine lx_assign (r := (.t _)) rfl rfl rfl rfl rfl ?_) | ((with_reducible refine g_indexAddr ?_); first | refine lx_indexAddr_map rfl rfl rfl rfl rfl rfl ?_ ?_ ?_) | ((with_reducible refine g_len ?_); first | refine lx_len_str rfl rfl rfl rfl rfl ?_) | refine c_condP rfl (fun hc => ?_) (fun hc => ?_))
        all_goals try omega
        · exact q_loop (n' := L.length - (j + 1)) (by omega) (ghost_keep2 [2, 7, 8, 9, 10, 11, 43, 44, 45] [.loc 7] rfl rfl) ⟨j + 1, w + 1, by omega, rfl, by omega, by omega, by rw [wrap64 (n := (j : Int) + 1) (by omega) (by omega), hts, x4, x5]; rfl, rfl⟩
        · exact q_loop (n' := L.length - (j + 1)) (by omega) (ghost_keep2 [2, 7, 8, 9, 10, 11, 43, 44, 45] [.loc 7] rfl rfl) ⟨j + 1, w, by omega, rfl, by omega, hwn, by rw [wrap64 (n := (j : Int) + 1) (by omega) (by omega), hts, x4]; rfl, rfl⟩
      · obtain rfl : j = L.length := by omega
        obtain ⟨c1, c2⟩ := hcr w hwj hwn
        have hs1 := same43_spec (K.take w) (L.take w) (by rw [List.length_take]; omega)
        rw [decide_eq_true c2] at hs1
        have e1 := congrArg (fun z => AV.t (.sl 1 z)) (cut_map K w)
        have e2 := congrArg (fun z => AV.t (.sl 1 z)) (cut_map L w)
        have e3 := congrArg (fun z => AV.t (.sl 1 z)) hcK
        have c1' : (w : Int) ≤ (K.length : Int) := by omega
        have c1'' : (w : Int) ≤ (L.length : Int) := by omega
        clear hM hMl hF hR hLi hcr hmax
        repeat' (first | (with_reducible refine codeT_seq ?_) | (with_reducible refine codeT_block ?_) | (with_reducible refine codeT_skip ?_) | (with_reducible refine codeT_ret ?_) | (with_reducible refine codeT_exit ?_) | (with_reducible refine codeT_regionL ?_) | ((with_reducible refine codeT_region_drawL ?_ ?_); · rfl) | (with_reducible refine lx_nil ?_) | (with_reducible refine q_then ?_) | (with_reducible refine q_then_exit ?_) | ((with_reducible refine q_block_same ?_ ?_); · rfl) | (with_reducible refine q_loop_exit ?_) | ((with_reducible refine q_region_draw ?_ ?_); · rfl) | refine c_condF rfl ?_ | (exfalso; omega) | ((with_reducible refine g_guard ?_); first | refine lx_skip rfl rfl rfl ?_) | ((with_reducible refine g_move ?_); first | refine lx_move (r := (.t _)) rfl rfl rfl rfl rfl ?_ | refine lx_move (r := (.tup _)) rfl rfl rfl rfl rfl ?_) | ((with_reducible refine g_load ?_); first | refine lx_load_var rfl rfl rfl rfl rfl rfl rfl rfl ?_ | refine lx_load_varA (r := (.t (.agg _))) rfl rfl rfl rfl rfl rfl rfl rfl rfl ?_ | refine lx_load_tp rfl rfl rfl rfl rfl rfl rfl ?_) | ((with_reducible refine g_fieldAddr ?_); first | refine lx_fieldAddr rfl rfl rfl rfl rfl rfl rfl ?_) | ((with_reducible refine g_binOp ?_); first | refine lx_arith rfl rfl rfl rfl rfl rfl rfl ?_ | refine lx_str_eq rfl rfl rfl rfl rfl rfl ?_) | ((with_reducible refine g_assign ?_); first | refine lx_assign (r := (.t _)) rfl rfl rfl rfl rfl ?_) | ((with_reducible refine g_pick ?_); first | refine lx_pickT (r := (.t _)) rfl rfl rfl rfl rfl rfl ?_ | refine lx_pickF (r := (.t _)) rfl rfl rfl rfl rfl rfl ?_) | ((with_reducible refine g_alloc ?_); first | refine lx_alloc rfl rfl rfl rfl rfl rfl rfl ?_) | ((with_reducible refine g_store ?_); first | refine lx_store_var (r := (.t (.agg _))) rfl rfl rfl rfl rfl rfl rfl rfl rfl rfl ?_) | ((with_reducible refine g_indexAddr ?_); first | refine lx_indexAddr_map rfl rfl rfl rfl rfl rfl ?_ ?_ ?_) | ((with_reducible refine g_unOp ?_); first | refine lx_not rfl rfl rfl rfl rfl ?_) | ((with_reducible refine g_extract ?_); first | refine lx_extract rfl rfl rfl rfl rfl rfl ?_) | ((with_reducible refine g_slice ?_); first | refine lx_slice_sl rfl rfl rfl ⟨_, rfl⟩ rfl rfl rfl ?_ ?_ ?_ ?_) | ((with_reducible refine g_len ?_); first | refine lx_len_map rfl rfl rfl rfl rfl ?_ | refine lx_len_str rfl rfl rfl rfl rfl ?_) | ((with_reducible refine g_call ?_); first | refine lx_callT rfl rfl hC rfl rfl (ArgsLE.refl _) rfl rfl rfl rfl rfl ?_ | refine lx_callT rfl rfl hRx rfl rfl (ArgsLE.refl _) rfl rfl rfl rfl rfl ?_ | refine lx_callT rfl rfl hWx rfl rfl (ArgsLE.refl _) rfl rfl rfl rfl rfl ?_ | refine lx_callT rfl rfl hAp rfl rfl (ArgsLE.refl _) rfl rfl rfl rfl rfl ?_ | refine lx_callT rfl rfl hRy rfl rfl (ArgsLE.refl _) rfl rfl rfl rfl rfl ?_ | refine lx_callT rfl rfl hs1 rfl rfl (.cons (AVLE.of_eq e1) (.cons (AVLE.of_eq e2) .nil)) rfl rfl rfl rfl rfl ?_ | refine lx_callT rfl rfl hs2 rfl rfl (.cons (AVLE.of_eq e3) (.cons (.refl _) .nil)) rfl rfl rfl rfl rfl ?_ | refine lx_callT rfl rfl hA rfl rfl (ArgsLE.refl _) rfl rfl rfl rfl rfl ?_) | refine c_condP rfl (fun hc => ?_) (fun hc => ?_) | refine lx_splitP rfl (fun hc => ?_) (fun hc => ?_))
        all_goals try (simp only [List.length_map]; omega)
        all_goals try (exact absurd hgn hc)
        all_goals try (exact absurd rfl hc)
        all_goals try omega
        exact q_ret (resT_oneE rfl rfl rfl) (by simp)
  · rw [decide_eq_false hl] at hLi
    refine spec_intro (env0 := [(0, _), (1, _), (2, _)]) (st0 := []) Try.func11 rfl rfl rfl rfl ?_
    repeat' (first | (with_reducible refine codeT_seq ?_) | (with_reducible refine codeT_ret ?_) | (with_reducible refine codeT_regionL ?_) | (with_reducible refine lx_nil ?_) | (with_reducible refine q_then ?_) | (with_reducible refine q_then_ret ?_) | refine c_condT rfl ?_ | ((with_reducible refine g_guard ?_); first | refine lx_skip rfl rfl rfl ?_) | ((with_reducible refine g_move ?_); first | refine lx_move (r := (.t _)) rfl rfl rfl rfl rfl ?_) | ((with_reducible refine g_assign ?_); first | refine lx_assign (r := (.t _)) rfl rfl rfl rfl rfl ?_) | ((with_reducible refine g_pick ?_); first | refine lx_pickT (r := (.t _)) rfl rfl rfl rfl rfl rfl ?_) | ((with_reducible refine g_unOp ?_); first | refine lx_not rfl rfl rfl rfl rfl ?_) | ((with_reducible refine g_call ?_); first | refine lx_callT rfl rfl hLi rfl rfl (ArgsLE.refl _) rfl rfl rfl rfl rfl ?_ | refine lx_callT rfl rfl hA rfl rfl (ArgsLE.refl _) rfl rfl rfl rfl rfl ?_))
    all_goals exact q_ret (resT_oneE rfl rfl rfl) (by simp)
end Go.AL
