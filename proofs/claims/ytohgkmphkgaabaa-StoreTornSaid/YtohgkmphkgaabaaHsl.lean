/- What the laws' makers of journals answer: Word, filled, awake. -/
import Derived.Test.YtohgkmphkgaabaaHsk
import Derived.Test.YtohgkmphkgaabaaAl3
set_option linter.unusedVariables false
namespace Go.AL
open Go Go.Proofs Go.RowKit

set_option maxHeartbeats 1000000 in
theorem Word_spec (d : Dc) (l : List ByteArray) (h0 : 1 ≤ l.length) (h : l.length ≤ 1000) (hd : d.l.length ≤ 1000) :
    Spec Try.prog 79 [.ref (.par 0) 0 0 0, .row (.par 1)] [(.par 0, d.row), (.par 1, .slt 9 1 (l.map .str))] (.t (.str (d.word l).1)) [(.par 0, (d.word l).2.row), (.par 1, .slt 9 1 (l.map .str))] := by
  have hn := Next_spec d l.length (by omega) hd
  have hlt := d.next_lt l.length (by omega)
  unfold Dc.word
  simp only
  generalize d.next l.length = q at *
  obtain ⟨v, d2⟩ := q
  simp only at *
  have hg : (l.map T.str)[v.toNat]? = some (.str (l.getD v.toNat default)) := by
    rw [List.getElem?_map, List.getElem?_eq_getElem (by omega)]
    simp [List.getD_eq_getElem?_getD, show v.toNat < l.length by omega]
  refine spec_intro (env0 := [(0, _), (1, _)]) (st0 := [(_, some _), (_, some _)]) Try.func79 rfl rfl rfl rfl ?_
  repeat' (first | (with_reducible refine codeT_seq ?_) | (with_reducible refine codeT_ret ?_) | (with_reducible refine codeT_regionL ?_) | (with_reducible refine lx_nil ?_) | (with_reducible refine q_then ?_) | ((with_reducible refine g_move ?_); first | refine lx_move (r := (.ref _ _ _ _)) rfl rfl rfl rfl rfl ?_ | refine lx_move (r := (.row _)) rfl rfl rfl rfl rfl ?_) | ((with_reducible refine g_load ?_); first | refine lx_load_elsM rfl rfl rfl rfl rfl rfl rfl rfl ?_ ?_) | ((with_reducible refine g_assign ?_); first | refine lx_assign (r := (.t _)) rfl rfl rfl rfl rfl ?_) | ((with_reducible refine g_indexAddr ?_); first | refine lx_indexAddr_row rfl rfl rfl rfl rfl rfl rfl ?_ ?_ ?_) | ((with_reducible refine g_len ?_); first | refine lx_len_rowmap rfl rfl rfl rfl rfl rfl ?_) | ((with_reducible refine g_call ?_); first | refine lx_call (r' := .t (.int .i64 v)) [] rfl rfl hn (ArgsLE.refl _) rfl ⟨rfl, trivial⟩ rfl rfl rfl rfl rfl rfl rfl rfl rfl rfl ?_))
  all_goals try (simp only [List.length_map]; omega)
  all_goals try omega
  exact q_ret (resT_oneE rfl rfl rfl) (stHas_spec ⟨rfl, rfl, trivial⟩)
set_option maxHeartbeats 4000000 in
theorem filled_spec (d0 : Dc) (hd0 : d0.l.length ≤ 1000) : Spec Try.prog 47 [.ref (.par 0) 0 0 0] [(.par 0, d0.row)] (.tup [.t (.agg [.str (recsS ⟨#[]⟩ (fillL (d0.next 6).1.toNat (d0.next 6).2 []).1)]), .t (.sl 1 ((fillL (d0.next 6).1.toNat (d0.next 6).2 []).1.map .str))]) [(.par 0, (fillL (d0.next 6).1.toNat (d0.next 6).2 []).2.row)] := by
  have hN := Next_spec d0 6 (by omega) hd0
  have hlt := d0.next_lt 6 (by omega)
  have hdl : (d0.next 6).2.l.length ≤ 1000 := by rw [Dc.next_l]; exact hd0
  generalize d0.next 6 = q at hN hlt hdl ⊢
  obtain ⟨k0, d1⟩ := q
  simp only at hN hlt hdl ⊢
  obtain ⟨k, rfl⟩ : ∃ k : Nat, k0 = k := ⟨k0.toNat, by omega⟩
  rw [Int.toNat_natCast]
  generalize hres : fillL k d1 [] = res
  obtain ⟨L, D⟩ := res
  simp only
  unfold Dc.row at hN ⊢
  refine spec_introG (env0 := [(0, _)]) (st0 := [(_, some _)]) Try.func47 rfl rfl rfl rfl ?_
  repeat' (first | (with_reducible refine codeT_seq ?_) | (with_reducible refine codeT_block ?_) | (with_reducible refine codeT_regionL ?_) | (with_reducible refine lx_nil ?_) | (with_reducible refine q_then ?_) | ((with_reducible refine g_move ?_); first | refine lx_move (r := (.ref _ _ _ _)) rfl rfl rfl rfl rfl ?_) | ((with_reducible refine g_assign ?_); first | refine lx_assign (r := (.t _)) rfl rfl rfl rfl rfl ?_) | ((with_reducible refine g_alloc ?_); first | refine lx_alloc rfl rfl rfl rfl rfl rfl rfl ?_) | ((with_reducible refine g_call ?_); first | refine lx_call (r' := .t (.int .i64 (k : Int))) [] rfl rfl hN (ArgsLE.refl _) rfl ⟨rfl, trivial⟩ rfl rfl rfl rfl rfl rfl rfl rfl rfl rfl ?_))
  refine codeT_ghost (ghost_nilL 5 (.loc 900) 9 1 rfl rfl rfl) ?_
  refine codeT_ghost (ghost_keep2 [0, 2, 4, 5, 6] [.par 0, .loc 2, .loc 4, .loc 900] rfl rfl) ?_
  refine codeT_loop (fun p env st => ∃ (j : Nat) (d : Dc) (l : List ByteArray), p = j ∧ l.length + j ≤ 10 ∧ (∀ b ∈ l, b.size ≤ 22) ∧ d.l.length ≤ 1000 ∧ fillL j d l = (L, D) ∧
      env = EnvL.get [(0, .ref (.par 0) 0 0 0), (2, .ref (.loc 2) 0 0 0), (4, .ref (.loc 4) 0 0 0), (5, .row (.loc 900)), (6, .t (.int .i64 (j : Int)))] ∧
      st = StO.get [(.par 0, some (.var 113 [.t (.sl 1 (d.l.map (T.int .i64))), .t (.int .i64 d.k)])), (.loc 2, some (.var 51 [.t (.str ⟨#[]⟩)])), (.loc 4, some (.var 51 [.t (.str (recsS ⟨#[]⟩ l))])), (.loc 900, some (.slt 9 1 (l.map .str)))])
    ?_ (n := k) ⟨k, d1, [], rfl, by simp; omega, by simp, hdl, hres, rfl, rfl⟩
  rintro p env st ⟨j, d, l, rfl, hj, hlz, hd, hr, rfl, rfl⟩
  cases p with
  | zero =>
    rw [fillL] at hr
    simp only [Prod.mk.injEq] at hr
    obtain ⟨rfl, rfl⟩ := hr
    repeat' (first | (with_reducible refine codeT_seq ?_) | (with_reducible refine codeT_ret ?_) | (with_reducible refine codeT_exit ?_) | (with_reducible refine codeT_regionL ?_) | (with_reducible refine lx_nil ?_) | (with_reducible refine q_then ?_) | (with_reducible refine q_then_exit ?_) | ((with_reducible refine q_block_same ?_ ?_); · rfl) | (with_reducible refine q_loop_exit ?_) | refine c_condF rfl ?_ | ((with_reducible refine g_move ?_); first | refine lx_move (r := (.t _)) rfl rfl rfl rfl rfl ?_ | refine lx_move (r := (.row _)) rfl rfl rfl rfl rfl ?_) | ((with_reducible refine g_load ?_); first | refine lx_load_varA (r := (.t (.agg _))) rfl rfl rfl rfl rfl rfl rfl rfl rfl ?_) | ((with_reducible refine g_binOp ?_); first | refine lx_arith rfl rfl rfl rfl rfl rfl rfl ?_) | ((with_reducible refine g_assign ?_); first | refine lx_assign (r := (.row _)) rfl rfl rfl rfl rfl ?_) | ((with_reducible refine g_store ?_); first | refine lx_store_var (r := (.t (.agg _))) rfl rfl rfl rfl rfl rfl rfl rfl rfl rfl ?_))
    refine q_ghost (ghost_keep2 [2, 3] [.par 0, .loc 2, .loc 900] rfl rfl) ?_
    refine q_ghost (ghost_freezeL (id := .loc 900) rfl rfl rfl) ?_
    refine q_done ?_
    refine q_ret ?_ (stHas_spec ⟨rfl, trivial⟩); refine resT_cell_tmp rfl rfl rfl inferInstance rfl inferInstance rfl ?_ ?_; exact TLe.av (by repeat first | exact TLe.refl _ | exact TLe.nil _ | exact TLe.esl _ | refine TLe.agg ?_ | refine TLs.cons ?_ ?_ | exact TLs.nil); exact AVLE.refl _
  | succ j =>
    rw [fillL] at hr
    have hW := Word_spec d ws43 (by decide) (by decide) hd
    have hws : (d.word ws43).1.size ≤ 22 := word43_size d
    have hwl : (d.word ws43).2.l.length ≤ 1000 := by rw [Dc.word_l]; exact hd
    generalize d.word ws43 = y at hW hr hws hwl
    obtain ⟨b, d2⟩ := y
    simp only at hW hr hws hwl
    have hzr := recsS_max (B := 22) l ⟨#[]⟩ hlz
    have z0 : (⟨#[]⟩ : ByteArray).size = 0 := rfl
    have hA := qAppend_spec (recsS ⟨#[]⟩ l) b (by omega) (by omega)
    rw [← recsS_snoc] at hA
    unfold Dc.row ws43 at hW
    simp only [List.map_cons, List.map_nil] at hW
    repeat' (first | (with_reducible refine codeT_seq ?_) | (with_reducible refine codeT_block ?_) | (with_reducible refine codeT_skip ?_) | (with_reducible refine codeT_exit ?_) | (with_reducible refine codeT_regionL ?_) | (with_reducible refine lx_nil ?_) | (with_reducible refine q_then ?_) | (with_reducible refine q_then_exit ?_) | (with_reducible refine q_block ?_) | ((with_reducible refine q_block_same ?_ ?_); · rfl) | (with_reducible refine q_loop_exit ?_) | (exfalso; omega) | ((with_reducible refine g_move ?_); first | refine lx_move (r := (.t _)) rfl rfl rfl rfl rfl ?_ | refine lx_move (r := (.ref _ _ _ _)) rfl rfl rfl rfl rfl ?_ | refine lx_move (r := (.row _)) rfl rfl rfl rfl rfl ?_ | refine lx_move (r := (.tup _)) rfl rfl rfl rfl rfl ?_) | ((with_reducible refine g_load ?_); first | refine lx_load_varA (r := (.t (.agg _))) rfl rfl rfl rfl rfl rfl rfl rfl rfl ?_) | ((with_reducible refine g_binOp ?_); first | refine lx_arith rfl rfl rfl rfl rfl rfl rfl ?_) | ((with_reducible refine g_assign ?_); first | refine lx_assign (r := (.t _)) rfl rfl rfl rfl rfl ?_ | refine lx_assign (r := (.row _)) rfl rfl rfl rfl rfl ?_) | ((with_reducible refine g_store ?_); first | refine lx_store_var (r := (.t (.agg _))) rfl rfl rfl rfl rfl rfl rfl rfl rfl rfl ?_) | ((with_reducible refine g_extract ?_); first | refine lx_extract rfl rfl rfl rfl rfl rfl ?_) | ((with_reducible refine g_buildSlice ?_); first | refine lx_buildSlice rfl rfl rfl rfl rfl rfl rfl ?_) | ((with_reducible refine g_append ?_); first | refine lx_append_row rfl rfl rfl rfl rfl rfl rfl rfl rfl rfl ?_ ?_ ?_) | ((with_reducible refine g_call ?_); first | refine lx_call (r' := .t (.str b)) [(.par 1, .loc 15)] rfl rfl hW (ArgsLE.refl _) rfl ⟨rfl, rfl, trivial⟩ rfl rfl rfl rfl rfl rfl rfl rfl rfl rfl ?_ | refine lx_callT rfl rfl hA rfl rfl (ArgsLE.refl _) rfl rfl rfl rfl rfl ?_) | refine c_condP rfl (fun hc => ?_) (fun hc => ?_))
    all_goals try omega
    all_goals try (simp only [List.length_map, List.length_singleton]; omega)
    refine q_loop (n' := j) (by omega) ((ghost_keep2 [0, 2, 4, 5, 6] [.par 0, .loc 2, .loc 4, .loc 26] rfl rfl).trans (ghost_renL2 (.loc 26) (.loc 900) rfl rfl rfl rfl)) ⟨j, d2, l ++ [b], rfl, by simp; omega, ?_, hwl, hr, ?_, ?_⟩
    · intro x hx
      rcases List.mem_append.1 hx with h | h
      · exact hlz x h
      · rw [List.mem_singleton.1 h]; exact hws
    · rw [wrap64 (by omega) (by omega), show ((j + 1 : Nat) : Int) - 1 = (j : Int) by omega]; rfl
    · rw [List.map_append]; rfl
end Go.AL
/- What the check of the journals' laws answers. -/
set_option linter.unusedVariables false
namespace Go.AL
open Go Go.Proofs Go.RowKit

set_option maxHeartbeats 8000000 in
theorem awake43_spec : Spec Try.prog 46 [] [] (.t (.bool true)) [] := by
  obtain ⟨a, ha⟩ : ∃ a : ByteArray, a = ⟨#[109, 105, 108, 108]⟩ := ⟨_, rfl⟩
  obtain ⟨b, hb⟩ : ∃ b : ByteArray, b = ⟨#[102, 111, 114, 100]⟩ := ⟨_, rfl⟩
  have za : a.size = 4 := by rw [ha]; rfl
  have zb : b.size = 4 := by rw [hb]; rfl
  have z0 : (⟨#[]⟩ : ByteArray).size = 0 := rfl
  have h1 := Append_spec ⟨#[]⟩ a (by omega) (by omega)
  have s1 := appS_size ⟨#[]⟩ a
  have h2 := Append_spec (appS ⟨#[]⟩ a) b (by omega) (by omega)
  have s2 := appS_size (appS ⟨#[]⟩ a) b
  have h3 := Read_spec (appS (appS ⟨#[]⟩ a) b) (by omega)
  have r3 : readS (appS (appS ⟨#[]⟩ a) b) = ([a, b], (appS (appS ⟨#[]⟩ a) b).size) := readS_all [a, b] (fun x hx => by
    simp only [List.mem_cons, List.not_mem_nil, or_false] at hx
    rcases hx with rfl | rfl <;> omega)
  rw [r3] at h3
  have r4 : readS ((appS (appS ⟨#[]⟩ a) b).extract 0 (31 : Int).toNat ++ ⟨#[]⟩) = ([a], (appS ⟨#[]⟩ a).size) := by
    have e : ∀ x : ByteArray, x ++ ⟨#[]⟩ = x := fun x => ByteArray.append_empty
    rw [e]
    exact torn_read [a] b (fun x hx => by
      rw [List.mem_singleton.1 hx]; omega) (by omega) 31 (by show (appS ⟨#[]⟩ a).size ≤ 31; omega) (by show 31 < (appS (appS ⟨#[]⟩ a) b).size; omega)
  have h4 := Crash_spec (appS (appS ⟨#[]⟩ a) b) ⟨#[]⟩ 31 (by omega) (by omega) (by omega) (by omega)
  have h5 := Read_spec ((appS (appS ⟨#[]⟩ a) b).extract 0 (31 : Int).toNat ++ ⟨#[]⟩) (by rw [ByteArray.size_append, ByteArray.size_extract]; omega)
  rw [r4] at h5
  generalize (appS (appS ⟨#[]⟩ a) b).extract 0 (31 : Int).toNat ++ ⟨#[]⟩ = X3 at h4 h5
  clear r3 r4
  generalize appS (appS ⟨#[]⟩ a) b = X2 at *
  generalize appS ⟨#[]⟩ a = X1 at *
  have e16 : (X1.size : Int) = 16 := by omega
  have e31 : (31 : Int) = IntKind.i64.wrap ((X2.size : Int) - 1) := by rw [wrap64 (by omega) (by omega)]; omega
  simp only [List.map_cons, List.map_nil] at h3 h5
  rw [e31] at h4
  rw [ha] at h1
  rw [hb] at h2
  refine spec_intro (env0 := []) (st0 := []) Try.func46 rfl rfl rfl rfl ?_
  repeat' (first | (with_reducible refine codeT_seq ?_) | (with_reducible refine codeT_ret ?_) | (with_reducible refine codeT_regionL ?_) | (with_reducible refine lx_nil ?_) | (with_reducible refine q_then ?_) | exact absurd ha ‹_› | ((with_reducible refine g_move ?_); first | refine lx_move (r := (.t _)) rfl rfl rfl rfl rfl ?_ | refine lx_move (r := (.tup _)) rfl rfl rfl rfl rfl ?_) | ((with_reducible refine g_load ?_); first | refine lx_load_var rfl rfl rfl rfl rfl rfl rfl rfl ?_ | refine lx_load_varA (r := (.t (.agg _))) rfl rfl rfl rfl rfl rfl rfl rfl rfl ?_ | refine lx_load_tp rfl rfl rfl rfl rfl rfl rfl ?_) | ((with_reducible refine g_fieldAddr ?_); first | refine lx_fieldAddr rfl rfl rfl rfl rfl rfl rfl ?_) | ((with_reducible refine g_binOp ?_); first | refine lx_arith rfl rfl rfl rfl rfl rfl rfl ?_ | refine lx_str_eq rfl rfl rfl rfl rfl rfl ?_) | ((with_reducible refine g_assign ?_); first | refine lx_assign (r := (.t _)) rfl rfl rfl rfl rfl ?_) | ((with_reducible refine g_pick ?_); first | refine lx_pickT (r := (.t _)) rfl rfl rfl rfl rfl rfl ?_) | ((with_reducible refine g_alloc ?_); first | refine lx_alloc rfl rfl rfl rfl rfl rfl rfl ?_) | ((with_reducible refine g_store ?_); first | refine lx_store_var (r := (.t (.agg _))) rfl rfl rfl rfl rfl rfl rfl rfl rfl rfl ?_) | ((with_reducible refine g_indexAddr ?_); first | refine lx_indexAddr_sl rfl rfl rfl rfl rfl rfl ?_ ?_ ?_) | ((with_reducible refine g_extract ?_); first | refine lx_extract rfl rfl rfl rfl rfl rfl ?_) | ((with_reducible refine g_build ?_); first | refine lx_build (r := (.t (.agg _))) rfl rfl rfl rfl rfl rfl rfl ?_) | ((with_reducible refine g_len ?_); first | refine lx_len_sl rfl rfl rfl rfl rfl ?_ | refine lx_len_str rfl rfl rfl rfl rfl ?_) | ((with_reducible refine g_call ?_); first | refine lx_callT rfl rfl h1 rfl rfl (ArgsLE.refl _) rfl rfl rfl rfl rfl ?_ | refine lx_callT rfl rfl h2 rfl rfl (ArgsLE.refl _) rfl rfl rfl rfl rfl ?_ | refine lx_callT rfl rfl h3 rfl rfl (ArgsLE.refl _) rfl rfl rfl rfl rfl ?_ | refine lx_callT rfl rfl h4 rfl rfl (ArgsLE.refl _) rfl rfl rfl rfl rfl ?_ | refine lx_callT rfl rfl h5 rfl rfl (ArgsLE.refl _) rfl rfl rfl rfl rfl ?_) | refine lx_splitP rfl (fun hc => ?_) (fun hc => ?_))
  all_goals try (exact absurd rfl hc)
  all_goals try (exact absurd ha hc)
  all_goals try omega
  all_goals try (exact (by decide : (0 : Int) < 1))
  exact q_ret (resT_oneE rfl rfl (by simp [e16])) (by simp)
end Go.AL
/- That the law StoreTorn is true, as a contract. -/
set_option linter.unusedVariables false
namespace Go.AL
open Go Go.Proofs Go.RowKit

theorem eq51a : Try.prog.stoodInHeld 51 = false := by kernel_rfl
theorem eq51b : Try.prog.eqGuardType Try.prog.depth 51 = false := by kernel_rfl
theorem eq51 : eq1B Try.prog 51 = true := by unfold eq1B; rw [eq51a, eq51b]; rfl
set_option maxHeartbeats 16000000 in
set_option maxRecDepth 4000 in
theorem StoreTorn_spec (l : List Int) (body : ByteArray) (cut : Int) : Spec Try.prog 12 [.t (.sl 1 (l.map (T.int .i64))), .t (.str body), .t (.int .u16 cut)] [] (.t (.bool true)) [] := by
  have hA := awake43_spec
  have hLi := Light_spec l
  by_cases hl : (l.length : Int) ≤ 500
  · rw [decide_eq_true hl] at hLi
    by_cases hs : 300 < (body.size : Int)
    · refine spec_intro (env0 := [(0, _), (1, _), (2, _)]) (st0 := []) Try.func12 rfl rfl rfl rfl ?_
      repeat' (first | (with_reducible refine codeT_seq ?_) | (with_reducible refine codeT_skip ?_) | (with_reducible refine codeT_ret ?_) | (with_reducible refine codeT_regionL ?_) | (with_reducible refine lx_nil ?_) | (with_reducible refine q_then ?_) | (with_reducible refine q_then_ret ?_) | (exfalso; omega) | ((with_reducible refine g_move ?_); first | refine lx_move (r := (.t _)) rfl rfl rfl rfl rfl ?_) | ((with_reducible refine g_binOp ?_); first | refine lx_arith rfl rfl rfl rfl rfl rfl rfl ?_) | ((with_reducible refine g_assign ?_); first | refine lx_assign (r := (.t _)) rfl rfl rfl rfl rfl ?_) | ((with_reducible refine g_pick ?_); first | refine lx_pickF (r := (.t _)) rfl rfl rfl rfl rfl rfl ?_) | ((with_reducible refine g_unOp ?_); first | refine lx_not rfl rfl rfl rfl rfl ?_) | ((with_reducible refine g_len ?_); first | refine lx_len_str rfl rfl rfl rfl rfl ?_) | ((with_reducible refine g_call ?_); first | refine lx_callT rfl rfl hLi rfl rfl (ArgsLE.refl _) rfl rfl rfl rfl rfl ?_ | refine lx_callT rfl rfl hA rfl rfl (ArgsLE.refl _) rfl rfl rfl rfl rfl ?_) | refine c_condP rfl (fun hc => ?_) (fun hc => ?_))
      all_goals exact q_ret (resT_oneE rfl rfl rfl) (by simp)
    · have hR := Roll_spec l
      have hF := filled_spec (Dc.mk l 0) (by show l.length ≤ 1000; omega)
      have hk : ((Dc.mk l 0).next 6).1.toNat ≤ 5 := by have := (Dc.mk l 0).next_lt 6 (by omega); omega
      have hfo := fillL_ok ((Dc.mk l 0).next 6).1.toNat ((Dc.mk l 0).next 6).2 [] (by simp)
      generalize ((Dc.mk l 0).next 6).1.toNat = kk at hF hfo hk
      generalize fillL kk ((Dc.mk l 0).next 6).2 [] = fl at hF hfo
      obtain ⟨L, D⟩ := fl
      simp only [List.length_nil] at hF hfo
      obtain ⟨hLl, hLb⟩ := hfo
      have hmax := recsS_max L ⟨#[]⟩ hLb
      have z0 : (⟨#[]⟩ : ByteArray).size = 0 := rfl
      have hmx : (recsS ⟨#[]⟩ L).size ≤ 1000 := by
        have : L.length * (12 + 22) ≤ 5 * (12 + 22) := Nat.mul_le_mul_right _ (by omega)
        omega
      have hLb' : ∀ b ∈ L, b.size ≤ 1048576 := fun b hb => by have := hLb b hb; omega
      have hAp := Append_spec (recsS ⟨#[]⟩ L) body (by omega) (by omega)
      have zX := appS_size (recsS ⟨#[]⟩ L) body
      have hpre := appS_pre (recsS ⟨#[]⟩ L) body
      have htr := fun n h0 h1 => torn_read L body hLb' (by omega) n h0 h1
      have hall : readS (appS (recsS ⟨#[]⟩ L) body) = (L ++ [body], (appS (recsS ⟨#[]⟩ L) body).size) := by
        rw [← recsS_snoc]
        exact readS_all _ (fun y hy => by
          rcases List.mem_append.1 hy with h | h
          · exact hLb' y h
          · rw [List.mem_singleton.1 h]; omega)
      have hRx := Read_spec (appS (recsS ⟨#[]⟩ L) body) (by omega)
      rw [hall] at hRx
      clear hall
      generalize recsS ⟨#[]⟩ L = S at *
      generalize appS S body = X at *
      have wd : IntKind.i64.wrap ((X.size : Int) - (S.size : Int)) = (X.size : Int) - (S.size : Int) := wrap64 (by omega) (by omega)
      have hM := Mod_spec (IntKind.i64.wrap cut) (IntKind.i64.wrap ((X.size : Int) - (S.size : Int))) (by rw [wd]; omega)
      have hMl := modI_lt (IntKind.i64.wrap cut) (IntKind.i64.wrap ((X.size : Int) - (S.size : Int))) (by rw [wd]; omega)
      generalize modI (IntKind.i64.wrap cut) (IntKind.i64.wrap ((X.size : Int) - (S.size : Int))) = v at hM hMl
      have wn : IntKind.i64.wrap ((S.size : Int) + v) = (S.size : Int) + v := wrap64 (by omega) (by omega)
      have hC := Crash_spec X ⟨#[]⟩ (IntKind.i64.wrap ((S.size : Int) + v)) (by omega) (by omega) (by omega) (by omega)
      have e0 : ∀ x : ByteArray, x ++ ⟨#[]⟩ = x := fun x => ByteArray.append_empty
      have hr := htr (IntKind.i64.wrap ((S.size : Int) + v)).toNat (by omega) (by omega)
      rw [← e0 (X.extract 0 _)] at hr
      have hTz : (X.extract 0 (IntKind.i64.wrap ((S.size : Int) + v)).toNat ++ ⟨#[]⟩).size ≤ 3000 := by rw [e0, ByteArray.size_extract]; omega
      have hTs : (X.extract 0 (IntKind.i64.wrap ((S.size : Int) + v)).toNat ++ ⟨#[]⟩).extract 0 S.size = S := by
        rw [e0, ByteArray.extract_extract]
        rw [show 0 + 0 = 0 from rfl, show min (0 + S.size) (IntKind.i64.wrap ((S.size : Int) + v)).toNat = S.size by omega]
        exact hpre
      have hTl : S.size ≤ (X.extract 0 (IntKind.i64.wrap ((S.size : Int) + v)).toNat ++ ⟨#[]⟩).size := by rw [e0, ByteArray.size_extract]; omega
      generalize X.extract 0 (IntKind.i64.wrap ((S.size : Int) + v)).toNat ++ ⟨#[]⟩ = Z at *
      have hRz := Read_spec Z (by omega)
      have hWz := Whole_spec Z (by omega) (by rw [hr]; exact hTl)
      rw [hr] at hRz hWz
      simp only at hRz hWz hRx
      rw [hTs] at hWz
      have hsm := same43_spec L L (by omega)
      rw [decide_eq_true rfl] at hsm
      have hmz : ((L ++ [body]).length : Int) = (L.length : Int) + 1 := by simp
      have hgn : (L ++ [body]).getD ((L.length : Int)).toNat default = body := by simp [List.getD_eq_getElem?_getD]
      generalize L ++ [body] = M at hRx hmz hgn
      have wK : IntKind.i64.wrap ((L.length : Int) + 1) = (L.length : Int) + 1 := wrap64 (by omega) (by omega)
      clear hr htr hpre hTs e0 hmax
      refine spec_intro (env0 := [(0, _), (1, _), (2, _)]) (st0 := []) Try.func12 rfl rfl rfl rfl ?_
      repeat' (first | (with_reducible refine codeT_seq ?_) | (with_reducible refine codeT_skip ?_) | (with_reducible refine codeT_ret ?_) | (with_reducible refine codeT_regionL ?_) | ((with_reducible refine codeT_region_drawL ?_ ?_); · rfl) | (with_reducible refine lx_nil ?_) | (with_reducible refine q_then ?_) | ((with_reducible refine q_region_draw ?_ ?_); · rfl) | (exfalso; omega) | ((with_reducible refine g_guard ?_); first | refine lx_skip rfl rfl rfl ?_) | ((with_reducible refine g_move ?_); first | refine lx_move (r := (.t _)) rfl rfl rfl rfl rfl ?_ | refine lx_move (r := (.tup _)) rfl rfl rfl rfl rfl ?_) | ((with_reducible refine g_load ?_); first | refine lx_load_var rfl rfl rfl rfl rfl rfl rfl rfl ?_ | refine lx_load_varA (r := (.t (.agg _))) rfl rfl rfl rfl rfl rfl rfl rfl rfl ?_ | refine lx_load_tp rfl rfl rfl rfl rfl rfl rfl ?_) | ((with_reducible refine g_fieldAddr ?_); first | refine lx_fieldAddr rfl rfl rfl rfl rfl rfl rfl ?_) | ((with_reducible refine g_binOp ?_); first | refine lx_arith rfl rfl rfl rfl rfl rfl rfl ?_ | refine lx_str_eq rfl rfl rfl rfl rfl rfl ?_) | ((with_reducible refine g_assign ?_); first | refine lx_assign (r := (.t _)) rfl rfl rfl rfl rfl ?_) | ((with_reducible refine g_pick ?_); first | refine lx_pickT (r := (.t _)) rfl rfl rfl rfl rfl rfl ?_ | refine lx_pickF (r := (.t _)) rfl rfl rfl rfl rfl rfl ?_) | ((with_reducible refine g_alloc ?_); first | refine lx_alloc rfl rfl rfl rfl rfl rfl rfl ?_) | ((with_reducible refine g_store ?_); first | refine lx_store_var (r := (.t (.agg _))) rfl rfl rfl rfl rfl rfl rfl rfl rfl rfl ?_) | ((with_reducible refine g_indexAddr ?_); first | refine lx_indexAddr_map rfl rfl rfl rfl rfl rfl ?_ ?_ ?_) | ((with_reducible refine g_unOp ?_); first | refine lx_not rfl rfl rfl rfl rfl ?_) | ((with_reducible refine g_convert ?_); first | refine lx_conv_int rfl rfl rfl rfl rfl ?_) | ((with_reducible refine g_extract ?_); first | refine lx_extract rfl rfl rfl rfl rfl rfl ?_) | ((with_reducible refine g_len ?_); first | refine lx_len_map rfl rfl rfl rfl rfl ?_ | refine lx_len_str rfl rfl rfl rfl rfl ?_) | ((with_reducible refine g_call ?_); first | refine lx_callT rfl rfl hLi rfl rfl (ArgsLE.refl _) rfl rfl rfl rfl rfl ?_ | refine lx_call (r' := .ref (.loc 900) 0 0 0) [(.res 0, .loc 900)] rfl rfl hR (ArgsLE.refl _) rfl trivial rfl rfl rfl rfl rfl rfl rfl rfl rfl rfl ?_ | refine lx_call (r' := .tup [.t (.agg [.str S]), .t (.sl 1 (L.map .str))]) [(.par 0, .loc 900)] rfl rfl hF (ArgsLE.refl _) rfl ⟨rfl, trivial⟩ rfl rfl rfl rfl rfl rfl rfl rfl rfl rfl ?_ | refine lx_callT rfl rfl hAp rfl rfl (ArgsLE.refl _) rfl rfl rfl rfl rfl ?_ | refine lx_callT rfl rfl hM rfl rfl (ArgsLE.refl _) rfl rfl rfl rfl rfl ?_ | refine lx_callT rfl rfl hC rfl rfl (ArgsLE.refl _) rfl rfl rfl rfl rfl ?_ | refine lx_callT rfl rfl hRz rfl rfl (ArgsLE.refl _) rfl rfl rfl rfl rfl ?_ | refine lx_callT rfl rfl hRx rfl rfl (ArgsLE.refl _) rfl rfl rfl rfl rfl ?_ | refine lx_callT rfl rfl hsm rfl rfl (ArgsLE.refl _) rfl rfl rfl rfl rfl ?_ | refine lx_callT rfl rfl hWz rfl rfl (ArgsLE.refl _) rfl rfl rfl rfl rfl ?_ | refine lx_callT rfl rfl hA rfl rfl (ArgsLE.refl _) rfl rfl rfl rfl rfl ?_) | ((with_reducible refine g_binOp ?_); first | refine lx_eqstr1 rfl rfl rfl ?_ ?_ rfl rfl rfl ?_) | refine c_condP rfl (fun hc => ?_) (fun hc => ?_) | refine lx_splitP rfl (fun hc => ?_) (fun hc => ?_))
      all_goals try (exact absurd hgn hc)
      all_goals try (exact absurd rfl hc)
      all_goals try omega
      all_goals try (exact eq51)
      all_goals try rfl
      exact q_ret (resT_oneE rfl rfl rfl) (by simp)
  · rw [decide_eq_false hl] at hLi
    refine spec_intro (env0 := [(0, _), (1, _), (2, _)]) (st0 := []) Try.func12 rfl rfl rfl rfl ?_
    repeat' (first | (with_reducible refine codeT_seq ?_) | (with_reducible refine codeT_ret ?_) | (with_reducible refine codeT_regionL ?_) | (with_reducible refine lx_nil ?_) | (with_reducible refine q_then ?_) | (with_reducible refine q_then_ret ?_) | refine c_condT rfl ?_ | ((with_reducible refine g_guard ?_); first | refine lx_skip rfl rfl rfl ?_) | ((with_reducible refine g_move ?_); first | refine lx_move (r := (.t _)) rfl rfl rfl rfl rfl ?_) | ((with_reducible refine g_assign ?_); first | refine lx_assign (r := (.t _)) rfl rfl rfl rfl rfl ?_) | ((with_reducible refine g_pick ?_); first | refine lx_pickT (r := (.t _)) rfl rfl rfl rfl rfl rfl ?_) | ((with_reducible refine g_unOp ?_); first | refine lx_not rfl rfl rfl rfl rfl ?_) | ((with_reducible refine g_call ?_); first | refine lx_callT rfl rfl hLi rfl rfl (ArgsLE.refl _) rfl rfl rfl rfl rfl ?_ | refine lx_callT rfl rfl hA rfl rfl (ArgsLE.refl _) rfl rfl rfl rfl rfl ?_))
    all_goals exact q_ret (resT_oneE rfl rfl rfl) (by simp)
end Go.AL
