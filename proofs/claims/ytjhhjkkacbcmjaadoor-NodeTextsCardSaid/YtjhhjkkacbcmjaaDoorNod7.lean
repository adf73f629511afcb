/- What the kit's Spoil answers. -/
import Derived.Test.YtjhhjkkacbcmjaaDoorNod6
import Derived.Test.YtjhhjkkacbcmjaaDoorAl3
set_option linter.unusedVariables false
namespace Go.AL
open Go Go.Proofs Go.RowKit

/-- The string whose byte at a place is changed by so much. -/
def spoil (s : ByteArray) (at_ by_ : Int) : ByteArray :=
  if s = ⟨#[]⟩ then s else
  strT ((bytesT s).set (modI at_ s.size).toNat (.int .u8 (IntKind.u8.wrap (((s.data.toList.getD (modI at_ s.size).toNat default).toNat : Int) + IntKind.u8.wrap by_))))
theorem ba_len (s : ByteArray) : s.size = s.data.toList.length := by cases s; rfl
set_option maxHeartbeats 2000000 in
theorem Spoil_spec (s : ByteArray) (a b : Int) (hs : s.size ≤ 4611686018427387903) : Spec Tryd.prog 29 [.t (.str s), .t (.int .i64 a), .t (.int .i64 b)] [] (.t (.str (spoil s a b))) [] := by
  have hm := Mod_spec a s.size (by omega)
  unfold spoil
  by_cases h0 : s = ⟨#[]⟩
  · rw [if_pos h0]
    refine spec_intro (env0 := [(0, _), (1, _), (2, _)]) (st0 := []) Tryd.func29 rfl rfl rfl rfl ?_
    repeat' (first | (with_reducible refine codeT_seq ?_) | (with_reducible refine codeT_skip ?_) | (with_reducible refine codeT_ret ?_) | (with_reducible refine codeT_regionL ?_) | (with_reducible refine lx_nil ?_) | (with_reducible refine q_then ?_) | (with_reducible refine q_then_ret ?_) | ((with_reducible refine g_move ?_); first | refine lx_move (r := (.t _)) rfl rfl rfl rfl rfl ?_ | refine lx_move (r := (.row _)) rfl rfl rfl rfl rfl ?_) | ((with_reducible refine g_binOp ?_); first | refine lx_str_eq rfl rfl rfl rfl rfl rfl ?_) | ((with_reducible refine g_assign ?_); first | refine lx_assign (r := (.t _)) rfl rfl rfl rfl rfl ?_ | refine lx_assign (r := (.row _)) rfl rfl rfl rfl rfl ?_) | ((with_reducible refine g_convert ?_); first | refine lx_toBytes rfl rfl rfl rfl rfl rfl ?_ ?_) | ((with_reducible refine g_len ?_); first | refine lx_len_rowmap rfl rfl rfl rfl rfl rfl ?_) | ((with_reducible refine g_call ?_); first | exact absurd h0 ‹_›) | refine c_condP rfl (fun hc => ?_) (fun hc => ?_))
    · exact q_ret (resT_oneE rfl rfl rfl) (by simp)
    all_goals first | exact absurd h0 ‹¬ s = ⟨#[]⟩› | omega
  · rw [if_neg h0]
    have hlt := modI_lt a s.size (by
      have : s.size ≠ 0 := fun e => h0 (by cases s with | mk d => cases d with | mk l => cases l with | nil => rfl | cons x xs => simp [ByteArray.size] at e)
      omega)
    generalize modI a s.size = k at *
    refine spec_intro (env0 := [(0, _), (1, _), (2, _)]) (st0 := []) Tryd.func29 rfl rfl rfl rfl ?_
    repeat' (first | (with_reducible refine codeT_seq ?_) | (with_reducible refine codeT_skip ?_) | (with_reducible refine codeT_ret ?_) | (with_reducible refine codeT_regionL ?_) | (with_reducible refine lx_nil ?_) | (with_reducible refine q_then ?_) | (with_reducible refine q_then_ret ?_) | ((with_reducible refine g_move ?_); first | refine lx_move (r := (.t _)) rfl rfl rfl rfl rfl ?_ | refine lx_move (r := (.row _)) rfl rfl rfl rfl rfl ?_) | ((with_reducible refine g_load ?_); first | refine lx_load_elsM rfl rfl rfl rfl rfl rfl rfl rfl ?_ ?_) | ((with_reducible refine g_binOp ?_); first | refine lx_arith rfl rfl rfl rfl rfl rfl rfl ?_ | refine lx_str_eq rfl rfl rfl rfl rfl rfl ?_) | ((with_reducible refine g_assign ?_); first | refine lx_assign (r := (.t _)) rfl rfl rfl rfl rfl ?_ | refine lx_assign (r := (.row _)) rfl rfl rfl rfl rfl ?_) | ((with_reducible refine g_store ?_); first | refine lx_store_slt rfl rfl rfl rfl rfl rfl ?_ ?_ ?_) | ((with_reducible refine g_indexAddr ?_); first | refine lx_indexAddr_row rfl rfl rfl rfl rfl rfl rfl ?_ ?_ ?_) | ((with_reducible refine g_convert ?_); first | refine lx_conv_int rfl rfl rfl rfl rfl ?_ | refine lx_toBytes rfl rfl rfl rfl rfl rfl ?_ ?_ | refine lx_ofBytes_row rfl rfl rfl rfl rfl rfl ?_ ?_) | ((with_reducible refine g_len ?_); first | refine lx_len_rowmap rfl rfl rfl rfl rfl rfl ?_) | ((with_reducible refine g_call ?_); first | refine lx_callT rfl rfl hm rfl rfl (ArgsLE.refl _) rfl rfl rfl rfl rfl ?_) | refine c_condP rfl (fun hc => ?_) (fun hc => ?_))
    all_goals try exact absurd ‹s = ⟨#[]⟩› h0
    all_goals try omega
    all_goals try (simp only [bytesT, List.length_map]; rw [← ba_len]; omega)
    all_goals try rfl
    · rw [← ba_len]; omega
    · intro e he
      rcases List.mem_or_eq_of_mem_set he with h | rfl
      · simp only [bytesT, List.mem_map] at h
        obtain ⟨c, _, rfl⟩ := h
        rfl
      · rfl
    · exact q_ret (resT_oneE rfl rfl rfl) (by simp)
end Go.AL
/- That the law NodeTexts is true, as a contract. -/
set_option linter.unusedVariables false
namespace Go.AL
open Go Go.Proofs Go.RowKit

set_option maxHeartbeats 2000000 in
theorem Texts_row (l : List ByteArray) (h : l.length ≤ 1000000000) : Spec Tryd.prog 26 [.row (.par 0)] [(.par 0, .slt 9 1 (l.map .str))] (.t (Nd.ofTexts l).toT) [(.par 0, .slt 9 1 (l.map .str))] := by
  unfold Nd.ofTexts
  rw [Nd.toT_eq]
  refine spec_introG (env0 := [(0, _)]) (st0 := [(_, some _)]) Tryd.func26 rfl rfl rfl rfl ?_
  repeat' (first | (with_reducible refine codeT_seq ?_) | (with_reducible refine codeT_block ?_) | (with_reducible refine codeT_regionL ?_) | (with_reducible refine lx_nil ?_) | (with_reducible refine q_then ?_) | ((with_reducible refine g_move ?_); first | refine lx_move (r := (.t _)) rfl rfl rfl rfl rfl ?_ | refine lx_move (r := (.row _)) rfl rfl rfl rfl rfl ?_) | ((with_reducible refine g_alloc ?_); first | refine lx_alloc rfl rfl rfl rfl rfl rfl rfl ?_) | ((with_reducible refine g_store ?_); first | refine lx_store_var (r := (.t (.agg _))) rfl rfl rfl rfl rfl rfl rfl rfl rfl rfl ?_) | ((with_reducible refine g_build ?_); first | refine lx_build (r := (.t (.agg _))) rfl rfl rfl rfl rfl rfl rfl ?_) | ((with_reducible refine g_len ?_); first | refine lx_len_rowmap rfl rfl rfl rfl rfl rfl ?_))
  refine codeT_ghost (ghost_cellNilL (r := .loc 3) 5 (.loc 100) 26 6 rfl rfl rfl rfl rfl) ?_
  refine codeT_ghost (ghost_keep2 [2, 3, 7, 8, 9] [.par 0, .loc 2, .loc 3, .loc 100] rfl rfl) ?_
  have key : ∀ j, (l.take j).map (fun s => (Nd.ofText s).toT) = ((l.take j).map Nd.ofText).map Nd.toT := fun j => by rw [List.map_map]; rfl
  refine codeT_loop (fun p env st => ∃ (j : Nat), j ≤ l.length ∧ p = l.length - j ∧
      env = EnvL.get [(2, .ref (.loc 2) 0 0 0), (3, .ref (.loc 3) 0 0 0), (7, .row (.par 0)), (8, .t (.int .i64 l.length)), (9, .t (.int .i64 (j : Int)))] ∧ st = StO.get [(.par 0, some (.slt 9 1 (l.map .str))), (.loc 2, some (.var 26 [.t (.int .i64 0), .t (.bool false), .t (.int .i64 0), .t (.str ⟨#[]⟩), .t .nilsl, .t .nilsl])), (.loc 3, some (.var 26 [.t (.int .i64 4), .t (.bool false), .t (.int .i64 0), .t (.str ⟨#[]⟩), .t .nilsl, .row (.loc 100)])), (.loc 100, some (.slt 26 6 ((l.take j).map fun s => (Nd.ofText s).toT)))])
    ?_ (n := l.length) ⟨0, by omega, rfl, rfl, rfl⟩
  rintro p env st ⟨j, hj, rfl, rfl, rfl⟩
  by_cases hlt : j < l.length
  · have ht := Text_spec (l.getD (j : Int).toNat default)
    have hg : l.getD (j : Int).toNat default = l[j] := by simp [List.getD_eq_getElem?_getD, hlt]
    rw [Nd.toT_eq] at ht
    repeat' (first | (with_reducible refine codeT_seq ?_) | (with_reducible refine codeT_block ?_) | (with_reducible refine codeT_skip ?_) | (with_reducible refine codeT_ret ?_) | (with_reducible refine codeT_exit ?_) | (with_reducible refine codeT_regionL ?_) | ((with_reducible refine codeT_region_drawL ?_ ?_); · rfl) | (with_reducible refine lx_nil ?_) | (with_reducible refine q_then ?_) | (with_reducible refine q_then_exit ?_) | (with_reducible refine q_block ?_) | ((with_reducible refine q_block_same ?_ ?_); · rfl) | (with_reducible refine q_loop_exit ?_) | ((with_reducible refine q_region_draw ?_ ?_); · rfl) | ((with_reducible refine g_move ?_); first | refine lx_move (r := (.t _)) rfl rfl rfl rfl rfl ?_) | ((with_reducible refine g_load ?_); first | refine lx_load_var rfl rfl rfl rfl rfl rfl rfl rfl ?_ | refine lx_load_varA (r := (.agg _)) rfl rfl rfl rfl rfl rfl rfl rfl rfl ?_ | refine lx_load_elsM rfl rfl rfl rfl rfl rfl rfl rfl ?_ ?_) | ((with_reducible refine g_fieldAddr ?_); first | refine lx_fieldAddr rfl rfl rfl rfl rfl rfl rfl ?_) | ((with_reducible refine g_binOp ?_); first | refine lx_arith rfl rfl rfl rfl rfl rfl rfl ?_) | ((with_reducible refine g_assign ?_); first | refine lx_assign (r := (.t _)) rfl rfl rfl rfl rfl ?_) | ((with_reducible refine g_store ?_); first | refine lx_store_var (r := (.agg _)) rfl rfl rfl rfl rfl rfl rfl rfl rfl rfl ?_ | refine lx_store_var (r := (.row _)) rfl rfl rfl rfl rfl rfl rfl rfl rfl rfl ?_) | ((with_reducible refine g_indexAddr ?_); first | refine lx_indexAddr_row rfl rfl rfl rfl rfl rfl rfl ?_ ?_ ?_) | ((with_reducible refine g_buildSlice ?_); first | refine lx_buildSlice rfl rfl rfl rfl rfl rfl rfl ?_) | ((with_reducible refine g_append ?_); first | refine lx_append_row rfl rfl rfl rfl rfl rfl rfl rfl rfl rfl ?_ ?_ ?_) | ((with_reducible refine g_call ?_); first | refine lx_callT rfl rfl ht rfl rfl (ArgsLE.refl _) rfl rfl rfl rfl rfl ?_) | refine c_condP rfl (fun hc => ?_) (fun hc => ?_))
    all_goals try omega
    all_goals try (simp only [List.length_map, List.length_cons, List.length_nil, List.length_take]; omega)
    refine q_loop (n' := l.length - (j + 1)) (by omega) ((ghost_keep2 [2, 3, 7, 8, 9] [.par 0, .loc 2, .loc 3, .loc 18] rfl rfl).trans (ghost_renL2 (.loc 18) (.loc 100) rfl rfl rfl rfl)) ⟨j + 1, by omega, rfl, by rw [wrap64 (by omega) (by omega)]; rfl, ?_⟩
    rw [List.take_add_one, List.getElem?_eq_getElem hlt, ← hg, Option.toList_some, List.map_append, List.map_singleton]
    have e := Nd.toT_eq 3 false 0 (l.getD (j : Int).toNat default) [] []
    rw [show (Nd.ofText (l.getD (j : Int).toNat default)).toT = _ from e]
    rfl
  · repeat' (first | (with_reducible refine codeT_seq ?_) | (with_reducible refine codeT_block ?_) | (with_reducible refine codeT_skip ?_) | (with_reducible refine codeT_ret ?_) | (with_reducible refine codeT_exit ?_) | (with_reducible refine codeT_regionL ?_) | ((with_reducible refine codeT_region_drawL ?_ ?_); · rfl) | (with_reducible refine lx_nil ?_) | (with_reducible refine q_then ?_) | (with_reducible refine q_then_exit ?_) | ((with_reducible refine q_block_same ?_ ?_); · rfl) | (with_reducible refine q_loop_exit ?_) | ((with_reducible refine g_move ?_); first | refine lx_move (r := (.t _)) rfl rfl rfl rfl rfl ?_) | ((with_reducible refine g_load ?_); first | refine lx_load_var rfl rfl rfl rfl rfl rfl rfl rfl ?_ | refine lx_load_varA (r := (.agg _)) rfl rfl rfl rfl rfl rfl rfl rfl rfl ?_ | refine lx_load_elsM rfl rfl rfl rfl rfl rfl rfl rfl ?_ ?_) | ((with_reducible refine g_fieldAddr ?_); first | refine lx_fieldAddr rfl rfl rfl rfl rfl rfl rfl ?_) | ((with_reducible refine g_binOp ?_); first | refine lx_arith rfl rfl rfl rfl rfl rfl rfl ?_) | ((with_reducible refine g_assign ?_); first | refine lx_assign (r := (.t _)) rfl rfl rfl rfl rfl ?_) | ((with_reducible refine g_store ?_); first | refine lx_store_var (r := (.agg _)) rfl rfl rfl rfl rfl rfl rfl rfl rfl rfl ?_) | ((with_reducible refine g_indexAddr ?_); first | refine lx_indexAddr_row rfl rfl rfl rfl rfl rfl rfl ?_ ?_ ?_) | refine c_condP rfl (fun hc => ?_) (fun hc => ?_))
    all_goals try (exfalso; omega)
    have hj2 : j = l.length := by omega
    subst hj2
    rw [List.take_length, List.map_map]
    refine q_ghost (ghost_keep2 [2] [.par 0, .loc 2, .loc 100] rfl rfl) ?_
    refine q_ghost (ghost_freezeL (id := .loc 100) rfl rfl rfl) ?_
    refine q_done (q_ret ?_ (stHas_spec ⟨rfl, trivial⟩)); refine resT_cell rfl rfl rfl inferInstance rfl inferInstance rfl ?_; exact TLe.av (by repeat first | exact TLe.refl _ | exact TLe.nil _ | exact TLe.esl _ | refine TLe.agg ?_ | refine TLs.cons ?_ ?_ | exact TLs.nil)

theorem ofTexts_ok (l : List ByteArray) (h : l.length ≤ 1000000000) : (Nd.ofTexts l).Ok := by
  refine .mk (by simp) (by simp; omega) fun x hx => ?_
  obtain ⟨s, _, rfl⟩ := List.mem_map.1 hx
  exact ofText_ok s
theorem ofTexts_read (l : List ByteArray) : (Nd.ofTexts l).readTexts = (l, true) := by
  unfold Nd.readTexts
  have h1 : Nd.allText (Nd.ofTexts l).items = true := by
    simp [Nd.allText, Nd.ofTexts, Nd.items, Nd.ofText, Nd.kind]
  rw [if_pos ⟨rfl, h1⟩]
  have : (Nd.ofTexts l).items.map Nd.text = l := by
    show (l.map Nd.ofText).map Nd.text = l
    rw [List.map_map]
    have : (Nd.text ∘ Nd.ofText) = id := by funext s; rfl
    rw [this, List.map_id]
  rw [this]
theorem ofTexts_inj (l m : List ByteArray) : (Nd.ofTexts l).same (Nd.ofTexts m) = decide (l = m) := by
  have h := ofTexts_read l
  have h2 := ofTexts_read m
  by_cases e : l = m
  · subst e; rw [Nd.same_refl]; simp
  · have : ¬ (Nd.ofTexts l).same (Nd.ofTexts m) = true := fun hs => by
      have := (Nd.same_iff _ _).1 hs
      rw [this, h2] at h
      exact e (congrArg Prod.fst h).symm
    simp only [Bool.not_eq_true] at this
    rw [this]; simp [e]
set_option maxHeartbeats 8000000 in
theorem NodeTexts_spec {oF oA : Obj} {V : ByteArray → Bool} (hS : VSpec oF oA V) (hV : VOk V) (l : List ByteArray) (a b : Int) (hsz : ∀ s ∈ l, s.size ≤ 4611686018427387903) : Spec Tryd.prog 5 [.t (.sl 1 (l.map .str)), .t (.int .i64 a), .t (.int .i64 b)] [(.par 100, .dat (.fix 0 oF)), (.par 101, .dat (.fix 1 oA))] (.t (.bool true)) [(.par 100, .dat (.fix 0 oF)), (.par 101, .dat (.fix 1 oA))] := by
  have hA := awake_spec hS hV
  by_cases hl : (l.length : Int) ≤ 40
  · have hT := Texts_spec l (by omega)
    have okN := ofTexts_ok l (by omega)
    have hR := ReadTexts_spec (Nd.ofTexts l) (by show (l.map Nd.ofText).length ≤ _; rw [List.length_map]; omega)
    rw [ofTexts_read] at hR
    simp only at hR
    generalize hn : Nd.ofTexts l = n at *
    have hT := hT.res n.toT_full
    rw [n.toT_full] at hR
    have hL2 := List_rows [Nd.ofText aS, Nd.ofNum 1] (.mk (by simp) (by simp) (by
      intro x hx
      simp only [List.mem_cons, List.not_mem_nil, or_false] at hx
      rcases hx with rfl | rfl
      · exact ofText_ok _
      · exact ofNum_ok _))
    have hR2 := ReadTexts_spec (Nd.mk 4 false 0 eS [] [Nd.ofText aS, Nd.ofNum 1]) (by simp [Nd.items])
    have eR2 : (Nd.mk 4 false 0 eS [] [Nd.ofText aS, Nd.ofNum 1]).readTexts = ([], false) := by rfl
    rw [eR2] at hR2
    have n1 : Spec Tryd.prog 31 [.t (.int .i64 1)] [] (.t (Nd.ofNum 1).toT) [] := Number_spec 1
    have t1 : Spec Tryd.prog 30 [.t (.str aS)] [] (.t (Nd.ofText aS).toT) [] := Text_spec aS
    simp only [Nd.ofNum, Nd.ofText, Nd.toT_eq, List.map_cons, List.map_nil] at hL2 hR2 n1 t1
    refine spec_intro (env0 := [(0, _), (1, _), (2, _)]) (st0 := [(_, some _), (_, some _)]) Tryd.func5 rfl rfl rfl rfl ?_
    repeat' (first | (with_reducible refine codeT_seq ?_) | (with_reducible refine codeT_block ?_) | (with_reducible refine codeT_skip ?_) | (with_reducible refine codeT_ret ?_) | (with_reducible refine codeT_regionL ?_) | (with_reducible refine lx_nil ?_) | (with_reducible refine q_then ?_) | (with_reducible refine q_then_ret ?_) | ((with_reducible refine g_move ?_); first | refine lx_move (r := (.t _)) rfl rfl rfl rfl rfl ?_ | refine lx_move (r := (.tup _)) rfl rfl rfl rfl rfl ?_) | ((with_reducible refine g_load ?_); first | refine lx_load_varA (r := (.t (.agg _))) rfl rfl rfl rfl rfl rfl rfl rfl rfl ?_) | ((with_reducible refine g_binOp ?_); first | refine lx_arith rfl rfl rfl rfl rfl rfl rfl ?_) | ((with_reducible refine g_assign ?_); first | refine lx_assign (r := (.t _)) rfl rfl rfl rfl rfl ?_) | ((with_reducible refine g_pick ?_); first | refine lx_pickF (r := (.t _)) rfl rfl rfl rfl rfl rfl ?_) | ((with_reducible refine g_alloc ?_); first | refine lx_alloc rfl rfl rfl rfl rfl rfl rfl ?_) | ((with_reducible refine g_store ?_); first | refine lx_store_var (r := (.t (.agg _))) rfl rfl rfl rfl rfl rfl rfl rfl rfl rfl ?_) | ((with_reducible refine g_unOp ?_); first | refine lx_not rfl rfl rfl rfl rfl ?_) | ((with_reducible refine g_extract ?_); first | refine lx_extract rfl rfl rfl rfl rfl rfl ?_) | ((with_reducible refine g_len ?_); first | refine lx_len_map rfl rfl rfl rfl rfl ?_) | ((with_reducible refine g_call ?_); first | exact absurd hl (by omega) | refine lx_callT rfl rfl hT rfl rfl (ArgsLE.refl _) rfl rfl rfl rfl rfl ?_ | refine lx_callT rfl rfl hR rfl rfl (ArgsLE.refl _) rfl rfl rfl rfl rfl ?_) | refine c_condP rfl (fun hc => ?_) (fun hc => ?_) | refine c_condN rfl (fun hc => ?_) (fun hc => ?_))
    all_goals try exact absurd rfl ‹¬ (l.length : Int) = l.length›
    · refine codeT_ghost (ghost_keep2 [0, 1, 2, 6, 7, 8, 36, 37, 38] [.loc 7, .par 100, .par 101] rfl rfl) ?_
      refine codeT_loop (fun p env st => ∃ (j : Nat), j ≤ l.length ∧ p = l.length - j ∧
          env = EnvL.get [(0, .t (.sl 1 (l.map .str))), (1, .t (.int .i64 a)), (2, .t (.int .i64 b)), (6, .t (.bool false)), (7, .ref (.loc 7) 0 0 0), (8, .t (.sl 1 (l.map .str))), (36, .t (.sl 1 (l.map .str))), (37, .t (.int .i64 l.length)), (38, .t (.int .i64 (j : Int)))] ∧
          st = StO.get [(.loc 7, some (.var 26 [.t (.int .i64 n.kind), .t (.bool n.bool), .t (.int .i64 n.num), .t (.str n.text), .t (.sl 1 (n.names.map .str)), .t (.sl 6 (n.items.map Nd.toT))])), (.par 100, some (.dat (.fix 0 oF))), (.par 101, some (.dat (.fix 1 oA)))])
        ?_ (n := l.length) ⟨0, by omega, rfl, rfl, rfl⟩
      clear hc
      rintro p env st ⟨j, hj, rfl, rfl, rfl⟩
      by_cases hlt : j < l.length
      · repeat' (first | (with_reducible refine codeT_seq ?_) | (with_reducible refine codeT_block ?_) | (with_reducible refine codeT_skip ?_) | (with_reducible refine codeT_ret ?_) | (with_reducible refine codeT_exit ?_) | (with_reducible refine codeT_regionL ?_) | (with_reducible refine lx_nil ?_) | (with_reducible refine q_then ?_) | (with_reducible refine q_then_exit ?_) | (with_reducible refine q_then_ret ?_) | (with_reducible refine q_block ?_) | (with_reducible refine q_block_ret ?_) | ((with_reducible refine q_block_same ?_ ?_); · rfl) | (with_reducible refine q_loop_exit ?_) | (with_reducible refine q_loop_ret ?_) | ((with_reducible refine g_move ?_); first | refine lx_move (r := (.t _)) rfl rfl rfl rfl rfl ?_) | ((with_reducible refine g_load ?_); first | refine lx_load_tp rfl rfl rfl rfl rfl rfl rfl ?_) | ((with_reducible refine g_binOp ?_); first | refine lx_arith rfl rfl rfl rfl rfl rfl rfl ?_ | refine lx_str_ne rfl rfl rfl rfl rfl rfl ?_) | ((with_reducible refine g_assign ?_); first | refine lx_assign (r := (.t _)) rfl rfl rfl rfl rfl ?_) | ((with_reducible refine g_indexAddr ?_); first | refine lx_indexAddr_map rfl rfl rfl rfl rfl rfl ?_ ?_ ?_) | ((with_reducible refine g_len ?_); first | refine lx_len_map rfl rfl rfl rfl rfl ?_) | ((with_reducible refine g_call ?_); first | exact absurd (Int.ofNat_lt.2 hlt) ‹¬ (j : Int) < (l.length : Int)›) | refine c_condP rfl (fun hc => ?_) (fun hc => ?_) | refine c_condN rfl (fun hc => ?_) (fun hc => ?_))
        all_goals try (exfalso; first | omega | exact absurd rfl hc)
        all_goals try omega
        exact q_loop (n' := l.length - (j + 1)) (by omega) (ghost_keep2 [0, 1, 2, 6, 7, 8, 36, 37, 38] [.loc 7, .par 100, .par 101] rfl rfl) ⟨j + 1, by omega, rfl, by rw [wrap64 (by omega) (by omega)]; rfl, rfl⟩
      · by_cases h0 : (l.length : Int) = 0
        · repeat' (first | (with_reducible refine codeT_seq ?_) | (with_reducible refine codeT_block ?_) | (with_reducible refine codeT_skip ?_) | (with_reducible refine codeT_ret ?_) | (with_reducible refine codeT_exit ?_) | (with_reducible refine codeT_regionL ?_) | (with_reducible refine lx_nil ?_) | (with_reducible refine q_then ?_) | (with_reducible refine q_then_exit ?_) | (with_reducible refine q_then_ret ?_) | (with_reducible refine q_block ?_) | (with_reducible refine q_block_ret ?_) | ((with_reducible refine q_block_same ?_ ?_); · rfl) | (with_reducible refine q_loop_exit ?_) | (with_reducible refine q_loop_ret ?_) | ((with_reducible refine g_move ?_); first | refine lx_move (r := (.t _)) rfl rfl rfl rfl rfl ?_) | ((with_reducible refine g_load ?_); first | refine lx_load_tp rfl rfl rfl rfl rfl rfl rfl ?_) | ((with_reducible refine g_binOp ?_); first | refine lx_arith rfl rfl rfl rfl rfl rfl rfl ?_ | refine lx_str_ne rfl rfl rfl rfl rfl rfl ?_) | ((with_reducible refine g_assign ?_); first | refine lx_assign (r := (.t _)) rfl rfl rfl rfl rfl ?_) | ((with_reducible refine g_indexAddr ?_); first | refine lx_indexAddr_map rfl rfl rfl rfl rfl rfl ?_ ?_ ?_) | ((with_reducible refine g_len ?_); first | refine lx_len_map rfl rfl rfl rfl rfl ?_) | ((with_reducible refine g_call ?_); first | refine lx_call (r' := .t (.bool true)) [] rfl rfl hA (ArgsLE.refl _) rfl ⟨rfl, rfl, trivial⟩ rfl rfl rfl rfl rfl rfl rfl rfl rfl rfl ?_ | exact absurd h0 ‹¬ (l.length : Int) = 0›) | refine c_condP rfl (fun hc => ?_) (fun hc => ?_) | refine c_condN rfl (fun hc => ?_) (fun hc => ?_))
          all_goals try (exfalso; omega)
          exact q_ret (resT_oneE rfl rfl rfl) (stHas_spec ⟨rfl, rfl, trivial⟩)
        · have hM := Mod_spec a l.length (by omega)
          have hk := modI_lt a l.length (by omega)
          generalize modI a l.length = k at *
          have hsp := Spoil_spec (l.getD k.toNat default) a b (hsz _ (by rw [List.getD_eq_getElem?_getD, List.getElem?_eq_getElem (show k.toNat < l.length by omega)]; exact List.getElem_mem _))
          generalize spoil (l.getD k.toNat default) a b = r at *
          have hTr := Texts_row (l.set k.toNat r) (by rw [List.length_set]; omega)
          have hSm := same_spec n okN (Nd.ofTexts (l.set k.toNat r))
          rw [← hn, ofTexts_inj, hn] at hSm
          have hx : ((l.map T.str).set k.toNat (.str r))[k.toNat]? = some (.str r) := List.getElem?_set_self (by rw [List.length_map]; omega)
          have heq : decide (l = l.set k.toNat r) = decide (r = l.getD k.toNat default) := by
            refine decide_eq_decide.2 ⟨fun e => ?_, fun e => ?_⟩
            · have e3 := congrArg (fun m : List ByteArray => m.getD k.toNat default) e
              have e4 : (l.set k.toNat r).getD k.toNat default = r := by rw [List.getD_eq_getElem?_getD, List.getElem?_set_self (by omega)]; rfl
              exact (e3.trans e4).symm
            · refine List.ext_getElem? fun q => ?_
              rw [List.getElem?_set]
              split
              · rename_i e2; subst e2
                rw [if_pos (by omega), e, List.getD_eq_getElem?_getD, List.getElem?_eq_getElem (show k.toNat < l.length by omega)]; rfl
              · rfl
          rw [heq] at hSm
          generalize Nd.ofTexts (l.set k.toNat r) = n2 at *
          rw [List.map_set] at hTr
          have hTr := hTr.res n2.toT_full
          rw [n.toT_full, n2.toT_full] at hSm
          repeat' (first | (with_reducible refine codeT_seq ?_) | (with_reducible refine codeT_block ?_) | (with_reducible refine codeT_skip ?_) | (with_reducible refine codeT_ret ?_) | (with_reducible refine codeT_exit ?_) | (with_reducible refine codeT_regionL ?_) | ((with_reducible refine codeT_region_drawL ?_ ?_); · rfl) | (with_reducible refine lx_nil ?_) | (with_reducible refine q_then ?_) | (with_reducible refine q_then_exit ?_) | (with_reducible refine q_then_ret ?_) | (with_reducible refine q_block ?_) | (with_reducible refine q_block_ret ?_) | ((with_reducible refine q_block_same ?_ ?_); · rfl) | (with_reducible refine q_loop_exit ?_) | (with_reducible refine q_loop_ret ?_) | ((with_reducible refine q_region_draw ?_ ?_); · rfl) | refine lx_load_els rfl rfl rfl rfl rfl rfl rfl hx rfl ?_ | ((with_reducible refine g_guard ?_); first | refine lx_skip rfl rfl rfl ?_) | ((with_reducible refine g_move ?_); first | refine lx_move (r := (.t _)) rfl rfl rfl rfl rfl ?_ | refine lx_move (r := (.row _)) rfl rfl rfl rfl rfl ?_ | refine lx_move (r := (.tup _)) rfl rfl rfl rfl rfl ?_) | ((with_reducible refine g_load ?_); first | refine lx_load_varA (r := (.t (.agg _))) rfl rfl rfl rfl rfl rfl rfl rfl rfl ?_ | refine lx_load_tp rfl rfl rfl rfl rfl rfl rfl ?_) | ((with_reducible refine g_binOp ?_); first | refine lx_arith rfl rfl rfl rfl rfl rfl rfl ?_ | refine lx_str_eq rfl rfl rfl rfl rfl rfl ?_ | refine lx_str_ne rfl rfl rfl rfl rfl rfl ?_ | refine lx_bool_eq rfl rfl rfl rfl rfl rfl ?_) | ((with_reducible refine g_assign ?_); first | refine lx_assign (r := (.t _)) rfl rfl rfl rfl rfl ?_ | refine lx_assign (r := (.row _)) rfl rfl rfl rfl rfl ?_) | ((with_reducible refine g_pick ?_); first | refine lx_pickT (r := (.t _)) rfl rfl rfl rfl rfl rfl ?_ | refine lx_pickF (r := (.t _)) rfl rfl rfl rfl rfl rfl ?_) | ((with_reducible refine g_store ?_); first | refine lx_store_slt rfl rfl rfl rfl rfl rfl ?_ ?_ ?_) | ((with_reducible refine g_indexAddr ?_); first | refine lx_indexAddr_map rfl rfl rfl rfl rfl rfl ?_ ?_ ?_ | refine lx_indexAddr_row rfl rfl rfl rfl rfl rfl rfl ?_ ?_ ?_) | ((with_reducible refine g_unOp ?_); first | refine lx_not rfl rfl rfl rfl rfl ?_) | ((with_reducible refine g_extract ?_); first | refine lx_extract rfl rfl rfl rfl rfl rfl ?_) | ((with_reducible refine g_buildSlice ?_); first | refine lx_buildSlice rfl rfl rfl rfl rfl rfl rfl ?_) | ((with_reducible refine g_len ?_); first | refine lx_len_map rfl rfl rfl rfl rfl ?_) | ((with_reducible refine g_append ?_); first | refine lx_append_nil_sl rfl rfl rfl rfl rfl rfl rfl rfl ?_ ?_ ?_) | ((with_reducible refine g_call ?_); first | exact absurd ‹(l.length : Int) = 0› h0 | refine lx_callT rfl rfl hM rfl rfl (ArgsLE.refl _) rfl rfl rfl rfl rfl ?_ | refine lx_callT rfl rfl hsp rfl rfl (ArgsLE.refl _) rfl rfl rfl rfl rfl ?_ | refine lx_callT rfl rfl n1 rfl rfl (ArgsLE.refl _) rfl rfl rfl rfl rfl ?_ | refine lx_callT rfl rfl t1 rfl rfl (ArgsLE.refl _) rfl rfl rfl rfl rfl ?_ | refine lx_call (r' := .t (.agg [_, _, _, _, _, _])) [(.par 0, .loc 73)] rfl rfl hL2 (ArgsLE.refl _) rfl ⟨rfl, trivial⟩ rfl rfl rfl rfl rfl rfl rfl rfl rfl rfl ?_ | refine lx_callR (r' := .t (.agg [_, _, _, _, _, _])) [(.par 0, .loc 59)] rfl rfl hTr (ArgsLE.refl _) rfl ⟨rfl, trivial⟩ rfl rfl rfl rfl rfl rfl rfl rfl ?_ | refine lx_callT rfl rfl hR2 rfl rfl (ArgsLE.refl _) rfl rfl rfl rfl rfl ?_ | refine lx_callT rfl rfl hSm rfl rfl (ArgsLE.refl _) rfl rfl rfl rfl rfl ?_ | refine lx_call (r' := .t (.bool true)) [] rfl rfl hA (ArgsLE.refl _) rfl ⟨rfl, rfl, trivial⟩ rfl rfl rfl rfl rfl rfl rfl rfl rfl rfl ?_) | refine c_condP rfl (fun hc => ?_) (fun hc => ?_) | refine c_condN rfl (fun hc => ?_) (fun hc => ?_) | refine lx_splitP rfl (fun hc => ?_) (fun hc => ?_))
          all_goals try (exfalso; omega)
          all_goals try (simp only [List.length_map]; omega)
          all_goals try omega
          all_goals try (simp only [List.length_set, List.length_map]; omega)
          all_goals try rfl
          · exact q_ret (resT_oneE rfl rfl rfl) (stHas_spec ⟨rfl, rfl, trivial⟩)
          · exact absurd rfl hc
  · refine spec_intro (env0 := [(0, _), (1, _), (2, _)]) (st0 := [(_, some _), (_, some _)]) Tryd.func5 rfl rfl rfl rfl ?_
    repeat' (first | (with_reducible refine codeT_seq ?_) | (with_reducible refine codeT_skip ?_) | (with_reducible refine codeT_ret ?_) | (with_reducible refine codeT_regionL ?_) | (with_reducible refine lx_nil ?_) | (with_reducible refine q_then ?_) | (with_reducible refine q_then_ret ?_) | ((with_reducible refine g_move ?_); first | refine lx_move (r := (.t _)) rfl rfl rfl rfl rfl ?_) | ((with_reducible refine g_binOp ?_); first | refine lx_arith rfl rfl rfl rfl rfl rfl rfl ?_) | ((with_reducible refine g_assign ?_); first | refine lx_assign (r := (.t _)) rfl rfl rfl rfl rfl ?_) | ((with_reducible refine g_len ?_); first | refine lx_len_map rfl rfl rfl rfl rfl ?_) | ((with_reducible refine g_call ?_); first | refine lx_call (r' := .t (.bool true)) [] rfl rfl hA (ArgsLE.refl _) rfl ⟨rfl, rfl, trivial⟩ rfl rfl rfl rfl rfl rfl rfl rfl rfl rfl ?_ | exact absurd hl (by omega)) | refine c_condP rfl (fun hc => ?_) (fun hc => ?_))
    all_goals try (exfalso; omega)
    exact q_ret (resT_oneE rfl rfl rfl) (stHas_spec ⟨rfl, rfl, trivial⟩)
end Go.AL
