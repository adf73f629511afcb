/- What the document's Parse of versions answers. -/
import Derived.Test.YtkfjchmmhabocaaDoorVer2
import Derived.Test.YtkfjchmmhabocaaDoorAl4
import Derived.Test.YtkfjchmmhabocaaDoorNod1
import Derived.Test.YtkfjchmmhabocaaDoorVer1
set_option linter.unusedVariables false
namespace Go.AL
open Go Go.Proofs Go.RowKit

def nm3 : List ByteArray := [⟨#[74, 83, 79, 78]⟩, ⟨#[67, 66, 79, 82]⟩, ⟨#[77, 71, 80, 75]⟩]
def fk : Nat → ByteArray → Int
  | 0, _ => 0
  | k + 1, t => if t = nm3.getD k default then (k : Int) + 1 else fk k t
theorem fk3 (t : ByteArray) : fk 3 t = formOf t := by
  unfold formOf
  simp only [fk, nm3, List.getD_cons_zero, List.getD_cons_succ]
  by_cases h1 : t = ⟨#[74, 83, 79, 78]⟩
  · subst h1; rfl
  · by_cases h2 : t = ⟨#[67, 66, 79, 82]⟩
    · subst h2; rfl
    · by_cases h3 : t = ⟨#[77, 71, 80, 75]⟩
      · subst h3; rfl
      · simp [h1, h2, h3]
set_option maxHeartbeats 8000000 in
theorem RParse_spec (s : ByteArray) (hs : s.size ≤ 1000000000) : Spec Tryd.prog 17 [.t (.str s)] [] (.tup [.t (parseR s).1.toT, .t (.int .i64 (parseR s).2)]) [] := by
  by_cases h17 : s.size = 17
  · have n1 := rparse_spec (s.extract 4 5) (by rw [ByteArray.size_extract]; omega)
    have n2 := rparse_spec (s.extract 5 6) (by rw [ByteArray.size_extract]; omega)
    have n3 := rparse_spec (s.extract 10 16) (by rw [ByteArray.size_extract]; omega)
    have hT := RValid_spec (Vr.rdR s) (by show (s.extract 0 4).size ≤ _; rw [ByteArray.size_extract]; omega)
    unfold parseR
    rw [if_pos h17]
    obtain ⟨Y, hY⟩ : ∃ Y, Y = (if (Vr.rdR s).valid = true ∧ s.data.toList.getD 16 default = 95 then (Vr.rdR s, (0 : Int)) else (Vr.zero, 10)) := ⟨_, rfl⟩
    rw [← hY]
    generalize he : (Vr.rdR s).valid = er at *
    unfold Vr.rdR Vr.toT at hT
    simp only at hT
    unfold Vr.rdR at hY
    clear he
    generalize rgo (s.extract 4 5).data.toList 0 = m1 at *
    generalize rgo (s.extract 5 6).data.toList 0 = m2 at *
    generalize rgo (s.extract 10 16).data.toList 0 = m3 at *
    have hb16 : bAt s 16 = ((s.data.toList.getD 16 default).toNat : Int) := rfl
    refine spec_intro (env0 := [(0, _)]) (st0 := []) Tryd.func17 rfl rfl rfl rfl ?_
    repeat' (first | (with_reducible refine codeT_seq ?_) | (with_reducible refine codeT_block ?_) | (with_reducible refine codeT_skip ?_) | (with_reducible refine codeT_regionL ?_) | ((with_reducible refine codeT_region_drawL ?_ ?_); · rfl) | (with_reducible refine lx_nil ?_) | (with_reducible refine q_then ?_) | ((with_reducible refine q_region_draw ?_ ?_); · rfl) | (exfalso; omega) | ((with_reducible refine g_move ?_); first | refine lx_move (r := (.t _)) rfl rfl rfl rfl rfl ?_) | ((with_reducible refine g_binOp ?_); first | refine lx_arith rfl rfl rfl rfl rfl rfl rfl ?_) | ((with_reducible refine g_assign ?_); first | refine lx_assign (r := (.t _)) rfl rfl rfl rfl rfl ?_) | ((with_reducible refine g_alloc ?_); first | refine lx_alloc rfl rfl rfl rfl rfl rfl rfl ?_) | ((with_reducible refine g_store ?_); first | refine lx_store_var (r := (.t (.agg _))) rfl rfl rfl rfl rfl rfl rfl rfl rfl rfl ?_) | ((with_reducible refine g_slice ?_); first | refine lx_slice_str rfl rfl rfl ⟨_, rfl⟩ rfl rfl rfl ?_ ?_ ?_ ?_ | refine lx_slice_str rfl rfl ⟨_, rfl⟩ ⟨_, rfl⟩ rfl rfl rfl ?_ ?_ ?_ ?_) | ((with_reducible refine g_buildSlice ?_); first | refine lx_buildSlice rfl rfl rfl rfl rfl rfl rfl ?_) | ((with_reducible refine g_build ?_); first | refine lx_build (r := (.t (.agg _))) rfl rfl rfl rfl rfl rfl rfl ?_) | ((with_reducible refine g_len ?_); first | refine lx_len_str rfl rfl rfl rfl rfl ?_ | refine lx_len_row rfl rfl rfl rfl rfl rfl ?_) | ((with_reducible refine g_call ?_); first | refine lx_callT rfl rfl n1 rfl rfl (ArgsLE.refl _) rfl rfl rfl rfl rfl ?_ | refine lx_callT rfl rfl n2 rfl rfl (ArgsLE.refl _) rfl rfl rfl rfl rfl ?_ | refine lx_callT rfl rfl n3 rfl rfl (ArgsLE.refl _) rfl rfl rfl rfl rfl ?_) | refine c_condN rfl (fun hc => ?_) (fun hc => ?_))
    all_goals try omega
    refine codeT_ghost (ghost_keep2 [0, 2, 3, 4, 23, 24, 25] [.loc 2, .loc 4, .loc 23] rfl rfl) ?_
    obtain ⟨t, ht⟩ : ∃ t, t = s.extract 6 10 := ⟨_, rfl⟩
    rw [← ht] at hY hT
    refine codeT_loop (fun q env st => ∃ (k : Nat), k ≤ 3 ∧ q = 3 - k ∧
        env = EnvL.get [(0, .t (.str s)), (2, .ref (.loc 2) 0 0 0), (3, .t (.int .i64 0)), (4, .ref (.loc 4) 0 0 0), (23, .row (.loc 23)), (24, .t (.int .i64 3)), (25, .t (.int .i64 (k : Int)))] ∧
        st = StO.get [(.loc 2, some (.var 24 [.t (.str ⟨#[]⟩), .t (.int .i64 0), .t (.int .i64 0), .t (.int .i64 0), .t (.int .i64 0)])), (.loc 4, some (.var 24 [.t (.str (s.extract 0 4)), .t (.int .i64 m1), .t (.int .i64 m2), .t (.int .i64 (fk k t)), .t (.int .i64 m3)])), (.loc 23, some (.slt 9 1 (nm3.map .str)))])
      ?_ (n := 3) ⟨0, by omega, rfl, rfl, rfl⟩
    rintro q env st ⟨k, hk, rfl, rfl, rfl⟩
    have wk : IntKind.i64.wrap ((k : Int) + 1) = ((k + 1 : Nat) : Int) := by rw [wrap64 (by omega) (by omega)]; omega
    by_cases hlt : k < 3
    · have hkk : (k : Int).toNat = k := Int.toNat_natCast k
      by_cases hm : t = nm3.getD k default
      · have hcc : s.extract 6 10 = nm3.getD (k : Int).toNat default := by rw [← ht, hkk]; exact hm
        repeat' (first | (with_reducible refine codeT_seq ?_) | (with_reducible refine codeT_block ?_) | (with_reducible refine codeT_skip ?_) | (with_reducible refine codeT_exit ?_) | (with_reducible refine codeT_regionL ?_) | (with_reducible refine lx_nil ?_) | (with_reducible refine q_then ?_) | (with_reducible refine q_then_exit ?_) | (with_reducible refine q_block ?_) | ((with_reducible refine q_block_same ?_ ?_); · rfl) | (with_reducible refine q_loop_exit ?_) | (exfalso; omega) | exact absurd hcc ‹_› | ((with_reducible refine g_move ?_); first | refine lx_move (r := (.t _)) rfl rfl rfl rfl rfl ?_) | ((with_reducible refine g_load ?_); first | refine lx_load_elsM rfl rfl rfl rfl rfl rfl rfl rfl ?_ ?_) | ((with_reducible refine g_fieldAddr ?_); first | refine lx_fieldAddr rfl rfl rfl rfl rfl rfl rfl ?_) | ((with_reducible refine g_binOp ?_); first | refine lx_arith rfl rfl rfl rfl rfl rfl rfl ?_ | refine lx_str_eq rfl rfl rfl rfl rfl rfl ?_) | ((with_reducible refine g_assign ?_); first | refine lx_assign (r := (.t _)) rfl rfl rfl rfl rfl ?_) | ((with_reducible refine g_store ?_); first | refine lx_store_var (r := (.t _)) rfl rfl rfl rfl rfl rfl rfl rfl rfl rfl ?_) | ((with_reducible refine g_indexAddr ?_); first | refine lx_indexAddr_row rfl rfl rfl rfl rfl rfl rfl ?_ ?_ ?_) | ((with_reducible refine g_slice ?_); first | refine lx_slice_str rfl rfl ⟨_, rfl⟩ ⟨_, rfl⟩ rfl rfl rfl ?_ ?_ ?_ ?_) | refine c_condP rfl (fun hc => ?_) (fun hc => ?_))
        all_goals try omega
        all_goals try (show (k : Int) < 3; omega)
        all_goals try (show (k : Int).toNat < 3; omega)
        exact q_loop (n' := 3 - (k + 1)) (by omega) (ghost_keep2 [0, 2, 3, 4, 23, 24, 25] [.loc 2, .loc 4, .loc 23] rfl rfl) ⟨k + 1, by omega, rfl, by rw [wk]; rfl, by rw [fk, if_pos hm, wk]; rfl⟩
      · have hcc : ¬ s.extract 6 10 = nm3.getD (k : Int).toNat default := by rw [← ht, hkk]; exact hm
        repeat' (first | (with_reducible refine codeT_seq ?_) | (with_reducible refine codeT_block ?_) | (with_reducible refine codeT_skip ?_) | (with_reducible refine codeT_exit ?_) | (with_reducible refine codeT_regionL ?_) | (with_reducible refine lx_nil ?_) | (with_reducible refine q_then ?_) | (with_reducible refine q_then_exit ?_) | (with_reducible refine q_block ?_) | ((with_reducible refine q_block_same ?_ ?_); · rfl) | (with_reducible refine q_loop_exit ?_) | (exfalso; omega) | exact absurd ‹_› hcc | ((with_reducible refine g_move ?_); first | refine lx_move (r := (.t _)) rfl rfl rfl rfl rfl ?_) | ((with_reducible refine g_load ?_); first | refine lx_load_elsM rfl rfl rfl rfl rfl rfl rfl rfl ?_ ?_) | ((with_reducible refine g_binOp ?_); first | refine lx_arith rfl rfl rfl rfl rfl rfl rfl ?_ | refine lx_str_eq rfl rfl rfl rfl rfl rfl ?_) | ((with_reducible refine g_assign ?_); first | refine lx_assign (r := (.t _)) rfl rfl rfl rfl rfl ?_) | ((with_reducible refine g_indexAddr ?_); first | refine lx_indexAddr_row rfl rfl rfl rfl rfl rfl rfl ?_ ?_ ?_) | ((with_reducible refine g_slice ?_); first | refine lx_slice_str rfl rfl ⟨_, rfl⟩ ⟨_, rfl⟩ rfl rfl rfl ?_ ?_ ?_ ?_) | refine c_condP rfl (fun hc => ?_) (fun hc => ?_))
        all_goals try omega
        all_goals try (show (k : Int) < 3; omega)
        all_goals try (show (k : Int).toNat < 3; omega)
        exact q_loop (n' := 3 - (k + 1)) (by omega) (ghost_keep2 [0, 2, 3, 4, 23, 24, 25] [.loc 2, .loc 4, .loc 23] rfl rfl) ⟨k + 1, by omega, rfl, by rw [wk]; rfl, by rw [fk, if_neg hm]; rfl⟩
    · obtain rfl : k = 3 := by omega
      rw [fk3]
      by_cases he : er = true
      · subst he
        by_cases hx : s.data.toList.getD 16 default = 95
        · have hbx : bAt s 16 = 95 := by rw [hb16, hx]; rfl
          repeat' (first | (with_reducible refine codeT_seq ?_) | (with_reducible refine codeT_skip ?_) | (with_reducible refine codeT_ret ?_) | (with_reducible refine codeT_exit ?_) | (with_reducible refine codeT_regionL ?_) | (with_reducible refine lx_nil ?_) | (with_reducible refine q_then ?_) | (with_reducible refine q_then_exit ?_) | ((with_reducible refine q_block_same ?_ ?_); · rfl) | (with_reducible refine q_loop_exit ?_) | refine c_condF rfl ?_ | (exfalso; omega) | ((with_reducible refine g_move ?_); first | refine lx_move (r := (.t _)) rfl rfl rfl rfl rfl ?_) | ((with_reducible refine g_load ?_); first | refine lx_load_varA (r := (.t (.agg _))) rfl rfl rfl rfl rfl rfl rfl rfl rfl ?_) | ((with_reducible refine g_binOp ?_); first | refine lx_arith rfl rfl rfl rfl rfl rfl rfl ?_) | ((with_reducible refine g_assign ?_); first | refine lx_assign (r := (.t _)) rfl rfl rfl rfl rfl ?_) | ((with_reducible refine g_pick ?_); first | refine lx_pickF (r := (.t _)) rfl rfl rfl rfl rfl rfl ?_) | ((with_reducible refine g_store ?_); first | refine lx_store_var (r := (.t (.agg _))) rfl rfl rfl rfl rfl rfl rfl rfl rfl rfl ?_) | ((with_reducible refine g_index ?_); first | refine lx_index_str rfl rfl rfl rfl rfl rfl ?_ ?_ ?_) | ((with_reducible refine g_unOp ?_); first | refine lx_not rfl rfl rfl rfl rfl ?_) | ((with_reducible refine g_call ?_); first | refine lx_callT rfl rfl hT rfl rfl (ArgsLE.refl _) rfl rfl rfl rfl rfl ?_) | refine c_condN rfl (fun hc => ?_) (fun hc => ?_))
          all_goals try omega
          rw [hY, if_pos ⟨rfl, hx⟩]
          simp only [Vr.toT]
          refine q_ret ?_ (stHas_spec trivial); refine resT_cell_tmp rfl rfl rfl inferInstance rfl inferInstance rfl ?_ ?_; exact TLe.av (by repeat first | exact TLe.refl _ | exact TLe.nil _ | exact TLe.esl _ | refine TLe.agg ?_ | refine TLs.cons ?_ ?_ | exact TLs.nil); exact AVLE.refl _
        · have hbx : ¬ bAt s 16 = 95 := fun h => hx (UInt8.toNat_inj.1 (by rw [hb16] at h; show _ = 95; omega))
          repeat' (first | (with_reducible refine codeT_seq ?_) | (with_reducible refine codeT_skip ?_) | (with_reducible refine codeT_ret ?_) | (with_reducible refine codeT_exit ?_) | (with_reducible refine codeT_regionL ?_) | (with_reducible refine lx_nil ?_) | (with_reducible refine q_then ?_) | (with_reducible refine q_then_exit ?_) | (with_reducible refine q_then_ret ?_) | ((with_reducible refine q_block_same ?_ ?_); · rfl) | (with_reducible refine q_loop_exit ?_) | refine c_condF rfl ?_ | (exfalso; omega) | ((with_reducible refine g_move ?_); first | refine lx_move (r := (.t _)) rfl rfl rfl rfl rfl ?_) | ((with_reducible refine g_load ?_); first | refine lx_load_varA (r := (.t (.agg _))) rfl rfl rfl rfl rfl rfl rfl rfl rfl ?_) | ((with_reducible refine g_binOp ?_); first | refine lx_arith rfl rfl rfl rfl rfl rfl rfl ?_) | ((with_reducible refine g_assign ?_); first | refine lx_assign (r := (.t _)) rfl rfl rfl rfl rfl ?_) | ((with_reducible refine g_pick ?_); first | refine lx_pickF (r := (.t _)) rfl rfl rfl rfl rfl rfl ?_) | ((with_reducible refine g_store ?_); first | refine lx_store_var (r := (.t (.agg _))) rfl rfl rfl rfl rfl rfl rfl rfl rfl rfl ?_) | ((with_reducible refine g_index ?_); first | refine lx_index_str rfl rfl rfl rfl rfl rfl ?_ ?_ ?_) | ((with_reducible refine g_unOp ?_); first | refine lx_not rfl rfl rfl rfl rfl ?_) | ((with_reducible refine g_build ?_); first | refine lx_build (r := (.t (.agg _))) rfl rfl rfl rfl rfl rfl rfl ?_) | ((with_reducible refine g_call ?_); first | refine lx_callT rfl rfl hT rfl rfl (ArgsLE.refl _) rfl rfl rfl rfl rfl ?_) | refine c_condN rfl (fun hc => ?_) (fun hc => ?_))
          all_goals try omega
          rw [hY, if_neg fun h => hx h.2]
          simp only [Vr.toT, Vr.zero]
          refine q_ret ?_ (stHas_spec trivial); refine resT_cell_tmp rfl rfl rfl inferInstance rfl inferInstance rfl ?_ ?_; exact TLe.av (by repeat first | exact TLe.refl _ | exact TLe.nil _ | exact TLe.esl _ | refine TLe.agg ?_ | refine TLs.cons ?_ ?_ | exact TLs.nil); exact AVLE.refl _
      · rw [show er = false by simpa using he] at hT
        repeat' (first | (with_reducible refine codeT_seq ?_) | (with_reducible refine codeT_ret ?_) | (with_reducible refine codeT_exit ?_) | (with_reducible refine codeT_regionL ?_) | (with_reducible refine lx_nil ?_) | (with_reducible refine q_then ?_) | (with_reducible refine q_then_exit ?_) | (with_reducible refine q_then_ret ?_) | ((with_reducible refine q_block_same ?_ ?_); · rfl) | (with_reducible refine q_loop_exit ?_) | refine c_condT rfl ?_ | refine c_condF rfl ?_ | ((with_reducible refine g_guard ?_); first | refine lx_skip rfl rfl rfl ?_) | ((with_reducible refine g_move ?_); first | refine lx_move (r := (.t _)) rfl rfl rfl rfl rfl ?_) | ((with_reducible refine g_load ?_); first | refine lx_load_varA (r := (.t (.agg _))) rfl rfl rfl rfl rfl rfl rfl rfl rfl ?_) | ((with_reducible refine g_binOp ?_); first | refine lx_arith rfl rfl rfl rfl rfl rfl rfl ?_) | ((with_reducible refine g_assign ?_); first | refine lx_assign (r := (.t _)) rfl rfl rfl rfl rfl ?_) | ((with_reducible refine g_pick ?_); first | refine lx_pickT (r := (.t _)) rfl rfl rfl rfl rfl rfl ?_) | ((with_reducible refine g_store ?_); first | refine lx_store_var (r := (.t (.agg _))) rfl rfl rfl rfl rfl rfl rfl rfl rfl rfl ?_) | ((with_reducible refine g_unOp ?_); first | refine lx_not rfl rfl rfl rfl rfl ?_) | ((with_reducible refine g_build ?_); first | refine lx_build (r := (.t (.agg _))) rfl rfl rfl rfl rfl rfl rfl ?_) | ((with_reducible refine g_call ?_); first | refine lx_callT rfl rfl hT rfl rfl (ArgsLE.refl _) rfl rfl rfl rfl rfl ?_))
        rw [hY, if_neg fun h => he h.1]
        simp only [Vr.toT, Vr.zero]
        refine q_ret ?_ (stHas_spec trivial); refine resT_cell_tmp rfl rfl rfl inferInstance rfl inferInstance rfl ?_ ?_; exact TLe.av (by repeat first | exact TLe.refl _ | exact TLe.nil _ | exact TLe.esl _ | refine TLe.agg ?_ | refine TLs.cons ?_ ?_ | exact TLs.nil); exact AVLE.refl _
  · unfold parseR
    rw [if_neg h17]
    refine spec_intro (env0 := [(0, _)]) (st0 := []) Tryd.func17 rfl rfl rfl rfl ?_
    repeat' (first | (with_reducible refine codeT_seq ?_) | (with_reducible refine codeT_skip ?_) | (with_reducible refine codeT_ret ?_) | (with_reducible refine codeT_regionL ?_) | ((with_reducible refine codeT_region_drawL ?_ ?_); · rfl) | (with_reducible refine lx_nil ?_) | (with_reducible refine q_then ?_) | (with_reducible refine q_then_ret ?_) | (exfalso; omega) | ((with_reducible refine g_move ?_); first | refine lx_move (r := (.t _)) rfl rfl rfl rfl rfl ?_) | ((with_reducible refine g_binOp ?_); first | refine lx_arith rfl rfl rfl rfl rfl rfl rfl ?_) | ((with_reducible refine g_assign ?_); first | refine lx_assign (r := (.t _)) rfl rfl rfl rfl rfl ?_) | ((with_reducible refine g_alloc ?_); first | refine lx_alloc rfl rfl rfl rfl rfl rfl rfl ?_) | ((with_reducible refine g_store ?_); first | refine lx_store_var (r := (.t (.agg _))) rfl rfl rfl rfl rfl rfl rfl rfl rfl rfl ?_) | ((with_reducible refine g_build ?_); first | refine lx_build (r := (.t (.agg _))) rfl rfl rfl rfl rfl rfl rfl ?_) | ((with_reducible refine g_len ?_); first | refine lx_len_str rfl rfl rfl rfl rfl ?_) | refine c_condN rfl (fun hc => ?_) (fun hc => ?_))
    simp only [Vr.toT, Vr.zero]
    refine q_ret ?_ (stHas_spec trivial); refine resT_cell_tmp rfl rfl rfl inferInstance rfl inferInstance rfl ?_ ?_; exact TLe.av (by repeat first | exact TLe.refl _ | exact TLe.nil _ | exact TLe.esl _ | refine TLe.agg ?_ | refine TLs.cons ?_ ?_ | exact TLs.nil); exact AVLE.refl _
end Go.AL
/- What Find of versions answers, of both sides. -/
set_option linter.unusedVariables false
namespace Go.AL
open Go Go.Proofs Go.RowKit

end Go.AL
/- What the law's draws and its sanity check answer. -/
set_option linter.unusedVariables false
namespace Go.AL
open Go Go.Proofs Go.RowKit

set_option maxHeartbeats 1000000 in
theorem Word_spec (d : Dc) (l : List ByteArray) (h0 : 1 ≤ l.length) (h : l.length ≤ 1000) (hd : d.l.length ≤ 1000) :
    Spec Tryd.prog 20 [.ref (.par 0) 0 0 0, .row (.par 1)] [(.par 0, d.row), (.par 1, .slt 9 1 (l.map .str))] (.t (.str (d.word l).1)) [(.par 0, (d.word l).2.row), (.par 1, .slt 9 1 (l.map .str))] := by
  have hn := Next_spec d l.length (by omega) hd
  have hlt := d.next_lt l.length (by omega)
  unfold Dc.word
  simp only
  generalize d.next l.length = q at *
  obtain ⟨v, d2⟩ := q
  simp only at *
  have hg : (l.map T.str)[v.toNat]? = some (.str (l.getD v.toNat default)) := by
    rw [List.getElem?_map, List.getElem?_eq_getElem (by omega)]
    simp [List.getD_eq_getElem?_getD, show v.toNat < l.length by omega]
  refine spec_intro (env0 := [(0, _), (1, _)]) (st0 := [(_, some _), (_, some _)]) Tryd.func20 rfl rfl rfl rfl ?_
  repeat' (first | (with_reducible refine codeT_seq ?_) | (with_reducible refine codeT_ret ?_) | (with_reducible refine codeT_regionL ?_) | (with_reducible refine lx_nil ?_) | (with_reducible refine q_then ?_) | ((with_reducible refine g_move ?_); first | refine lx_move (r := (.ref _ _ _ _)) rfl rfl rfl rfl rfl ?_ | refine lx_move (r := (.row _)) rfl rfl rfl rfl rfl ?_) | ((with_reducible refine g_load ?_); first | refine lx_load_elsM rfl rfl rfl rfl rfl rfl rfl rfl ?_ ?_) | ((with_reducible refine g_assign ?_); first | refine lx_assign (r := (.t _)) rfl rfl rfl rfl rfl ?_) | ((with_reducible refine g_indexAddr ?_); first | refine lx_indexAddr_row rfl rfl rfl rfl rfl rfl rfl ?_ ?_ ?_) | ((with_reducible refine g_len ?_); first | refine lx_len_rowmap rfl rfl rfl rfl rfl rfl ?_) | ((with_reducible refine g_call ?_); first | refine lx_call (r' := .t (.int .i64 v)) [] rfl rfl hn (ArgsLE.refl _) rfl ⟨rfl, trivial⟩ rfl rfl rfl rfl rfl rfl rfl rfl rfl rfl ?_))
  all_goals try (simp only [List.length_map]; omega)
  all_goals try omega
  exact q_ret (resT_oneE rfl rfl rfl) (stHas_spec ⟨rfl, rfl, trivial⟩)
set_option maxHeartbeats 8000000 in
theorem some_spec (d : Dc) (hd : d.l.length ≤ 1000) : Spec Tryd.prog 9 [.ref (.par 0) 0 0 0] [(.par 0, d.row)] (.t (someV d).1.toT) [(.par 0, (someV d).2.row)] := by
  have hl := someV_l d
  obtain ⟨X, hX⟩ : ∃ X, X = someV d := ⟨_, rfl⟩
  rw [← hX]
  unfold someV someA at hX
  simp only at hX
  have c1 := Word_spec d vW4 (by decide) (by decide) hd
  have l1 := d.word_l' vW4
  generalize d.word vW4 = w at *
  obtain ⟨w, d1⟩ := w
  simp only at *
  have c2 := Next_spec d1 3 (by omega) (by rw [l1]; exact hd)
  have l2 := d1.next_l 3
  have b2 := d1.next_lt 3 (by omega)
  generalize d1.next 3 = a at *
  obtain ⟨a, d2⟩ := a
  simp only at *
  have c3 := Next_spec d2 3 (by omega) (by rw [l2, l1]; exact hd)
  have l3 := d2.next_l 3
  generalize d2.next 3 = b at *
  obtain ⟨b, d3⟩ := b
  simp only at *
  have c4 := Next_spec d3 3 (by omega) (by rw [l3, l2, l1]; exact hd)
  have l4 := d3.next_l 3
  have b4 := d3.next_lt 3 (by omega)
  generalize d3.next 3 = c at *
  obtain ⟨c, d4⟩ := c
  simp only at *
  have c5 := Next_spec d4 16777216 (by omega) (by rw [l4, l3, l2, l1]; exact hd)
  have l5 := d4.next_l 16777216
  generalize d4.next 16777216 = e at *
  obtain ⟨e, d5⟩ := e
  simp only at *
  unfold someB at hX
  simp only at hX
  have c6 := Next_spec d5 12 (by omega) (by rw [l5, l4, l3, l2, l1]; exact hd)
  have l6 := d5.next_l 12
  generalize d5.next 12 = k at *
  obtain ⟨k, d6⟩ := k
  simp only at *
  have hd6 : d6.l.length ≤ 1000 := by rw [l6, l5, l4, l3, l2, l1]; exact hd
  have w1 : IntKind.i64.wrap (1 + c) = 1 + c := wrap64 (by omega) (by omega)
  clear hl l1 l2 l3 l4 l5 l6
  have hK : k = 1 ∨ k = 2 ∨ k = 3 ∨ k = 4 ∨ k = 5 ∨ (k ≠ 1 ∧ k ≠ 2 ∧ k ≠ 3 ∧ k ≠ 4 ∧ k ≠ 5) := by omega
  rcases hK with h | h | h | h | h | h
  · subst h
    rw [if_pos rfl] at hX
    have c7 := Word_spec d6 vW5 (by decide) (by decide) hd6
    generalize d6.word vW5 = q at *
    obtain ⟨q, d7⟩ := q
    simp only at *
    refine spec_intro (env0 := [(0, _)]) (st0 := [(_, some _)]) Tryd.func9 rfl rfl rfl rfl ?_
    repeat' (first | (with_reducible refine codeT_seq ?_) | (with_reducible refine codeT_block ?_) | (with_reducible refine codeT_ret ?_) | (with_reducible refine codeT_regionL ?_) | (with_reducible refine lx_nil ?_) | (with_reducible refine q_then ?_) | (with_reducible refine q_block ?_) | refine c_condT rfl ?_ | ((with_reducible refine g_move ?_); first | refine lx_move (r := (.ref _ _ _ _)) rfl rfl rfl rfl rfl ?_) | ((with_reducible refine g_load ?_); first | refine lx_load_varA (r := (.t (.agg _))) rfl rfl rfl rfl rfl rfl rfl rfl rfl ?_) | ((with_reducible refine g_fieldAddr ?_); first | refine lx_fieldAddr rfl rfl rfl rfl rfl rfl rfl ?_) | ((with_reducible refine g_binOp ?_); first | refine lx_arith rfl rfl rfl rfl rfl rfl rfl ?_) | ((with_reducible refine g_assign ?_); first | refine lx_assign (r := (.t _)) rfl rfl rfl rfl rfl ?_) | ((with_reducible refine g_alloc ?_); first | refine lx_alloc rfl rfl rfl rfl rfl rfl rfl ?_) | ((with_reducible refine g_store ?_); first | refine lx_store_var (r := (.t (.agg _))) rfl rfl rfl rfl rfl rfl rfl rfl rfl rfl ?_ | refine lx_store_var (r := (.t _)) rfl rfl rfl rfl rfl rfl rfl rfl rfl rfl ?_) | ((with_reducible refine g_buildSlice ?_); first | refine lx_buildSlice rfl rfl rfl rfl rfl rfl rfl ?_) | ((with_reducible refine g_build ?_); first | refine lx_build (r := (.t (.agg _))) rfl rfl rfl rfl rfl rfl rfl ?_) | ((with_reducible refine g_call ?_); first | refine lx_call (r' := .t (.str w)) [(.par 1, .loc 5)] rfl rfl c1 (ArgsLE.refl _) rfl ⟨rfl, rfl, trivial⟩ rfl rfl rfl rfl rfl rfl rfl rfl rfl rfl ?_ | refine lx_call (r' := .t (.int .i64 a)) [] rfl rfl c2 (ArgsLE.refl _) rfl ⟨rfl, trivial⟩ rfl rfl rfl rfl rfl rfl rfl rfl rfl rfl ?_ | refine lx_call (r' := .t (.int .i64 b)) [] rfl rfl c3 (ArgsLE.refl _) rfl ⟨rfl, trivial⟩ rfl rfl rfl rfl rfl rfl rfl rfl rfl rfl ?_ | refine lx_call (r' := .t (.int .i64 c)) [] rfl rfl c4 (ArgsLE.refl _) rfl ⟨rfl, trivial⟩ rfl rfl rfl rfl rfl rfl rfl rfl rfl rfl ?_ | refine lx_call (r' := .t (.int .i64 e)) [] rfl rfl c5 (ArgsLE.refl _) rfl ⟨rfl, trivial⟩ rfl rfl rfl rfl rfl rfl rfl rfl rfl rfl ?_ | refine lx_call (r' := .t (.int .i64 1)) [] rfl rfl c6 (ArgsLE.refl _) rfl ⟨rfl, trivial⟩ rfl rfl rfl rfl rfl rfl rfl rfl rfl rfl ?_ | refine lx_call (r' := .t (.str q)) [(.par 1, .loc 22)] rfl rfl c7 (ArgsLE.refl _) rfl ⟨rfl, rfl, trivial⟩ rfl rfl rfl rfl rfl rfl rfl rfl rfl rfl ?_))
    rw [hX]
    simp only [Vr.toT]
    rw [w1]
    refine q_ret ?_ (stHas_spec ⟨rfl, trivial⟩); refine resT_cell rfl rfl rfl inferInstance rfl inferInstance rfl ?_; exact TLe.av (by repeat first | exact TLe.refl _ | exact TLe.nil _ | exact TLe.esl _ | refine TLe.agg ?_ | refine TLs.cons ?_ ?_ | exact TLs.nil)
  · subst h
    rw [if_neg (by decide)] at hX
    rw [if_pos rfl] at hX
    have c7 := Next_spec d6 18 (by omega) hd6
    have b7 := d6.next_lt 18 (by omega)
    generalize d6.next 18 = q at *
    obtain ⟨q, d7⟩ := q
    simp only at *
    have w7 : IntKind.i64.wrap (q - 1) = q - 1 := wrap64 (by omega) (by omega)
    refine spec_intro (env0 := [(0, _)]) (st0 := [(_, some _)]) Tryd.func9 rfl rfl rfl rfl ?_
    repeat' (first | (with_reducible refine codeT_seq ?_) | (with_reducible refine codeT_block ?_) | (with_reducible refine codeT_ret ?_) | (with_reducible refine codeT_regionL ?_) | (with_reducible refine lx_nil ?_) | (with_reducible refine q_then ?_) | (with_reducible refine q_block ?_) | refine c_condT rfl ?_ | refine c_condF rfl ?_ | ((with_reducible refine g_move ?_); first | refine lx_move (r := (.ref _ _ _ _)) rfl rfl rfl rfl rfl ?_) | ((with_reducible refine g_load ?_); first | refine lx_load_varA (r := (.t (.agg _))) rfl rfl rfl rfl rfl rfl rfl rfl rfl ?_) | ((with_reducible refine g_fieldAddr ?_); first | refine lx_fieldAddr rfl rfl rfl rfl rfl rfl rfl ?_) | ((with_reducible refine g_binOp ?_); first | refine lx_arith rfl rfl rfl rfl rfl rfl rfl ?_) | ((with_reducible refine g_assign ?_); first | refine lx_assign (r := (.t _)) rfl rfl rfl rfl rfl ?_) | ((with_reducible refine g_alloc ?_); first | refine lx_alloc rfl rfl rfl rfl rfl rfl rfl ?_) | ((with_reducible refine g_store ?_); first | refine lx_store_var (r := (.t (.agg _))) rfl rfl rfl rfl rfl rfl rfl rfl rfl rfl ?_ | refine lx_store_var (r := (.t _)) rfl rfl rfl rfl rfl rfl rfl rfl rfl rfl ?_) | ((with_reducible refine g_buildSlice ?_); first | refine lx_buildSlice rfl rfl rfl rfl rfl rfl rfl ?_) | ((with_reducible refine g_build ?_); first | refine lx_build (r := (.t (.agg _))) rfl rfl rfl rfl rfl rfl rfl ?_) | ((with_reducible refine g_call ?_); first | refine lx_call (r' := .t (.str w)) [(.par 1, .loc 5)] rfl rfl c1 (ArgsLE.refl _) rfl ⟨rfl, rfl, trivial⟩ rfl rfl rfl rfl rfl rfl rfl rfl rfl rfl ?_ | refine lx_call (r' := .t (.int .i64 a)) [] rfl rfl c2 (ArgsLE.refl _) rfl ⟨rfl, trivial⟩ rfl rfl rfl rfl rfl rfl rfl rfl rfl rfl ?_ | refine lx_call (r' := .t (.int .i64 b)) [] rfl rfl c3 (ArgsLE.refl _) rfl ⟨rfl, trivial⟩ rfl rfl rfl rfl rfl rfl rfl rfl rfl rfl ?_ | refine lx_call (r' := .t (.int .i64 c)) [] rfl rfl c4 (ArgsLE.refl _) rfl ⟨rfl, trivial⟩ rfl rfl rfl rfl rfl rfl rfl rfl rfl rfl ?_ | refine lx_call (r' := .t (.int .i64 e)) [] rfl rfl c5 (ArgsLE.refl _) rfl ⟨rfl, trivial⟩ rfl rfl rfl rfl rfl rfl rfl rfl rfl rfl ?_ | refine lx_call (r' := .t (.int .i64 2)) [] rfl rfl c6 (ArgsLE.refl _) rfl ⟨rfl, trivial⟩ rfl rfl rfl rfl rfl rfl rfl rfl rfl rfl ?_ | refine lx_call (r' := .t (.int .i64 q)) [] rfl rfl c7 (ArgsLE.refl _) rfl ⟨rfl, trivial⟩ rfl rfl rfl rfl rfl rfl rfl rfl rfl rfl ?_))
    rw [hX]
    simp only [Vr.toT]
    rw [w1, w7]
    refine q_ret ?_ (stHas_spec ⟨rfl, trivial⟩); refine resT_cell rfl rfl rfl inferInstance rfl inferInstance rfl ?_; exact TLe.av (by repeat first | exact TLe.refl _ | exact TLe.nil _ | exact TLe.esl _ | refine TLe.agg ?_ | refine TLs.cons ?_ ?_ | exact TLs.nil)
  · subst h
    rw [if_neg (by decide)] at hX
    rw [if_neg (by decide)] at hX
    rw [if_pos rfl] at hX
    have c7 := Next_spec d6 6 (by omega) hd6
    have b7 := d6.next_lt 6 (by omega)
    generalize d6.next 6 = q at *
    obtain ⟨q, d7⟩ := q
    simp only at *
    have w7 : IntKind.i64.wrap (q - 1) = q - 1 := wrap64 (by omega) (by omega)
    refine spec_intro (env0 := [(0, _)]) (st0 := [(_, some _)]) Tryd.func9 rfl rfl rfl rfl ?_
    repeat' (first | (with_reducible refine codeT_seq ?_) | (with_reducible refine codeT_block ?_) | (with_reducible refine codeT_ret ?_) | (with_reducible refine codeT_regionL ?_) | (with_reducible refine lx_nil ?_) | (with_reducible refine q_then ?_) | (with_reducible refine q_block ?_) | refine c_condT rfl ?_ | refine c_condF rfl ?_ | ((with_reducible refine g_move ?_); first | refine lx_move (r := (.ref _ _ _ _)) rfl rfl rfl rfl rfl ?_) | ((with_reducible refine g_load ?_); first | refine lx_load_varA (r := (.t (.agg _))) rfl rfl rfl rfl rfl rfl rfl rfl rfl ?_) | ((with_reducible refine g_fieldAddr ?_); first | refine lx_fieldAddr rfl rfl rfl rfl rfl rfl rfl ?_) | ((with_reducible refine g_binOp ?_); first | refine lx_arith rfl rfl rfl rfl rfl rfl rfl ?_) | ((with_reducible refine g_assign ?_); first | refine lx_assign (r := (.t _)) rfl rfl rfl rfl rfl ?_) | ((with_reducible refine g_alloc ?_); first | refine lx_alloc rfl rfl rfl rfl rfl rfl rfl ?_) | ((with_reducible refine g_store ?_); first | refine lx_store_var (r := (.t (.agg _))) rfl rfl rfl rfl rfl rfl rfl rfl rfl rfl ?_ | refine lx_store_var (r := (.t _)) rfl rfl rfl rfl rfl rfl rfl rfl rfl rfl ?_) | ((with_reducible refine g_buildSlice ?_); first | refine lx_buildSlice rfl rfl rfl rfl rfl rfl rfl ?_) | ((with_reducible refine g_build ?_); first | refine lx_build (r := (.t (.agg _))) rfl rfl rfl rfl rfl rfl rfl ?_) | ((with_reducible refine g_call ?_); first | refine lx_call (r' := .t (.str w)) [(.par 1, .loc 5)] rfl rfl c1 (ArgsLE.refl _) rfl ⟨rfl, rfl, trivial⟩ rfl rfl rfl rfl rfl rfl rfl rfl rfl rfl ?_ | refine lx_call (r' := .t (.int .i64 a)) [] rfl rfl c2 (ArgsLE.refl _) rfl ⟨rfl, trivial⟩ rfl rfl rfl rfl rfl rfl rfl rfl rfl rfl ?_ | refine lx_call (r' := .t (.int .i64 b)) [] rfl rfl c3 (ArgsLE.refl _) rfl ⟨rfl, trivial⟩ rfl rfl rfl rfl rfl rfl rfl rfl rfl rfl ?_ | refine lx_call (r' := .t (.int .i64 c)) [] rfl rfl c4 (ArgsLE.refl _) rfl ⟨rfl, trivial⟩ rfl rfl rfl rfl rfl rfl rfl rfl rfl rfl ?_ | refine lx_call (r' := .t (.int .i64 e)) [] rfl rfl c5 (ArgsLE.refl _) rfl ⟨rfl, trivial⟩ rfl rfl rfl rfl rfl rfl rfl rfl rfl rfl ?_ | refine lx_call (r' := .t (.int .i64 3)) [] rfl rfl c6 (ArgsLE.refl _) rfl ⟨rfl, trivial⟩ rfl rfl rfl rfl rfl rfl rfl rfl rfl rfl ?_ | refine lx_call (r' := .t (.int .i64 q)) [] rfl rfl c7 (ArgsLE.refl _) rfl ⟨rfl, trivial⟩ rfl rfl rfl rfl rfl rfl rfl rfl rfl rfl ?_))
    rw [hX]
    simp only [Vr.toT]
    rw [w1, w7]
    refine q_ret ?_ (stHas_spec ⟨rfl, trivial⟩); refine resT_cell rfl rfl rfl inferInstance rfl inferInstance rfl ?_; exact TLe.av (by repeat first | exact TLe.refl _ | exact TLe.nil _ | exact TLe.esl _ | refine TLe.agg ?_ | refine TLs.cons ?_ ?_ | exact TLs.nil)
  · subst h
    rw [if_neg (by decide)] at hX
    rw [if_neg (by decide)] at hX
    rw [if_neg (by decide)] at hX
    rw [if_pos rfl] at hX
    have c7 := Next_spec d6 3 (by omega) hd6
    have b7 := d6.next_lt 3 (by omega)
    generalize d6.next 3 = q at *
    obtain ⟨q, d7⟩ := q
    simp only at *
    refine spec_intro (env0 := [(0, _)]) (st0 := [(_, some _)]) Tryd.func9 rfl rfl rfl rfl ?_
    repeat' (first | (with_reducible refine codeT_seq ?_) | (with_reducible refine codeT_block ?_) | (with_reducible refine codeT_ret ?_) | (with_reducible refine codeT_regionL ?_) | (with_reducible refine lx_nil ?_) | (with_reducible refine q_then ?_) | (with_reducible refine q_block ?_) | refine c_condT rfl ?_ | refine c_condF rfl ?_ | refine lx_load_elsM (f := T.int .i64) (l := vL3) rfl rfl rfl rfl rfl rfl rfl rfl ?_ ?_ | ((with_reducible refine g_move ?_); first | refine lx_move (r := (.ref _ _ _ _)) rfl rfl rfl rfl rfl ?_) | ((with_reducible refine g_load ?_); first | refine lx_load_varA (r := (.t (.agg _))) rfl rfl rfl rfl rfl rfl rfl rfl rfl ?_) | ((with_reducible refine g_fieldAddr ?_); first | refine lx_fieldAddr rfl rfl rfl rfl rfl rfl rfl ?_) | ((with_reducible refine g_binOp ?_); first | refine lx_arith rfl rfl rfl rfl rfl rfl rfl ?_) | ((with_reducible refine g_assign ?_); first | refine lx_assign (r := (.t _)) rfl rfl rfl rfl rfl ?_) | ((with_reducible refine g_alloc ?_); first | refine lx_alloc rfl rfl rfl rfl rfl rfl rfl ?_) | ((with_reducible refine g_store ?_); first | refine lx_store_var (r := (.t (.agg _))) rfl rfl rfl rfl rfl rfl rfl rfl rfl rfl ?_ | refine lx_store_var (r := (.t _)) rfl rfl rfl rfl rfl rfl rfl rfl rfl rfl ?_) | ((with_reducible refine g_indexAddr ?_); first | refine lx_indexAddr_row rfl rfl rfl rfl rfl rfl rfl ?_ ?_ ?_) | ((with_reducible refine g_buildSlice ?_); first | refine lx_buildSlice rfl rfl rfl rfl rfl rfl rfl ?_) | ((with_reducible refine g_build ?_); first | refine lx_build (r := (.t (.agg _))) rfl rfl rfl rfl rfl rfl rfl ?_) | ((with_reducible refine g_call ?_); first | refine lx_call (r' := .t (.str w)) [(.par 1, .loc 5)] rfl rfl c1 (ArgsLE.refl _) rfl ⟨rfl, rfl, trivial⟩ rfl rfl rfl rfl rfl rfl rfl rfl rfl rfl ?_ | refine lx_call (r' := .t (.int .i64 a)) [] rfl rfl c2 (ArgsLE.refl _) rfl ⟨rfl, trivial⟩ rfl rfl rfl rfl rfl rfl rfl rfl rfl rfl ?_ | refine lx_call (r' := .t (.int .i64 b)) [] rfl rfl c3 (ArgsLE.refl _) rfl ⟨rfl, trivial⟩ rfl rfl rfl rfl rfl rfl rfl rfl rfl rfl ?_ | refine lx_call (r' := .t (.int .i64 c)) [] rfl rfl c4 (ArgsLE.refl _) rfl ⟨rfl, trivial⟩ rfl rfl rfl rfl rfl rfl rfl rfl rfl rfl ?_ | refine lx_call (r' := .t (.int .i64 e)) [] rfl rfl c5 (ArgsLE.refl _) rfl ⟨rfl, trivial⟩ rfl rfl rfl rfl rfl rfl rfl rfl rfl rfl ?_ | refine lx_call (r' := .t (.int .i64 4)) [] rfl rfl c6 (ArgsLE.refl _) rfl ⟨rfl, trivial⟩ rfl rfl rfl rfl rfl rfl rfl rfl rfl rfl ?_ | refine lx_call (r' := .t (.int .i64 q)) [] rfl rfl c7 (ArgsLE.refl _) rfl ⟨rfl, trivial⟩ rfl rfl rfl rfl rfl rfl rfl rfl rfl rfl ?_))
    all_goals try omega
    · show q < 3
      omega
    · show q.toNat < 3
      omega
    rw [hX]
    simp only [Vr.toT]
    rw [w1]
    refine q_ret ?_ (stHas_spec ⟨rfl, trivial⟩); refine resT_cell rfl rfl rfl inferInstance rfl inferInstance rfl ?_; exact TLe.av (by repeat first | exact TLe.refl _ | exact TLe.nil _ | exact TLe.esl _ | refine TLe.agg ?_ | refine TLs.cons ?_ ?_ | exact TLs.nil)
  · subst h
    rw [if_neg (by decide)] at hX
    rw [if_neg (by decide)] at hX
    rw [if_neg (by decide)] at hX
    rw [if_neg (by decide)] at hX
    rw [if_pos rfl] at hX
    have c7 := Next_spec d6 18 (by omega) hd6
    have b7 := d6.next_lt 18 (by omega)
    generalize d6.next 18 = q at *
    obtain ⟨q, d7⟩ := q
    simp only at *
    have w7 : IntKind.i64.wrap (q - 1) = q - 1 := wrap64 (by omega) (by omega)
    refine spec_intro (env0 := [(0, _)]) (st0 := [(_, some _)]) Tryd.func9 rfl rfl rfl rfl ?_
    repeat' (first | (with_reducible refine codeT_seq ?_) | (with_reducible refine codeT_block ?_) | (with_reducible refine codeT_ret ?_) | (with_reducible refine codeT_regionL ?_) | (with_reducible refine lx_nil ?_) | (with_reducible refine q_then ?_) | (with_reducible refine q_block ?_) | refine c_condT rfl ?_ | refine c_condF rfl ?_ | ((with_reducible refine g_move ?_); first | refine lx_move (r := (.ref _ _ _ _)) rfl rfl rfl rfl rfl ?_) | ((with_reducible refine g_load ?_); first | refine lx_load_varA (r := (.t (.agg _))) rfl rfl rfl rfl rfl rfl rfl rfl rfl ?_) | ((with_reducible refine g_fieldAddr ?_); first | refine lx_fieldAddr rfl rfl rfl rfl rfl rfl rfl ?_) | ((with_reducible refine g_binOp ?_); first | refine lx_arith rfl rfl rfl rfl rfl rfl rfl ?_) | ((with_reducible refine g_assign ?_); first | refine lx_assign (r := (.t _)) rfl rfl rfl rfl rfl ?_) | ((with_reducible refine g_alloc ?_); first | refine lx_alloc rfl rfl rfl rfl rfl rfl rfl ?_) | ((with_reducible refine g_store ?_); first | refine lx_store_var (r := (.t (.agg _))) rfl rfl rfl rfl rfl rfl rfl rfl rfl rfl ?_ | refine lx_store_var (r := (.t _)) rfl rfl rfl rfl rfl rfl rfl rfl rfl rfl ?_) | ((with_reducible refine g_buildSlice ?_); first | refine lx_buildSlice rfl rfl rfl rfl rfl rfl rfl ?_) | ((with_reducible refine g_build ?_); first | refine lx_build (r := (.t (.agg _))) rfl rfl rfl rfl rfl rfl rfl ?_) | ((with_reducible refine g_call ?_); first | refine lx_call (r' := .t (.str w)) [(.par 1, .loc 5)] rfl rfl c1 (ArgsLE.refl _) rfl ⟨rfl, rfl, trivial⟩ rfl rfl rfl rfl rfl rfl rfl rfl rfl rfl ?_ | refine lx_call (r' := .t (.int .i64 a)) [] rfl rfl c2 (ArgsLE.refl _) rfl ⟨rfl, trivial⟩ rfl rfl rfl rfl rfl rfl rfl rfl rfl rfl ?_ | refine lx_call (r' := .t (.int .i64 b)) [] rfl rfl c3 (ArgsLE.refl _) rfl ⟨rfl, trivial⟩ rfl rfl rfl rfl rfl rfl rfl rfl rfl rfl ?_ | refine lx_call (r' := .t (.int .i64 c)) [] rfl rfl c4 (ArgsLE.refl _) rfl ⟨rfl, trivial⟩ rfl rfl rfl rfl rfl rfl rfl rfl rfl rfl ?_ | refine lx_call (r' := .t (.int .i64 e)) [] rfl rfl c5 (ArgsLE.refl _) rfl ⟨rfl, trivial⟩ rfl rfl rfl rfl rfl rfl rfl rfl rfl rfl ?_ | refine lx_call (r' := .t (.int .i64 5)) [] rfl rfl c6 (ArgsLE.refl _) rfl ⟨rfl, trivial⟩ rfl rfl rfl rfl rfl rfl rfl rfl rfl rfl ?_ | refine lx_call (r' := .t (.int .i64 q)) [] rfl rfl c7 (ArgsLE.refl _) rfl ⟨rfl, trivial⟩ rfl rfl rfl rfl rfl rfl rfl rfl rfl rfl ?_))
    rw [hX]
    simp only [Vr.toT]
    rw [w1, w7]
    refine q_ret ?_ (stHas_spec ⟨rfl, trivial⟩); refine resT_cell rfl rfl rfl inferInstance rfl inferInstance rfl ?_; exact TLe.av (by repeat first | exact TLe.refl _ | exact TLe.nil _ | exact TLe.esl _ | refine TLe.agg ?_ | refine TLs.cons ?_ ?_ | exact TLs.nil)
  · obtain ⟨h1, h2, h3, h4, h5⟩ := h
    rw [if_neg h1, if_neg h2, if_neg h3, if_neg h4, if_neg h5] at hX
    refine spec_intro (env0 := [(0, _)]) (st0 := [(_, some _)]) Tryd.func9 rfl rfl rfl rfl ?_
    repeat' (first | (with_reducible refine codeT_seq ?_) | (with_reducible refine codeT_block ?_) | (with_reducible refine codeT_skip ?_) | (with_reducible refine codeT_ret ?_) | (with_reducible refine codeT_regionL ?_) | (with_reducible refine lx_nil ?_) | (with_reducible refine q_then ?_) | (with_reducible refine q_block ?_) | (exfalso; omega) | ((with_reducible refine g_move ?_); first | refine lx_move (r := (.ref _ _ _ _)) rfl rfl rfl rfl rfl ?_) | ((with_reducible refine g_load ?_); first | refine lx_load_varA (r := (.t (.agg _))) rfl rfl rfl rfl rfl rfl rfl rfl rfl ?_) | ((with_reducible refine g_binOp ?_); first | refine lx_arith rfl rfl rfl rfl rfl rfl rfl ?_) | ((with_reducible refine g_assign ?_); first | refine lx_assign (r := (.t _)) rfl rfl rfl rfl rfl ?_) | ((with_reducible refine g_alloc ?_); first | refine lx_alloc rfl rfl rfl rfl rfl rfl rfl ?_) | ((with_reducible refine g_store ?_); first | refine lx_store_var (r := (.t (.agg _))) rfl rfl rfl rfl rfl rfl rfl rfl rfl rfl ?_) | ((with_reducible refine g_buildSlice ?_); first | refine lx_buildSlice rfl rfl rfl rfl rfl rfl rfl ?_) | ((with_reducible refine g_build ?_); first | refine lx_build (r := (.t (.agg _))) rfl rfl rfl rfl rfl rfl rfl ?_) | ((with_reducible refine g_call ?_); first | refine lx_call (r' := .t (.str w)) [(.par 1, .loc 5)] rfl rfl c1 (ArgsLE.refl _) rfl ⟨rfl, rfl, trivial⟩ rfl rfl rfl rfl rfl rfl rfl rfl rfl rfl ?_ | refine lx_call (r' := .t (.int .i64 a)) [] rfl rfl c2 (ArgsLE.refl _) rfl ⟨rfl, trivial⟩ rfl rfl rfl rfl rfl rfl rfl rfl rfl rfl ?_ | refine lx_call (r' := .t (.int .i64 b)) [] rfl rfl c3 (ArgsLE.refl _) rfl ⟨rfl, trivial⟩ rfl rfl rfl rfl rfl rfl rfl rfl rfl rfl ?_ | refine lx_call (r' := .t (.int .i64 c)) [] rfl rfl c4 (ArgsLE.refl _) rfl ⟨rfl, trivial⟩ rfl rfl rfl rfl rfl rfl rfl rfl rfl rfl ?_ | refine lx_call (r' := .t (.int .i64 e)) [] rfl rfl c5 (ArgsLE.refl _) rfl ⟨rfl, trivial⟩ rfl rfl rfl rfl rfl rfl rfl rfl rfl rfl ?_ | refine lx_call (r' := .t (.int .i64 k)) [] rfl rfl c6 (ArgsLE.refl _) rfl ⟨rfl, trivial⟩ rfl rfl rfl rfl rfl rfl rfl rfl rfl rfl ?_) | refine c_condP rfl (fun hc => ?_) (fun hc => ?_))
    rw [hX]
    simp only [Vr.toT]
    rw [w1]
    refine q_ret ?_ (stHas_spec ⟨rfl, trivial⟩); refine resT_cell rfl rfl rfl inferInstance rfl inferInstance rfl ?_; exact TLe.av (by repeat first | exact TLe.refl _ | exact TLe.nil _ | exact TLe.esl _ | refine TLe.agg ?_ | refine TLs.cons ?_ ?_ | exact TLs.nil)
set_option maxHeartbeats 4000000 in
theorem awake9_spec {oS oR oD : Obj} (G : GOk oS oR oD) : Spec Tryd.prog 8 [] [(.par 100, .dat (.fix 1 oS)), (.par 101, .dat (.fix 2 oR)), (.par 102, .dat (.fix 5 oD))] (.t (.bool true)) [(.par 100, .dat (.fix 1 oS)), (.par 101, .dat (.fix 2 oR)), (.par 102, .dat (.fix 5 oD))] := by
  have hT := VText_spec G ⟨⟨#[75, 69, 82, 73]⟩, 1, 0, 1, 251⟩ (by decide)
  have e1 : (Vr.mk ⟨#[75, 69, 82, 73]⟩ 1 0 1 251).text = ⟨#[75, 69, 82, 73, 49, 48, 74, 83, 79, 78, 48, 48, 48, 48, 102, 98, 95]⟩ := by decide +kernel
  have e2 : (Vr.mk ⟨#[75, 69, 82, 73]⟩ 1 0 1 251).err = 0 := by decide +kernel
  rw [e1, e2] at hT
  unfold Vr.toT at hT
  simp only at hT
  generalize hx : (⟨#[75, 69, 82, 73, 49, 48, 74, 83, 79, 78, 48, 48, 48, 48, 102, 98, 95]⟩ : ByteArray) = x at *
  refine spec_intro (env0 := []) (st0 := [(_, some _), (_, some _), (_, some _)]) Tryd.func8 rfl rfl rfl rfl ?_
  repeat' (first | (with_reducible refine codeT_seq ?_) | (with_reducible refine codeT_ret ?_) | (with_reducible refine codeT_regionL ?_) | (with_reducible refine lx_nil ?_) | (with_reducible refine q_then ?_) | exact absurd hx.symm ‹_› | ((with_reducible refine g_move ?_); first | refine lx_move (r := (.t _)) rfl rfl rfl rfl rfl ?_ | refine lx_move (r := (.tup _)) rfl rfl rfl rfl rfl ?_) | ((with_reducible refine g_binOp ?_); first | refine lx_arith rfl rfl rfl rfl rfl rfl rfl ?_ | refine lx_str_eq rfl rfl rfl rfl rfl rfl ?_) | ((with_reducible refine g_assign ?_); first | refine lx_assign (r := (.t _)) rfl rfl rfl rfl rfl ?_) | ((with_reducible refine g_pick ?_); first | refine lx_pickT (r := (.t _)) rfl rfl rfl rfl rfl rfl ?_) | ((with_reducible refine g_extract ?_); first | refine lx_extract rfl rfl rfl rfl rfl rfl ?_) | ((with_reducible refine g_build ?_); first | refine lx_build (r := (.t (.agg _))) rfl rfl rfl rfl rfl rfl rfl ?_) | ((with_reducible refine g_call ?_); first | refine lx_callR (r' := (.tup [.t (.str x), .t (.int .i64 0)])) [] rfl rfl hT (ArgsLE.refl _) rfl ⟨rfl, rfl, rfl, trivial⟩ rfl rfl rfl rfl rfl rfl rfl rfl ?_) | refine lx_splitP rfl (fun hc => ?_) (fun hc => ?_))
  exact q_ret (resT_oneE rfl rfl rfl) (stHas_spec ⟨rfl, rfl, rfl, trivial⟩)
end Go.AL
