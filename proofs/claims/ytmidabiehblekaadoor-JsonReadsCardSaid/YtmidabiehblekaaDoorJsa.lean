/- What json.quoted answers, and the booleans of strconv. -/
import Derived.Test.YtmidabiehblekaaDoorJnc
import Derived.Test.YtmidabiehblekaaDoorNod1
import Derived.Test.YtmidabiehblekaaDoorAl4
import Derived.Test.YtmidabiehblekaaDoorTy
import Derived.Lib.AppendIntMem
set_option linter.unusedVariables false
namespace Go.AL
open Go Go.Proofs Go.RowKit

/-- The letters of what is escaped, as the map holds them. -/
def escT : List (T × T) := escL.map fun x => (T.int .u8 (x.1.toNat : Int), T.int .u8 (x.2.toNat : Int))
theorem escT_get (c : UInt8) : mget escT (.int .u8 (c.toNat : Int)) = (escO c).map fun l => T.int .u8 (l.toNat : Int) := by
  have key : ∀ (l : List (UInt8 × UInt8)), mget (l.map fun x => (T.int .u8 (x.1.toNat : Int), T.int .u8 (x.2.toNat : Int))) (.int .u8 (c.toNat : Int)) = (l.lookup c).map fun l => T.int .u8 (l.toNat : Int) := by
    intro l
    induction l with
    | nil => rfl
    | cons x l ih =>
      obtain ⟨a, b⟩ := x
      by_cases h : c = a
      · subst h; simp [mget, keyEq, List.lookup]
      · have h2 : ¬ ((c.toNat : Int) = (a.toNat : Int)) := fun e => h (UInt8.toNat_inj.1 (by omega))
        simp only [List.map_cons, mget, keyEq, h2, decide_false, Bool.false_eq_true, if_false, List.lookup, beq_iff_eq, h, ih]
        have h3 : (c == a) = false := by simpa using h
        rw [h3]
  exact key escL
theorem escT_keys : keysOK (.int .u8) escT = true := by decide
set_option maxHeartbeats 2000000 in
theorem escapes_spec : Spec Tryd.prog 48 [] [] (.row (.res 0)) [(.res 0, .dat (.map escT))] := by
  refine spec_introG (env0 := []) (st0 := []) Tryd.func48 rfl rfl rfl rfl ?_
  repeat' (first | (with_reducible refine codeT_seq ?_) | (with_reducible refine codeT_ret ?_) | (with_reducible refine codeT_regionL ?_) | (with_reducible refine lx_nil ?_) | (with_reducible refine q_then ?_) | ((with_reducible refine g_move ?_); first | refine lx_move (r := (.row _)) rfl rfl rfl rfl rfl ?_) | ((with_reducible refine g_assign ?_); first | refine lx_assign (r := (.row _)) rfl rfl rfl rfl rfl ?_ | refine lx_assign (r := .junk) rfl rfl rfl rfl rfl ?_) | ((with_reducible refine g_makeMap ?_); first | refine lx_makeMap rfl rfl rfl rfl rfl ?_) | ((with_reducible refine g_insert ?_); first | refine lx_insert rfl rfl rfl rfl rfl rfl rfl rfl ?_ ?_))
  all_goals try rfl
  refine q_ghost ((ghost_keep2 [0] [.loc 1] rfl rfl).trans (ghost_renL2 (.loc 1) (.res 0) rfl rfl rfl rfl)) ?_
  exact q_done (q_ret (resT_one rfl (AVLE.refl _)) (stHas_spec ⟨rfl, trivial⟩))
theorem hex_at (n : Nat) (h : n < 16) : bAt ⟨#[48, 49, 50, 51, 52, 53, 54, 55, 56, 57, 97, 98, 99, 100, 101, 102]⟩ (n : Int) = ((hexB n).toNat : Int) := by
  have : n = 0 ∨ n = 1 ∨ n = 2 ∨ n = 3 ∨ n = 4 ∨ n = 5 ∨ n = 6 ∨ n = 7 ∨ n = 8 ∨ n = 9 ∨ n = 10 ∨ n = 11 ∨ n = 12 ∨ n = 13 ∨ n = 14 ∨ n = 15 := by omega
  rcases this with rfl | rfl | rfl | rfl | rfl | rfl | rfl | rfl | rfl | rfl | rfl | rfl | rfl | rfl | rfl | rfl <;> decide
theorem and15F : ∀ c : Fin 256, IntKind.u8.wrap ((BitVec.ofInt IntKind.u8.bits (c.val : Int) &&& BitVec.ofInt IntKind.u8.bits 15).toNat : Int) = ((c.val % 16 : Nat) : Int) := by decide +kernel
set_option maxHeartbeats 8000000 in
theorem quoted_spec (es : List T) (s : ByteArray) (hb : es.length + (6 * s.size + 2) ≤ 100000000) : Spec Tryd.prog 33 [.row (.par 0), .t (.str s)] [(.par 0, .slt 5 1 es)] (.row (.res 0)) [(.res 0, .slt 5 1 (es ++ u8L (jQ s)))] := by
  have hE := escapes_spec
  have hl : s.data.toList.length = s.size := by rw [Array.length_toList]; rfl
  refine spec_introG (env0 := [(0, _), (1, _)]) (st0 := [(_, some _)]) Tryd.func33 rfl rfl rfl rfl ?_
  repeat' (first | (with_reducible refine codeT_seq ?_) | (with_reducible refine codeT_block ?_) | (with_reducible refine codeT_regionL ?_) | (with_reducible refine lx_nil ?_) | (with_reducible refine q_then ?_) | ((with_reducible refine g_move ?_); first | refine lx_move (r := (.t _)) rfl rfl rfl rfl rfl ?_ | refine lx_move (r := (.row _)) rfl rfl rfl rfl rfl ?_) | ((with_reducible refine g_assign ?_); first | refine lx_assign (r := (.t _)) rfl rfl rfl rfl rfl ?_ | refine lx_assign (r := (.row _)) rfl rfl rfl rfl rfl ?_) | ((with_reducible refine g_buildSlice ?_); first | refine lx_buildSlice rfl rfl rfl rfl rfl rfl rfl ?_) | ((with_reducible refine g_len ?_); first | refine lx_len_str rfl rfl rfl rfl rfl ?_) | ((with_reducible refine g_append ?_); first | refine lx_append_row rfl rfl rfl rfl rfl rfl rfl rfl rfl rfl ?_ ?_ ?_) | ((with_reducible refine g_call ?_); first | refine lx_call (r' := .row (.loc 901)) [(.res 0, .loc 901)] rfl rfl hE (ArgsLE.refl _) rfl trivial rfl rfl rfl rfl rfl rfl rfl rfl rfl rfl ?_))
  all_goals try (simp only [List.length_singleton]; omega)
  refine codeT_ghost ((ghost_keep2 [0, 1, 5, 15, 16] [.loc 901, .loc 13] rfl rfl).trans (ghost_renL2 (.loc 13) (.loc 900) rfl rfl rfl rfl)) ?_
  refine codeT_loop (fun p env st => ∃ (i : Nat), i ≤ s.size ∧ p = s.size - i ∧
      env = EnvL.get [(0, .row (.loc 900)), (1, .t (.str s)), (5, .row (.loc 901)), (15, .t (.int .i64 (s.size : Int))), (16, .t (.int .i64 (i : Int)))] ∧
      st = StO.get [(.loc 901, some (.dat (.map escT))), (.loc 900, some (.slt 5 1 (es ++ u8L (34 :: jEscs (s.data.toList.take i)))))])
    ?_ (n := s.size) ⟨0, by omega, rfl, rfl, rfl⟩
  rintro p env st ⟨i, hi, rfl, rfl, rfl⟩
  have wi : IntKind.i64.wrap ((i : Int) + 1) = ((i + 1 : Nat) : Int) := by rw [wrap64 (by omega) (by omega)]; omega
  have hq := jEscs_len (s.data.toList.take i)
  have hql : (s.data.toList.take i).length ≤ i := by rw [List.length_take]; omega
  have hxl : (es ++ u8L (34 :: jEscs (s.data.toList.take i))).length ≤ 99999999 := by
    simp only [List.length_append, u8L_len, List.length_cons]; omega
  by_cases hlt : i < s.size
  · have hbt : bAt s (i : Int) = ((s.data.toList.getD i default).toNat : Int) := rfl
    have hg := escT_get (s.data.toList.getD i default)
    have hk := escT_keys
    have ht := jEscs_take s.data.toList i (by omega)
    have hc8 := (s.data.toList.getD i default).toNat_lt
    rw [show es ++ u8L (34 :: jEscs (s.data.toList.take i)) = es ++ u8L (34 :: jEscs (s.data.toList.take i)) from rfl]
    obtain ⟨X, hX⟩ : ∃ X, X = es ++ u8L (34 :: jEscs (s.data.toList.take i)) := ⟨_, rfl⟩
    have hnext : es ++ u8L (34 :: jEscs (s.data.toList.take (i + 1))) = X ++ u8L (jEsc (s.data.toList.getD i default)) := by
      rw [hX, ht, List.append_assoc, ← u8L_append]; rfl
    rw [← hX] at hxl ⊢
    rw [← hbt] at hg
    generalize hcc : s.data.toList.getD i default = c at *
    unfold jEsc at hnext
    clear hX ht
    cases hO : escO c with
    | some l =>
      rw [hO] at hg hnext
      simp only [Option.map_some] at hg
      repeat' (first | (with_reducible refine codeT_seq ?_) | (with_reducible refine codeT_block ?_) | (with_reducible refine codeT_skip ?_) | (with_reducible refine codeT_exit ?_) | (with_reducible refine codeT_regionL ?_) | (with_reducible refine lx_nil ?_) | (with_reducible refine q_then ?_) | (with_reducible refine q_then_exit ?_) | (with_reducible refine q_block ?_) | ((with_reducible refine q_block_same ?_ ?_); · rfl) | (with_reducible refine q_loop_exit ?_) | refine c_condT rfl ?_ | (exfalso; omega) | refine lx_lookup_okS (zT := .int _ _) rfl rfl rfl rfl hg (fun _ => rfl) rfl rfl rfl rfl ?_ ?_ | ((with_reducible refine g_move ?_); first | refine lx_move (r := (.t _)) rfl rfl rfl rfl rfl ?_ | refine lx_move (r := (.row _)) rfl rfl rfl rfl rfl ?_ | refine lx_move (r := (.tup _)) rfl rfl rfl rfl rfl ?_) | ((with_reducible refine g_binOp ?_); first | refine lx_arith rfl rfl rfl rfl rfl rfl rfl ?_) | ((with_reducible refine g_assign ?_); first | refine lx_assign (r := (.t _)) rfl rfl rfl rfl rfl ?_ | refine lx_assign (r := (.row _)) rfl rfl rfl rfl rfl ?_) | ((with_reducible refine g_index ?_); first | refine lx_index_str rfl rfl rfl rfl rfl rfl ?_ ?_ ?_) | ((with_reducible refine g_extract ?_); first | refine lx_extract rfl rfl rfl rfl rfl rfl ?_) | ((with_reducible refine g_buildSlice ?_); first | refine lx_buildSlice rfl rfl rfl rfl rfl rfl rfl ?_) | ((with_reducible refine g_append ?_); first | refine lx_append_row rfl rfl rfl rfl rfl rfl rfl rfl rfl rfl ?_ ?_ ?_) | refine c_condP rfl (fun hc => ?_) (fun hc => ?_))
      all_goals try exact hk
      all_goals try (simp only [List.length_cons, List.length_nil]; omega)
      all_goals try omega
      exact q_loop (n' := s.size - (i + 1)) (by omega) ((ghost_keep2 [0, 1, 5, 15, 16] [.loc 901, .loc 37] rfl rfl).trans (ghost_renL2 (.loc 37) (.loc 900) rfl rfl rfl rfl)) ⟨i + 1, by omega, rfl, by rw [wi]; rfl, by rw [hnext]; rfl⟩
    | none =>
      rw [hO] at hg hnext
      simp only [Option.map_none] at hg
      simp only at hnext
      by_cases h32 : c.toNat < 32
      · rw [if_pos h32] at hnext
        have h4 : bAt s (i : Int) / 2 ^ min (Int.toNat 4) IntKind.u8.bits = ((c.toNat / 16 : Nat) : Int) := by rw [hbt]; show (c.toNat : Int) / 16 = _; omega
        have h15 : IntKind.u8.wrap ((BitVec.ofInt IntKind.u8.bits (bAt s (i : Int)) &&& BitVec.ofInt IntKind.u8.bits 15).toNat : Int) = ((c.toNat % 16 : Nat) : Int) := by rw [hbt]; exact and15F ⟨c.toNat, hc8⟩
        have e1 := hex_at (c.toNat / 16) (by omega)
        have e2 := hex_at (c.toNat % 16) (by omega)
        repeat' (first | (with_reducible refine codeT_seq ?_) | (with_reducible refine codeT_block ?_) | (with_reducible refine codeT_skip ?_) | (with_reducible refine codeT_exit ?_) | (with_reducible refine codeT_regionL ?_) | ((with_reducible refine codeT_region_drawL ?_ ?_); · rfl) | (with_reducible refine lx_nil ?_) | (with_reducible refine q_then ?_) | (with_reducible refine q_then_exit ?_) | (with_reducible refine q_block ?_) | ((with_reducible refine q_block_same ?_ ?_); · rfl) | (with_reducible refine q_loop_exit ?_) | ((with_reducible refine q_region_draw ?_ ?_); · rfl) | refine c_condF rfl ?_ | (exfalso; omega) | refine lx_lookup_okN (zT := .int _ _) rfl rfl rfl rfl hg (fun _ => rfl) rfl rfl rfl rfl ?_ ?_ | ((with_reducible refine g_move ?_); first | refine lx_move (r := (.t _)) rfl rfl rfl rfl rfl ?_ | refine lx_move (r := (.row _)) rfl rfl rfl rfl rfl ?_ | refine lx_move (r := (.tup _)) rfl rfl rfl rfl rfl ?_) | ((with_reducible refine g_binOp ?_); first | refine lx_arith rfl rfl rfl rfl rfl rfl rfl ?_ | refine lx_shr rfl rfl rfl rfl rfl rfl (by decide) ?_) | ((with_reducible refine g_assign ?_); first | refine lx_assign (r := (.t _)) rfl rfl rfl rfl rfl ?_ | refine lx_assign (r := (.row _)) rfl rfl rfl rfl rfl ?_) | ((with_reducible refine g_index ?_); first | refine lx_index_str rfl rfl rfl rfl rfl rfl ?_ ?_ ?_) | ((with_reducible refine g_extract ?_); first | refine lx_extract rfl rfl rfl rfl rfl rfl ?_) | ((with_reducible refine g_buildSlice ?_); first | refine lx_buildSlice rfl rfl rfl rfl rfl rfl rfl ?_) | ((with_reducible refine g_append ?_); first | refine lx_append_row rfl rfl rfl rfl rfl rfl rfl rfl rfl rfl ?_ ?_ ?_) | refine c_condP rfl (fun hc => ?_) (fun hc => ?_))
        all_goals try exact hk
        all_goals try (simp only [List.length_cons, List.length_nil]; omega)
        all_goals try (rw [h4]; omega)
        all_goals try (rw [h4]; show _ < (16 : Int); omega)
        all_goals try (rw [h15]; omega)
        all_goals try (rw [h15]; show _ < (16 : Int); omega)
        all_goals try omega
        exact q_loop (n' := s.size - (i + 1)) (by omega) ((ghost_keep2 [0, 1, 5, 15, 16] [.loc 901, .loc 49] rfl rfl).trans (ghost_renL2 (.loc 49) (.loc 900) rfl rfl rfl rfl)) ⟨i + 1, by omega, rfl, by rw [wi]; rfl, by rw [hnext, h4, h15, e1, e2]; rfl⟩
      · rw [if_neg h32] at hnext
        repeat' (first | (with_reducible refine codeT_seq ?_) | (with_reducible refine codeT_block ?_) | (with_reducible refine codeT_skip ?_) | (with_reducible refine codeT_exit ?_) | (with_reducible refine codeT_regionL ?_) | ((with_reducible refine codeT_region_drawL ?_ ?_); · rfl) | (with_reducible refine lx_nil ?_) | (with_reducible refine q_then ?_) | (with_reducible refine q_then_exit ?_) | (with_reducible refine q_block ?_) | ((with_reducible refine q_block_same ?_ ?_); · rfl) | (with_reducible refine q_loop_exit ?_) | refine c_condF rfl ?_ | (exfalso; omega) | refine lx_lookup_okN (zT := .int _ _) rfl rfl rfl rfl hg (fun _ => rfl) rfl rfl rfl rfl ?_ ?_ | ((with_reducible refine g_move ?_); first | refine lx_move (r := (.t _)) rfl rfl rfl rfl rfl ?_ | refine lx_move (r := (.row _)) rfl rfl rfl rfl rfl ?_ | refine lx_move (r := (.tup _)) rfl rfl rfl rfl rfl ?_) | ((with_reducible refine g_binOp ?_); first | refine lx_arith rfl rfl rfl rfl rfl rfl rfl ?_) | ((with_reducible refine g_assign ?_); first | refine lx_assign (r := (.t _)) rfl rfl rfl rfl rfl ?_ | refine lx_assign (r := (.row _)) rfl rfl rfl rfl rfl ?_) | ((with_reducible refine g_index ?_); first | refine lx_index_str rfl rfl rfl rfl rfl rfl ?_ ?_ ?_) | ((with_reducible refine g_extract ?_); first | refine lx_extract rfl rfl rfl rfl rfl rfl ?_) | ((with_reducible refine g_buildSlice ?_); first | refine lx_buildSlice rfl rfl rfl rfl rfl rfl rfl ?_) | ((with_reducible refine g_append ?_); first | refine lx_append_row rfl rfl rfl rfl rfl rfl rfl rfl rfl rfl ?_ ?_ ?_) | refine c_condP rfl (fun hc => ?_) (fun hc => ?_))
        all_goals try exact hk
        all_goals try (simp only [List.length_cons, List.length_nil]; omega)
        all_goals try omega
        exact q_loop (n' := s.size - (i + 1)) (by omega) ((ghost_keep2 [0, 1, 5, 15, 16] [.loc 901, .loc 31] rfl rfl).trans (ghost_renL2 (.loc 31) (.loc 900) rfl rfl rfl rfl)) ⟨i + 1, by omega, rfl, by rw [wi]; rfl, by rw [hnext, hbt]; rfl⟩
  · obtain rfl : i = s.size := by omega
    have e : es ++ u8L (34 :: jEscs (s.data.toList.take s.size)) ++ [T.int .u8 34] = es ++ u8L (jQ s) := by
      rw [← hl, List.take_length, List.append_assoc]
      congr 1
      show u8L _ ++ u8L [34] = _
      rw [← u8L_append]; rfl
    repeat' (first | (with_reducible refine codeT_seq ?_) | (with_reducible refine codeT_block ?_) | (with_reducible refine codeT_skip ?_) | (with_reducible refine codeT_ret ?_) | (with_reducible refine codeT_exit ?_) | (with_reducible refine codeT_regionL ?_) | (with_reducible refine lx_nil ?_) | (with_reducible refine q_then ?_) | (with_reducible refine q_then_exit ?_) | ((with_reducible refine q_block_same ?_ ?_); · rfl) | (with_reducible refine q_loop_exit ?_) | (exfalso; omega) | ((with_reducible refine g_move ?_); first | refine lx_move (r := (.row _)) rfl rfl rfl rfl rfl ?_) | ((with_reducible refine g_binOp ?_); first | refine lx_arith rfl rfl rfl rfl rfl rfl rfl ?_) | ((with_reducible refine g_assign ?_); first | refine lx_assign (r := (.row _)) rfl rfl rfl rfl rfl ?_) | ((with_reducible refine g_buildSlice ?_); first | refine lx_buildSlice rfl rfl rfl rfl rfl rfl rfl ?_) | ((with_reducible refine g_append ?_); first | refine lx_append_row rfl rfl rfl rfl rfl rfl rfl rfl rfl rfl ?_ ?_ ?_) | refine c_condP rfl (fun hc => ?_) (fun hc => ?_))
    all_goals try (simp only [List.length_singleton]; omega)
    refine q_ghost ((ghost_keep2 [4] [.loc 53] rfl rfl).trans (ghost_renL2 (.loc 53) (.res 0) rfl rfl rfl rfl)) ?_
    exact q_done (q_ret (resT_one rfl (AVLE.of_eq rfl)) (stHas_spec ⟨by rw [← e]; rfl, trivial⟩))
set_option maxHeartbeats 2000000 in
theorem appendBool_spec (es : List T) (b : Bool) (hb : es.length ≤ 100000000) : Spec Tryd.prog 37 [.row (.par 0), .t (.bool b)] [(.par 0, .slt 5 1 es)] (.row (.res 0)) [(.res 0, .slt 5 1 (es ++ u8L (if b then jTrue else jFalse)))] := by
  have hI : Spec Tryd.prog 55 [.row (.par 0), .t (.bool b)] [(.par 0, .slt 5 1 es)] (.row (.res 0)) [(.res 0, .slt 5 1 (es ++ u8L (if b then jTrue else jFalse)))] := by
    cases b with
    | true =>
      refine spec_introG (env0 := [(0, _), (1, _)]) (st0 := [(_, some _)]) Tryd.func55 rfl rfl rfl rfl ?_
      repeat' (first | (with_reducible refine codeT_seq ?_) | (with_reducible refine codeT_ret ?_) | (with_reducible refine codeT_regionL ?_) | (with_reducible refine lx_nil ?_) | (with_reducible refine q_then ?_) | (with_reducible refine q_then_ret ?_) | refine c_condT rfl ?_ | ((with_reducible refine g_move ?_); first | refine lx_move (r := (.t _)) rfl rfl rfl rfl rfl ?_ | refine lx_move (r := (.row _)) rfl rfl rfl rfl rfl ?_) | ((with_reducible refine g_assign ?_); first | refine lx_assign (r := (.t _)) rfl rfl rfl rfl rfl ?_ | refine lx_assign (r := (.row _)) rfl rfl rfl rfl rfl ?_) | ((with_reducible refine g_append ?_); first | refine lx_append_str rfl rfl rfl rfl rfl rfl rfl rfl rfl ?_ ?_ ?_))
      · show (es.length + 4) * 1 ≤ _; omega
      · show es.length + 4 ≤ _; omega
      refine q_ghost ((ghost_keep2 [4] [.loc 7] rfl rfl).trans (ghost_renL2 (.loc 7) (.res 0) rfl rfl rfl rfl)) ?_
      exact q_done (q_ret (resT_one rfl (AVLE.of_eq rfl)) (stHas_spec ⟨rfl, trivial⟩))
    | false =>
      refine spec_introG (env0 := [(0, _), (1, _)]) (st0 := [(_, some _)]) Tryd.func55 rfl rfl rfl rfl ?_
      repeat' (first | (with_reducible refine codeT_seq ?_) | (with_reducible refine codeT_skip ?_) | (with_reducible refine codeT_ret ?_) | (with_reducible refine codeT_regionL ?_) | (with_reducible refine lx_nil ?_) | (with_reducible refine q_then ?_) | refine c_condF rfl ?_ | ((with_reducible refine g_move ?_); first | refine lx_move (r := (.t _)) rfl rfl rfl rfl rfl ?_ | refine lx_move (r := (.row _)) rfl rfl rfl rfl rfl ?_) | ((with_reducible refine g_assign ?_); first | refine lx_assign (r := (.t _)) rfl rfl rfl rfl rfl ?_ | refine lx_assign (r := (.row _)) rfl rfl rfl rfl rfl ?_) | ((with_reducible refine g_append ?_); first | refine lx_append_str rfl rfl rfl rfl rfl rfl rfl rfl rfl ?_ ?_ ?_))
      · show (es.length + 5) * 1 ≤ _; omega
      · show es.length + 5 ≤ _; omega
      refine q_ghost ((ghost_keep2 [4] [.loc 9] rfl rfl).trans (ghost_renL2 (.loc 9) (.res 0) rfl rfl rfl rfl)) ?_
      exact q_done (q_ret (resT_one rfl (AVLE.of_eq rfl)) (stHas_spec ⟨rfl, trivial⟩))
  refine spec_introG (env0 := [(0, _), (1, _)]) (st0 := [(_, some _)]) Tryd.func37 rfl rfl rfl rfl ?_
  repeat' (first | (with_reducible refine codeT_seq ?_) | (with_reducible refine codeT_ret ?_) | (with_reducible refine codeT_regionL ?_) | (with_reducible refine lx_nil ?_) | (with_reducible refine q_then ?_) | ((with_reducible refine g_move ?_); first | refine lx_move (r := (.t _)) rfl rfl rfl rfl rfl ?_ | refine lx_move (r := (.row _)) rfl rfl rfl rfl rfl ?_) | ((with_reducible refine g_assign ?_); first | refine lx_assign (r := (.t _)) rfl rfl rfl rfl rfl ?_ | refine lx_assign (r := (.row _)) rfl rfl rfl rfl rfl ?_) | ((with_reducible refine g_call ?_); first | refine lx_call (r' := .row (.loc 903)) [(.res 0, .loc 903)] rfl rfl hI (ArgsLE.refl _) rfl ⟨rfl, trivial⟩ rfl rfl rfl rfl rfl rfl rfl rfl rfl rfl ?_))
  refine q_ghost ((ghost_keep2 [4] [.loc 903] rfl rfl).trans (ghost_renL2 (.loc 903) (.res 0) rfl rfl rfl rfl)) ?_
  exact q_done (q_ret (resT_one rfl (AVLE.of_eq rfl)) (stHas_spec ⟨rfl, trivial⟩))
theorem formatBool_spec (b : Bool) : Spec Tryd.prog 39 [.t (.bool b)] [] (.t (.str (ofL (if b then jTrue else jFalse)))) [] := by
  have hI : Spec Tryd.prog 57 [.t (.bool b)] [] (.t (.str (ofL (if b then jTrue else jFalse)))) [] := by
    cases b with
    | true =>
      refine spec_intro (env0 := [(0, _)]) (st0 := []) Tryd.func57 rfl rfl rfl rfl ?_
      repeat' (first | (with_reducible refine codeT_seq ?_) | (with_reducible refine codeT_ret ?_) | (with_reducible refine codeT_regionL ?_) | (with_reducible refine lx_nil ?_) | (with_reducible refine q_then ?_) | (with_reducible refine q_then_ret ?_) | refine c_condT rfl ?_ | ((with_reducible refine g_move ?_); first | refine lx_move (r := (.t _)) rfl rfl rfl rfl rfl ?_) | ((with_reducible refine g_assign ?_); first | refine lx_assign (r := (.t _)) rfl rfl rfl rfl rfl ?_))
      exact q_ret (resT_oneE rfl rfl rfl) (by simp)
    | false =>
      refine spec_intro (env0 := [(0, _)]) (st0 := []) Tryd.func57 rfl rfl rfl rfl ?_
      repeat' (first | (with_reducible refine codeT_seq ?_) | (with_reducible refine codeT_skip ?_) | (with_reducible refine codeT_ret ?_) | (with_reducible refine codeT_regionL ?_) | (with_reducible refine lx_nil ?_) | (with_reducible refine q_then ?_) | refine c_condF rfl ?_ | ((with_reducible refine g_move ?_); first | refine lx_move (r := (.t _)) rfl rfl rfl rfl rfl ?_) | ((with_reducible refine g_assign ?_); first | refine lx_assign (r := (.t _)) rfl rfl rfl rfl rfl ?_))
      exact q_ret (resT_oneE rfl rfl rfl) (by simp)
  generalize ofL (if b then jTrue else jFalse) = r at *
  refine spec_intro (env0 := [(0, _)]) (st0 := []) Tryd.func39 rfl rfl rfl rfl ?_
  repeat' (first | (with_reducible refine codeT_seq ?_) | (with_reducible refine codeT_ret ?_) | (with_reducible refine codeT_regionL ?_) | (with_reducible refine lx_nil ?_) | (with_reducible refine q_then ?_) | ((with_reducible refine g_move ?_); first | refine lx_move (r := (.t _)) rfl rfl rfl rfl rfl ?_) | ((with_reducible refine g_assign ?_); first | refine lx_assign (r := (.t _)) rfl rfl rfl rfl rfl ?_) | ((with_reducible refine g_call ?_); first | refine lx_callT rfl rfl hI rfl rfl (ArgsLE.refl _) rfl rfl rfl rfl rfl ?_))
  exact q_ret (resT_oneE rfl rfl rfl) (by simp)
end Go.AL
/- What numbers are written as: strconv.AppendInt and strconv.Itoa at base 10. -/
set_option linter.unusedVariables false
namespace Go.AL
open Go Go.Proofs Go.RowKit Go.Sort

/-- A call that leaves the world as it is. -/
theorem Spec.of_same {P : Program} {f : FuncId} {args : List AV} {r : AV} {S : StL} (H : ∀ h m (vs : Array Value) w, Sim h m (StL.get S) w → vs.size = args.length → RepAs h m (fun j => vs[j]?) 0 args → Calls P f vs w fun e w' => ∃ v, e = .returned v ∧ (∀ h' m', RepA h' m' v r) ∧ w' = w) : Spec P f args S r S where
  run h m vs w hs hv hr := (H h m vs w hs hv hr).mono fun e w' ⟨v, he, hv', hw⟩ => by
    subst hw
    exact ⟨v, h, m, he, hv' h m, hs, ⟨Foot.refl .., fun _ => rfl⟩⟩
theorem one_arg {h : Heap} {m : Names} {vs : Array Value} {x : T} (hv : vs.size = 1) (hr : RepAs h m (fun j => vs[j]?) 0 [.t x]) {u : Value} (hx : ∀ v, RepT h v x → v = u) : vs = #[u] := by
  simp only [RepAs, RepA, and_true] at hr
  obtain ⟨v, h0, h1⟩ := hr
  have := hx v h1
  subst this
  apply Array.ext
  · simpa using hv
  · intro i h1' h2'
    obtain rfl : i = 0 := by omega
    rw [Array.getElem?_eq_getElem h1'] at h0; simpa using h0
/-- The table of the powers of ten. -/
theorem pow_is {oP : Obj} (hP : isTabOf .u64 Lib.pow10Tab oP) {w : World} (h : w.heap[2]? = some oP) : Lib.TabIs Tryd.prog w "internal/strconv.uint64pow10" .u64 Lib.pow10Tab := by
  unfold Lib.TabIs World.var?
  rw [show Tryd.prog.globalNamed "internal/strconv.uint64pow10" = some 2 by kernel_rfl, Option.bind_some, h]
  cases oP with
  | cells cs e fr =>
    have : cs.toList = Lib.pow10Tab.map (Value.int .u64) := hP
    show some cs = _
    congr 1
    apply Array.ext'
    rw [this]
  | _ => exact hP.elim
theorem pow_row {oP : Obj} {h : Heap} {m : Names} {w : World} {S : StL} {b : Nat} {id : Id} (hs : Sim h m (StL.get S) w) (hS : StL.get S id = some (.dat (.fix b oP))) : w.heap[b]? = some oP := by
  obtain ⟨b', o, e1, e2, e3⟩ := hs.rows id _ hS
  obtain ⟨e4, e5⟩ := e3
  subst e5
  rw [e4] at e1
  cases e1
  exact e2
theorem numDigits_spec {oP : Obj} (hP : isTabOf .u64 Lib.pow10Tab oP) (u : Nat) (h1 : 1 ≤ u) (h2 : u < 18446744073709551616) : Spec Tryd.prog 81 [.t (.int .u64 (u : Int))] [(.par 102, .dat (.fix 2 oP))] (.t (.int .i64 (Lib.nDigits u : Int))) [(.par 102, .dat (.fix 2 oP))] :=
  Spec.of_same fun h m vs w hs hv hr => by
    obtain rfl := one_arg hv hr (u := .int .u64 u) fun v hv => by simpa [RepT] using hv
    exact (Any.internal_strconv_numDigits l284_lays u h1 h2 w (pow_is hP (pow_row hs (get_self _ _)))).mono fun e w' ⟨he, hw⟩ => ⟨_, he, fun h' m' => by simp [RepA, RepT], hw⟩
theorem small_spec (i : Nat) (hi : i < 100) : Spec Tryd.prog 80 [.t (.int .i64 (i : Int))] [] (.t (.str (ofL (Lib.decDigits i)))) [] :=
  Spec.of_same fun h m vs w hs hv hr => by
    obtain rfl := one_arg hv hr (u := .int .i64 i) fun v hv => by simpa [RepT] using hv
    exact (Any.internal_strconv_small l283_lays i hi w).mono fun e w' ⟨he, hw⟩ => ⟨_, he, fun h' m' => by simp [RepA, RepT, ofL], hw⟩
theorem Itoa_spec {oP : Obj} (hP : isTabOf .u64 Lib.pow10Tab oP) (n : Int) (h0 : -9223372036854775808 ≤ n) (h1 : n ≤ 9223372036854775807) : Spec Tryd.prog 40 [.t (.int .i64 n)] [(.par 102, .dat (.fix 2 oP))] (.t (.str (ofL (Lib.itoa n)))) [(.par 102, .dat (.fix 2 oP))] where
  run h m vs w hs hv hr := by
    obtain rfl := one_arg hv hr (u := .int .i64 n) fun v hv => by simpa [RepT] using hv
    refine (Any.strconv_Itoa l171_lays n h0 h1 w (pow_is hP (pow_row hs (get_self _ _)))).mono fun e w' ⟨he, k, os, hw⟩ => ?_
    have hb : Below w.heap.size w w' := by rw [hw]; exact Lib.below_grow w.heap.size w (Nat.le_refl _) k os
    have := sim_below hs hb
    exact ⟨_, h, m, he, by simp [RepA, RepT, ofL], this.1, this.2⟩
theorem dig_get (l : List UInt8) (d : Array UInt8) (n : Nat) (hl : l.length = n) (hd : d.size = n) (H : ∀ j (hj : j < l.length), l[j] = d[j]!) : d = l.toArray := by
  apply Array.ext
  · simp; omega
  · intro i h1 h2
    have := H i (by simpa using h2)
    rw [getElem!_pos d i h1] at this
    simp [this]
theorem fmt10_spec {aty : TypeId} (bs : List UInt8) (u : Nat) (hu : u < 18446744073709551616) (hlen : Lib.nDigits u ≤ bs.length) (hsz : bs.length ≤ 100) : Spec Tryd.prog 82 [.view (.par 0) (Lib.nDigits u) bs.length, .t (.int .u64 (u : Int))] [(.par 0, .arr aty 1 (u8L bs))] (.tup []) [(.par 0, .arr aty 1 (u8L (Lib.decDigits u ++ bs.drop (Lib.nDigits u))))] where
  run h m vs w hs hv hr := by
    obtain ⟨b, arr, e1, e2, e3, e4⟩ := hs.rows (.par 0) _ (get_self _ _)
    simp only [RepAs, RepA, RepT, and_true] at hr
    obtain ⟨⟨v0, k0, b', k1, rfl⟩, v1, k2, rfl⟩ := hr
    rw [e1] at k1
    cases k1
    have hv2 : vs.size = 2 := hv
    have evs : vs = #[.slice (some ⟨b, 0, none⟩) (Lib.nDigits u) bs.length, .int .u64 u] := by
      apply Array.ext
      · simpa using hv2
      · intro i h1' h2'
        have : i = 0 ∨ i = 1 := by omega
        rcases this with rfl | rfl
        · rw [Array.getElem?_eq_getElem h1'] at k0; simpa using k0
        · rw [Array.getElem?_eq_getElem h1'] at k2; simpa using k2
    subst evs
    have hal : arr.size = bs.length := by rw [e3, u8L_len, Nat.mul_one]
    have cell : ∀ j (hj : j < bs.length), arr[j]? = some (.int .u8 (bs[j].toNat : Int)) := fun j hj => by
      obtain ⟨_, c2⟩ := RepEs_get e4 (i := j) (e := u8T bs[j]) (by simp [u8L, hj])
      simp only [u8T, T.cells, RepL, RepT, and_true, Nat.mul_one, Nat.zero_add] at c2
      obtain ⟨x, c3, _, rfl⟩ := c2
      exact c3
    have hH : Holds (fun (b : UInt8) => Value.int .u8 (b.toNat : Int)) w b 0 (bs.take (Lib.nDigits u)).toArray := fun j hj => by
      have hj' : j < Lib.nDigits u := by simp at hj; omega
      refine ⟨?_, ?_⟩
      · rw [Nat.zero_add, cell_of_heap e2, cell j (by omega), getElem!_pos _ j hj]
        simp
      · simp [World.frozen?, e2]
    have hds : (bs.take (Lib.nDigits u)).toArray.size = Lib.nDigits u := by simp; omega
    have hfmt := Any.internal_strconv_formatBase10 l285_lays b 0 bs.length u (bs.take (Lib.nDigits u)).toArray w hH (by rw [hds]; exact Lib.lt_pow_nDigits u) hu (by rw [hds]; omega)
    rw [hds] at hfmt
    refine hfmt.mono fun e w' ⟨he, n, v', dk, hw, hF⟩ => ?_
    have hdk : dk = (Lib.decDigits u).toArray := dig_get _ _ (Lib.nDigits u) (Lib.decDigits_length u) hF.size (fun j hj => Lib.row_is_numeral hF j hj)
    have hdl : (Lib.decDigits u).length = Lib.nDigits u := Lib.decDigits_length u
    have hbl : b < w.heap.size := (Array.getElem?_eq_some_iff.1 e2).1
    have hheap : w'.heap = w.heap.modify b (onCells (putCells (fun (b : UInt8) => Value.int .u8 (b.toNat : Int)) 0 dk)) := by rw [hw]; rfl
    have hwr : Wrote w w' b := ⟨by rw [hw]; rfl, by rw [hw]; rfl, by rw [hw]; rfl, by rw [hheap]; simp, fun k hk => by rw [hheap, Array.getElem?_modify, if_neg (Ne.symm hk)]⟩
    have hnew : w'.heap[b]? = some (.cells (putCells (fun (b : UInt8) => Value.int .u8 (b.toNat : Int)) 0 dk arr) aty (0, 0)) := by
      rw [hheap, Array.getElem?_modify, if_pos rfl, e2]; rfl
    obtain ⟨s1, s2⟩ := wrote_row hs (by rw [e1]; rfl) hwr (row' := .arr aty 1 (u8L (Lib.decDigits u ++ bs.drop (Lib.nDigits u)))) ⟨b, _, e1, hnew, by
      simp only [putCells, Array.size_mapIdx, hal, u8L_len, List.length_append, hdl, List.length_drop]; omega, by
      refine RepEs_of_get fun i e' he' => ?_
      have hi : i < (Lib.decDigits u ++ bs.drop (Lib.nDigits u)).length := by
        have := (List.getElem?_eq_some_iff.1 he').1
        rwa [u8L_len] at this
      have hi2 : i < bs.length := by rw [List.length_append, List.length_drop] at hi; omega
      have e5 : e' = u8T (Lib.decDigits u ++ bs.drop (Lib.nDigits u))[i] := by
        have := he'
        simp only [u8L, List.getElem?_map, List.getElem?_eq_getElem hi, Option.map_some, Option.some.injEq] at this
        exact this.symm
      subst e5
      refine ⟨rfl, ?_⟩
      simp only [u8T, T.cells, RepL, RepT, and_true, Nat.mul_one, Nat.zero_add]
      refine ⟨_, ?_, rfl, rfl⟩
      simp only [putCells, Array.getElem?_mapIdx, cell i hi2, Option.map_some, Nat.zero_le, true_and, Nat.zero_add, Nat.sub_zero]
      congr 1
      by_cases hlt : i < dk.size
      · rw [if_pos hlt]
        have h3 : i < (Lib.decDigits u).length := by rw [hdl]; rw [hF.size] at hlt; exact hlt
        rw [List.getElem_append_left h3, Lib.row_is_numeral hF i h3]
      · rw [if_neg hlt]
        have h3 : (Lib.decDigits u).length ≤ i := by rw [hdl]; rw [hF.size] at hlt; omega
        rw [List.getElem_append_right h3, List.getElem_drop]
        congr 3
        have h4 : Lib.nDigits u + (i - (Lib.decDigits u).length) = i := by omega
        simp only [h4]⟩
    exact ⟨_, h, m, he, ⟨#[], rfl, rfl, trivial⟩, s1, ⟨s2, fun _ => rfl⟩⟩
end Go.AL
/- What strconv.AppendInt answers. -/
set_option linter.unusedVariables false
namespace Go.AL
open Go Go.Proofs Go.RowKit

theorem bytesT_ofL (l : List UInt8) : bytesT (ofL l) = u8L l := by simp [bytesT, u8L, ofL]
theorem u8L_flat (l : List UInt8) : ∀ e ∈ u8L l, e.isAgg = false := fun e he => by
  obtain ⟨b, _, rfl⟩ := List.mem_map.1 he
  rfl
def zero24 : List UInt8 := List.replicate 24 0
set_option maxHeartbeats 8000000 in
theorem appendUint_spec {oP : Obj} (hP : isTabOf .u64 Lib.pow10Tab oP) (es : List T) (hb : es.length ≤ 100000000) (u : Nat) (hu : u < 18446744073709551616) : Spec Tryd.prog 73 [.row (.par 0), .t (.int .u64 (u : Int)), .t (.int .i64 10)] [(.par 0, .slt 5 1 es), (.par 102, .dat (.fix 2 oP))] (.row (.res 0)) [(.res 0, .slt 5 1 (es ++ u8L (Lib.decDigits u))), (.par 102, .dat (.fix 2 oP))] := by
  have hl := dig_len u hu
  by_cases h : u < 100
  · have ws : IntKind.i64.wrap (u : Int) = (u : Int) := wrap64 (by omega) (by omega)
    have hS := small_spec u h
    rw [← ws] at hS
    have hbl : (bytesT (ofL (Lib.decDigits u))).length ≤ 20 := by rw [bytesT_ofL, u8L_len]; omega
    rw [← bytesT_ofL]
    generalize ofL (Lib.decDigits u) = D at hS hbl ⊢
    refine spec_introG (env0 := [(0, _), (1, _), (2, _)]) (st0 := [(_, some _), (_, some _)]) Tryd.func73 rfl rfl rfl rfl ?_
    repeat' (first | (with_reducible refine codeT_seq ?_) | (with_reducible refine codeT_skip ?_) | (with_reducible refine codeT_ret ?_) | (with_reducible refine codeT_regionL ?_) | (with_reducible refine lx_nil ?_) | (with_reducible refine q_then ?_) | (with_reducible refine q_then_ret ?_) | refine c_condT rfl ?_ | (exfalso; omega) | ((with_reducible refine g_move ?_); first | refine lx_move (r := (.t _)) rfl rfl rfl rfl rfl ?_ | refine lx_move (r := (.row _)) rfl rfl rfl rfl rfl ?_) | ((with_reducible refine g_binOp ?_); first | refine lx_arith rfl rfl rfl rfl rfl rfl rfl ?_) | ((with_reducible refine g_assign ?_); first | refine lx_assign (r := (.t _)) rfl rfl rfl rfl rfl ?_ | refine lx_assign (r := (.row _)) rfl rfl rfl rfl rfl ?_) | ((with_reducible refine g_convert ?_); first | refine lx_conv_int rfl rfl rfl rfl rfl ?_) | ((with_reducible refine g_append ?_); first | refine lx_append_str rfl rfl rfl rfl rfl rfl rfl rfl rfl ?_ ?_ ?_) | ((with_reducible refine g_call ?_); first | refine lx_callT rfl rfl hS rfl rfl (ArgsLE.refl _) rfl rfl rfl rfl rfl ?_) | refine c_condP rfl (fun hc => ?_) (fun hc => ?_))
    all_goals try omega
    refine q_ghost ((ghost_keep2 [6] [.par 102, .loc 17] rfl rfl).trans (ghost_renL2 (.loc 17) (.res 0) rfl rfl rfl rfl)) ?_
    exact q_done (q_ret (resT_one rfl (AVLE.of_eq rfl)) (stHas_spec ⟨rfl, rfl, trivial⟩))
  · have hD := numDigits_spec hP u (by omega) hu
    have hn : Lib.nDigits u ≤ 20 := by rw [Lib.decDigits_length] at hl; omega
    have hF := fmt10_spec (aty := 110) zero24 u hu (by show _ ≤ 24; omega) (by decide)
    have hfin : (u8L (Lib.decDigits u ++ zero24.drop (Lib.nDigits u))).take (Lib.nDigits u) = u8L (Lib.decDigits u) := by
      rw [u8L_append, List.take_append_of_le_length (by rw [u8L_len, Lib.decDigits_length]; omega), List.take_of_length_le (by rw [u8L_len, Lib.decDigits_length]; omega)]
    have hfl : Lib.nDigits u ≤ (u8L (Lib.decDigits u ++ zero24.drop (Lib.nDigits u))).length := by rw [u8L_len, List.length_append, Lib.decDigits_length]; omega
    rw [← hfin]
    generalize u8L (Lib.decDigits u ++ zero24.drop (Lib.nDigits u)) = W at hF hfl ⊢
    clear hfin
    generalize Lib.nDigits u = nd at *
    refine spec_introG (env0 := [(0, _), (1, _), (2, _)]) (st0 := [(_, some _), (_, some _)]) Tryd.func73 rfl rfl rfl rfl ?_
    repeat' (first | refine codeT_ghost (x := Code.seq (Code.region 5 _ _) _) (ghost_rowL (id := .loc 7) rfl (RowLE.arr (es := u8L zero24) rfl (u8L_flat _)) rfl) ?_ | (with_reducible refine codeT_seq ?_) | (with_reducible refine codeT_skip ?_) | (with_reducible refine codeT_ret ?_) | (with_reducible refine codeT_regionL ?_) | (with_reducible refine lx_nil ?_) | (with_reducible refine q_then ?_) | (with_reducible refine q_then_ret ?_) | refine c_condT rfl ?_ | (exfalso; omega) | refine lx_slice_view rfl rfl rfl rfl rfl rfl rfl ?_ ?_ ?_ | refine lx_append_view rfl rfl rfl rfl rfl rfl rfl rfl rfl rfl ?_ ?_ ?_ ?_ | ((with_reducible refine g_move ?_); first | refine lx_move (r := (.t _)) rfl rfl rfl rfl rfl ?_ | refine lx_move (r := (.row _)) rfl rfl rfl rfl rfl ?_) | ((with_reducible refine g_binOp ?_); first | refine lx_arith rfl rfl rfl rfl rfl rfl rfl ?_) | ((with_reducible refine g_assign ?_); first | refine lx_assign (r := (.t _)) rfl rfl rfl rfl rfl ?_ | refine lx_assign (r := (.row _)) rfl rfl rfl rfl rfl ?_) | ((with_reducible refine g_alloc ?_); first | refine lx_alloc rfl rfl rfl rfl rfl rfl rfl ?_) | ((with_reducible refine g_call ?_); first | refine lx_call (r' := .t (.int .i64 (nd : Int))) [] rfl rfl hD (ArgsLE.refl _) rfl ⟨rfl, trivial⟩ rfl rfl rfl rfl rfl rfl rfl rfl rfl rfl ?_ | refine lx_call (r' := .tup []) [(.par 0, .loc 7)] rfl rfl hF (ArgsLE.refl _) rfl ⟨rfl, trivial⟩ rfl rfl rfl rfl rfl rfl rfl rfl rfl rfl ?_) | refine c_condP rfl (fun hc => ?_) (fun hc => ?_))
    all_goals try omega
    all_goals try (show _ ≤ (24 : Int); omega)
    all_goals try exact hfl
    refine q_ghost ((ghost_keep2 [6] [.par 102, .loc 27] rfl rfl).trans (ghost_renL2 (.loc 27) (.res 0) rfl rfl rfl rfl)) ?_
    exact q_done (q_ret (resT_one rfl (AVLE.of_eq rfl)) (stHas_spec ⟨rfl, rfl, trivial⟩))
set_option maxHeartbeats 4000000 in
theorem appendInt_spec {oP : Obj} (hP : isTabOf .u64 Lib.pow10Tab oP) (es : List T) (hb : es.length ≤ 99999999) (n : Int) (h0 : -9223372036854775808 ≤ n) (h1 : n ≤ 9223372036854775807) : Spec Tryd.prog 38 [.row (.par 0), .t (.int .i64 n), .t (.int .i64 10)] [(.par 0, .slt 5 1 es), (.par 102, .dat (.fix 2 oP))] (.row (.res 0)) [(.res 0, .slt 5 1 (es ++ u8L (Lib.itoa n))), (.par 102, .dat (.fix 2 oP))] := by
  have hI : Spec Tryd.prog 56 [.row (.par 0), .t (.int .i64 n), .t (.int .i64 10)] [(.par 0, .slt 5 1 es), (.par 102, .dat (.fix 2 oP))] (.row (.res 0)) [(.res 0, .slt 5 1 (es ++ u8L (Lib.itoa n))), (.par 102, .dat (.fix 2 oP))] := by
    by_cases hn : n < 0
    · have hU := appendUint_spec hP (es ++ [T.int .u8 45]) (by simp; omega) n.natAbs (by omega)
      have hw : IntKind.u64.wrap (0 - IntKind.u64.wrap n) = ((n.natAbs : Nat) : Int) := by
        have e1 : ∀ x : Int, IntKind.u64.wrap x = x % 18446744073709551616 := fun x => rfl
        rw [e1, e1]; omega
      have hr : es ++ u8L (Lib.itoa n) = es ++ [T.int .u8 45] ++ u8L (Lib.decDigits n.natAbs) := by
        unfold Lib.itoa
        rw [if_pos hn, List.append_assoc]; rfl
      rw [hr]
      rw [← hw] at hU
      generalize u8L (Lib.decDigits n.natAbs) = D at hU ⊢
      refine spec_introG (env0 := [(0, _), (1, _), (2, _)]) (st0 := [(_, some _), (_, some _)]) Tryd.func56 rfl rfl rfl rfl ?_
      repeat' (first | (with_reducible refine codeT_seq ?_) | (with_reducible refine codeT_skip ?_) | (with_reducible refine codeT_ret ?_) | (with_reducible refine codeT_regionL ?_) | (with_reducible refine lx_nil ?_) | (with_reducible refine q_then ?_) | (exfalso; omega) | ((with_reducible refine g_move ?_); first | refine lx_move (r := (.t _)) rfl rfl rfl rfl rfl ?_ | refine lx_move (r := (.row _)) rfl rfl rfl rfl rfl ?_) | ((with_reducible refine g_binOp ?_); first | refine lx_arith rfl rfl rfl rfl rfl rfl rfl ?_) | ((with_reducible refine g_assign ?_); first | refine lx_assign (r := (.t _)) rfl rfl rfl rfl rfl ?_ | refine lx_assign (r := (.row _)) rfl rfl rfl rfl rfl ?_) | ((with_reducible refine g_unOp ?_); first | refine lx_neg rfl rfl rfl rfl rfl ?_) | ((with_reducible refine g_convert ?_); first | refine lx_conv_int rfl rfl rfl rfl rfl ?_) | ((with_reducible refine g_buildSlice ?_); first | refine lx_buildSlice rfl rfl rfl rfl rfl rfl rfl ?_) | ((with_reducible refine g_append ?_); first | refine lx_append_row rfl rfl rfl rfl rfl rfl rfl rfl rfl rfl ?_ ?_ ?_) | ((with_reducible refine g_call ?_); first | refine lx_call (r' := .row (.loc 903)) [(.par 0, .loc 14), (.res 0, .loc 903)] rfl rfl hU (ArgsLE.refl _) rfl ⟨rfl, rfl, trivial⟩ rfl rfl rfl rfl rfl rfl rfl rfl rfl rfl ?_) | refine c_condP rfl (fun hc => ?_) (fun hc => ?_))
      all_goals try (simp only [List.length_singleton]; omega)
      refine q_ghost ((ghost_keep2 [6] [.par 102, .loc 903] rfl rfl).trans (ghost_renL2 (.loc 903) (.res 0) rfl rfl rfl rfl)) ?_
      exact q_done (q_ret (resT_one rfl (AVLE.of_eq rfl)) (stHas_spec ⟨rfl, rfl, trivial⟩))
    · have hU := appendUint_spec hP es (by omega) n.toNat (by omega)
      have hw : IntKind.u64.wrap n = ((n.toNat : Nat) : Int) := by
        have e1 : ∀ x : Int, IntKind.u64.wrap x = x % 18446744073709551616 := fun x => rfl
        rw [e1]; omega
      have hr : Lib.itoa n = Lib.decDigits n.toNat := by unfold Lib.itoa; rw [if_neg hn]
      rw [hr]
      rw [← hw] at hU
      generalize u8L (Lib.decDigits n.toNat) = D at hU ⊢
      refine spec_introG (env0 := [(0, _), (1, _), (2, _)]) (st0 := [(_, some _), (_, some _)]) Tryd.func56 rfl rfl rfl rfl ?_
      repeat' (first | (with_reducible refine codeT_seq ?_) | (with_reducible refine codeT_skip ?_) | (with_reducible refine codeT_ret ?_) | (with_reducible refine codeT_regionL ?_) | (with_reducible refine lx_nil ?_) | (with_reducible refine q_then ?_) | (exfalso; omega) | ((with_reducible refine g_move ?_); first | refine lx_move (r := (.t _)) rfl rfl rfl rfl rfl ?_ | refine lx_move (r := (.row _)) rfl rfl rfl rfl rfl ?_) | ((with_reducible refine g_binOp ?_); first | refine lx_arith rfl rfl rfl rfl rfl rfl rfl ?_) | ((with_reducible refine g_assign ?_); first | refine lx_assign (r := (.t _)) rfl rfl rfl rfl rfl ?_ | refine lx_assign (r := (.row _)) rfl rfl rfl rfl rfl ?_) | ((with_reducible refine g_convert ?_); first | refine lx_conv_int rfl rfl rfl rfl rfl ?_) | ((with_reducible refine g_call ?_); first | refine lx_call (r' := .row (.loc 903)) [(.res 0, .loc 903)] rfl rfl hU (ArgsLE.refl _) rfl ⟨rfl, rfl, trivial⟩ rfl rfl rfl rfl rfl rfl rfl rfl rfl rfl ?_) | refine c_condP rfl (fun hc => ?_) (fun hc => ?_))
      refine q_ghost ((ghost_keep2 [6] [.par 102, .loc 903] rfl rfl).trans (ghost_renL2 (.loc 903) (.res 0) rfl rfl rfl rfl)) ?_
      exact q_done (q_ret (resT_one rfl (AVLE.of_eq rfl)) (stHas_spec ⟨rfl, rfl, trivial⟩))
  generalize u8L (Lib.itoa n) = D at hI ⊢
  refine spec_introG (env0 := [(0, _), (1, _), (2, _)]) (st0 := [(_, some _), (_, some _)]) Tryd.func38 rfl rfl rfl rfl ?_
  repeat' (first | (with_reducible refine codeT_seq ?_) | (with_reducible refine codeT_ret ?_) | (with_reducible refine codeT_regionL ?_) | (with_reducible refine lx_nil ?_) | (with_reducible refine q_then ?_) | ((with_reducible refine g_move ?_); first | refine lx_move (r := (.t _)) rfl rfl rfl rfl rfl ?_ | refine lx_move (r := (.row _)) rfl rfl rfl rfl rfl ?_) | ((with_reducible refine g_assign ?_); first | refine lx_assign (r := (.t _)) rfl rfl rfl rfl rfl ?_ | refine lx_assign (r := (.row _)) rfl rfl rfl rfl rfl ?_) | ((with_reducible refine g_call ?_); first | refine lx_call (r' := .row (.loc 903)) [(.res 0, .loc 903)] rfl rfl hI (ArgsLE.refl _) rfl ⟨rfl, rfl, trivial⟩ rfl rfl rfl rfl rfl rfl rfl rfl rfl rfl ?_))
  refine q_ghost ((ghost_keep2 [6] [.par 102, .loc 903] rfl rfl).trans (ghost_renL2 (.loc 903) (.res 0) rfl rfl rfl rfl)) ?_
  exact q_done (q_ret (resT_one rfl (AVLE.of_eq rfl)) (stHas_spec ⟨rfl, rfl, trivial⟩))
end Go.AL
