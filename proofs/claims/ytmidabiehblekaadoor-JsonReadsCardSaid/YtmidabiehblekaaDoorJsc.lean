/- What the document's Quote, Write and Encode of the first serialisation answer. -/
import Derived.Test.YtmidabiehblekaaDoorJsb
import Derived.Test.YtmidabiehblekaaDoorJnd
import Derived.Test.YtmidabiehblekaaDoorNod1
set_option linter.unusedVariables false
namespace Go.AL
open Go Go.Proofs Go.RowKit

theorem hex_bt (n : Nat) (h : n < 2) : bAt ⟨#[48, 49]⟩ (n : Int) = ((hexB n).toNat : Int) := by
  have : n = 0 ∨ n = 1 := by omega
  rcases this with rfl | rfl <;> decide
theorem letters (c : UInt8) (h : c = 8 ∨ c = 9 ∨ c = 10 ∨ c = 12 ∨ c = 13) : escO c = some (UInt8.ofNat (bAt ⟨#[98, 116, 110, 63, 102, 114]⟩ (IntKind.u8.wrap ((c.toNat : Int) - 8))).toNat) ∧ 0 ≤ bAt ⟨#[98, 116, 110, 63, 102, 114]⟩ (IntKind.u8.wrap ((c.toNat : Int) - 8)) ∧ bAt ⟨#[98, 116, 110, 63, 102, 114]⟩ (IntKind.u8.wrap ((c.toNat : Int) - 8)) < 256 ∧ 0 ≤ IntKind.u8.wrap ((c.toNat : Int) - 8) ∧ IntKind.u8.wrap ((c.toNat : Int) - 8) < 6 := by
  rcases h with rfl | rfl | rfl | rfl | rfl <;> decide
theorem no_letter (c : UInt8) (h1 : ¬ (c = 34 ∨ c = 92)) (h2 : ¬ (c = 8 ∨ c = 9 ∨ c = 10 ∨ c = 12 ∨ c = 13)) : escO c = none := by
  simp only [not_or] at h1 h2
  have b : ∀ a : UInt8, ¬ c = a → (c == a) = false := fun a h => by simpa using h
  simp only [escO, escL, List.lookup, b _ h1.1, b _ h1.2, b _ h2.1, b _ h2.2.1, b _ h2.2.2.1, b _ h2.2.2.2.1, b _ h2.2.2.2.2]
set_option maxHeartbeats 16000000 in
theorem rquote_spec (s : ByteArray) (hb : 6 * s.size + 2 ≤ 100000000) : Spec Tryd.prog 34 [.t (.str s)] [] (.t (.str (ofL (jQ s)))) [] := by
  have hl : s.data.toList.length = s.size := by rw [Array.length_toList]; rfl
  refine spec_intro (env0 := [(0, _)]) (st0 := []) Tryd.func34 rfl rfl rfl rfl ?_
  repeat' (first | (with_reducible refine codeT_seq ?_) | (with_reducible refine codeT_block ?_) | (with_reducible refine codeT_regionL ?_) | (with_reducible refine lx_nil ?_) | (with_reducible refine q_then ?_) | ((with_reducible refine g_move ?_); first | refine lx_move (r := (.t _)) rfl rfl rfl rfl rfl ?_) | ((with_reducible refine g_assign ?_); first | refine lx_assign (r := (.t _)) rfl rfl rfl rfl rfl ?_ | refine lx_assign (r := (.row _)) rfl rfl rfl rfl rfl ?_) | ((with_reducible refine g_buildSlice ?_); first | refine lx_buildSlice rfl rfl rfl rfl rfl rfl rfl ?_) | ((with_reducible refine g_len ?_); first | refine lx_len_str rfl rfl rfl rfl rfl ?_))
  refine codeT_ghost ((ghost_keep2 [0, 3, 8, 9] [.loc 6] rfl rfl).trans (ghost_renL2 (.loc 6) (.loc 900) rfl rfl rfl rfl)) ?_
  refine codeT_loop (fun p env st => ∃ (i : Nat), i ≤ s.size ∧ p = s.size - i ∧
      env = EnvL.get [(0, .t (.str s)), (3, .row (.loc 900)), (8, .t (.int .i64 (s.size : Int))), (9, .t (.int .i64 (i : Int)))] ∧
      st = StO.get [(.loc 900, some (.slt 5 1 (u8L (34 :: jEscs (s.data.toList.take i)))))])
    ?_ (n := s.size) ⟨0, by omega, rfl, rfl, rfl⟩
  rintro p env st ⟨i, hi, rfl, rfl, rfl⟩
  have wi : IntKind.i64.wrap ((i : Int) + 1) = ((i + 1 : Nat) : Int) := by rw [wrap64 (by omega) (by omega)]; omega
  have hq := jEscs_len (s.data.toList.take i)
  have hql : (s.data.toList.take i).length ≤ i := by rw [List.length_take]; omega
  have hxl : (u8L (34 :: jEscs (s.data.toList.take i))).length ≤ 99999999 := by
    simp only [u8L_len, List.length_cons]; omega
  by_cases hlt : i < s.size
  · have hbt : bAt s (i : Int) = ((s.data.toList.getD i default).toNat : Int) := rfl
    have ht := jEscs_take s.data.toList i (by omega)
    have hc8 := (s.data.toList.getD i default).toNat_lt
    obtain ⟨X, hX⟩ : ∃ X, X = u8L (34 :: jEscs (s.data.toList.take i)) := ⟨_, rfl⟩
    have hnext : u8L (34 :: jEscs (s.data.toList.take (i + 1))) = X ++ u8L (jEsc (s.data.toList.getD i default)) := by
      rw [hX, ht, ← u8L_append]; rfl
    rw [← hX] at hxl ⊢
    generalize hcc : s.data.toList.getD i default = c at *
    unfold jEsc at hnext
    clear hX ht
    have num : ∀ a : UInt8, c = a ↔ bAt s (i : Int) = (a.toNat : Int) := fun a => by
      rw [hbt]
      exact ⟨fun h => by rw [h], fun h => UInt8.toNat_inj.1 (by omega)⟩
    by_cases h1 : c = 34 ∨ c = 92
    · have hO : escO c = some c := by rcases h1 with rfl | rfl <;> decide
      rw [hO] at hnext
      simp only at hnext
      have h1n : bAt s (i : Int) = 34 ∨ bAt s (i : Int) = 92 := by
        rcases h1 with h | h
        · exact .inl ((num 34).1 h)
        · exact .inr ((num 92).1 h)
      repeat' (first | (with_reducible refine codeT_seq ?_) | (with_reducible refine codeT_block ?_) | (with_reducible refine codeT_skip ?_) | (with_reducible refine codeT_exit ?_) | (with_reducible refine codeT_regionL ?_) | (with_reducible refine lx_nil ?_) | (with_reducible refine q_then ?_) | (with_reducible refine q_then_exit ?_) | (with_reducible refine q_block ?_) | ((with_reducible refine q_block_same ?_ ?_); · rfl) | (with_reducible refine q_loop_exit ?_) | refine c_condT rfl ?_ | (exfalso; omega) | ((with_reducible refine g_guard ?_); first | refine lx_skip rfl rfl rfl ?_) | ((with_reducible refine g_move ?_); first | refine lx_move (r := (.t _)) rfl rfl rfl rfl rfl ?_ | refine lx_move (r := (.row _)) rfl rfl rfl rfl rfl ?_) | ((with_reducible refine g_binOp ?_); first | refine lx_arith rfl rfl rfl rfl rfl rfl rfl ?_) | ((with_reducible refine g_assign ?_); first | refine lx_assign (r := (.t _)) rfl rfl rfl rfl rfl ?_ | refine lx_assign (r := (.row _)) rfl rfl rfl rfl rfl ?_) | ((with_reducible refine g_pick ?_); first | refine lx_pickT (r := (.t _)) rfl rfl rfl rfl rfl rfl ?_ | refine lx_pickF (r := (.t _)) rfl rfl rfl rfl rfl rfl ?_) | ((with_reducible refine g_index ?_); first | refine lx_index_str rfl rfl rfl rfl rfl rfl ?_ ?_ ?_) | ((with_reducible refine g_buildSlice ?_); first | refine lx_buildSlice rfl rfl rfl rfl rfl rfl rfl ?_) | ((with_reducible refine g_append ?_); first | refine lx_append_row rfl rfl rfl rfl rfl rfl rfl rfl rfl rfl ?_ ?_ ?_) | refine c_condP rfl (fun hc => ?_) (fun hc => ?_) | refine lx_splitP rfl (fun hc => ?_) (fun hc => ?_))
      all_goals try (simp only [List.length_cons, List.length_nil]; omega)
      all_goals try omega
      all_goals exact q_loop (n' := s.size - (i + 1)) (by omega) ((ghost_keep2 [0, 3, 8, 9] [.loc 29] rfl rfl).trans (ghost_renL2 (.loc 29) (.loc 900) rfl rfl rfl rfl)) ⟨i + 1, by omega, rfl, by rw [wi]; rfl, by rw [hnext, hbt]; rfl⟩
    · have h1n : ¬ bAt s (i : Int) = 34 ∧ ¬ bAt s (i : Int) = 92 := ⟨fun h => h1 (.inl ((num 34).2 h)), fun h => h1 (.inr ((num 92).2 h))⟩
      obtain ⟨n1, n2⟩ := h1n
      by_cases h2 : c = 8 ∨ c = 9 ∨ c = 10 ∨ c = 12 ∨ c = 13
      · obtain ⟨hO, l0, l1, l2, l3⟩ := letters c h2
        rw [hO] at hnext
        simp only at hnext
        rw [← hbt] at hnext l0 l1 l2 l3
        have h2n : bAt s (i : Int) = 8 ∨ bAt s (i : Int) = 9 ∨ bAt s (i : Int) = 10 ∨ bAt s (i : Int) = 12 ∨ bAt s (i : Int) = 13 := by
          rcases h2 with h | h | h | h | h
          · exact .inl ((num 8).1 h)
          · exact .inr (.inl ((num 9).1 h))
          · exact .inr (.inr (.inl ((num 10).1 h)))
          · exact .inr (.inr (.inr (.inl ((num 12).1 h))))
          · exact .inr (.inr (.inr (.inr ((num 13).1 h))))
        have hlet : u8T (UInt8.ofNat (bAt ⟨#[98, 116, 110, 63, 102, 114]⟩ (IntKind.u8.wrap (bAt s (i : Int) - 8))).toNat) = T.int .u8 (bAt ⟨#[98, 116, 110, 63, 102, 114]⟩ (IntKind.u8.wrap (bAt s (i : Int) - 8))) := by
          unfold u8T
          rw [UInt8.toNat_ofNat_of_lt' (by simp only [UInt8.size]; omega)]
          congr 1
        have hn2 : u8L [92, UInt8.ofNat (bAt ⟨#[98, 116, 110, 63, 102, 114]⟩ (IntKind.u8.wrap (bAt s (i : Int) - 8))).toNat] = [T.int .u8 92, T.int .u8 (bAt ⟨#[98, 116, 110, 63, 102, 114]⟩ (IntKind.u8.wrap (bAt s (i : Int) - 8)))] := by
          show [u8T 92, _] = _
          rw [hlet]; rfl
        rw [hn2] at hnext
        clear hlet hn2 hO
        generalize hB : bAt ⟨#[98, 116, 110, 63, 102, 114]⟩ (IntKind.u8.wrap (bAt s (i : Int) - 8)) = B at *
        repeat' (first | (with_reducible refine codeT_seq ?_) | (with_reducible refine codeT_block ?_) | (with_reducible refine codeT_skip ?_) | (with_reducible refine codeT_exit ?_) | (with_reducible refine codeT_regionL ?_) | (with_reducible refine lx_nil ?_) | (with_reducible refine q_then ?_) | (with_reducible refine q_then_exit ?_) | (with_reducible refine q_block ?_) | ((with_reducible refine q_block_same ?_ ?_); · rfl) | (with_reducible refine q_loop_exit ?_) | refine c_condT rfl ?_ | (exfalso; omega) | ((with_reducible refine g_guard ?_); first | refine lx_skip rfl rfl rfl ?_) | ((with_reducible refine g_move ?_); first | refine lx_move (r := (.t _)) rfl rfl rfl rfl rfl ?_ | refine lx_move (r := (.row _)) rfl rfl rfl rfl rfl ?_) | ((with_reducible refine g_binOp ?_); first | refine lx_arith rfl rfl rfl rfl rfl rfl rfl ?_) | ((with_reducible refine g_assign ?_); first | refine lx_assign (r := (.t _)) rfl rfl rfl rfl rfl ?_ | refine lx_assign (r := (.row _)) rfl rfl rfl rfl rfl ?_) | ((with_reducible refine g_pick ?_); first | refine lx_pickT (r := (.t _)) rfl rfl rfl rfl rfl rfl ?_ | refine lx_pickF (r := (.t _)) rfl rfl rfl rfl rfl rfl ?_) | ((with_reducible refine g_index ?_); first | refine lx_index_str rfl rfl rfl rfl rfl rfl ?_ ?_ ?_) | ((with_reducible refine g_buildSlice ?_); first | refine lx_buildSlice rfl rfl rfl rfl rfl rfl rfl ?_) | ((with_reducible refine g_append ?_); first | refine lx_append_row rfl rfl rfl rfl rfl rfl rfl rfl rfl rfl ?_ ?_ ?_) | refine c_condP rfl (fun hc => ?_) (fun hc => ?_) | refine lx_splitP rfl (fun hc => ?_) (fun hc => ?_))
        all_goals try (simp only [List.length_cons, List.length_nil]; omega)
        all_goals try omega
        all_goals try (show _ < (6 : Int); omega)
        all_goals exact q_loop (n' := s.size - (i + 1)) (by omega) ((ghost_keep2 [0, 3, 8, 9] [.loc 54] rfl rfl).trans (ghost_renL2 (.loc 54) (.loc 900) rfl rfl rfl rfl)) ⟨i + 1, by omega, rfl, by rw [wi]; rfl, by rw [hnext, ← hB]; rfl⟩
      · have hO := no_letter c h1 h2
        rw [hO] at hnext
        simp only at hnext
        have m1 : ¬ bAt s (i : Int) = 8 := fun h => h2 (.inl ((num 8).2 h))
        have m2 : ¬ bAt s (i : Int) = 9 := fun h => h2 (.inr (.inl ((num 9).2 h)))
        have m3 : ¬ bAt s (i : Int) = 10 := fun h => h2 (.inr (.inr (.inl ((num 10).2 h))))
        have m4 : ¬ bAt s (i : Int) = 12 := fun h => h2 (.inr (.inr (.inr (.inl ((num 12).2 h)))))
        have m5 : ¬ bAt s (i : Int) = 13 := fun h => h2 (.inr (.inr (.inr (.inr ((num 13).2 h)))))
        by_cases h32 : c.toNat < 32
        · rw [if_pos h32] at hnext
          have h4 : IntKind.u8.wrap ((bAt s (i : Int)).tdiv 16) = ((c.toNat / 16 : Nat) : Int) := by
            rw [hbt, Int.tdiv_eq_ediv_of_nonneg (by omega)]
            show ((c.toNat : Int) / 16) % 256 = _
            omega
          have h15 : (bAt s (i : Int)).tmod 16 = ((c.toNat % 16 : Nat) : Int) := by
            rw [hbt, Int.tmod_eq_emod_of_nonneg (by omega)]
            omega
          have e1 := hex_bt (c.toNat / 16) (by omega)
          have e2 := hex_at (c.toNat % 16) (by omega)
          repeat' (first | (with_reducible refine codeT_seq ?_) | (with_reducible refine codeT_block ?_) | (with_reducible refine codeT_skip ?_) | (with_reducible refine codeT_exit ?_) | (with_reducible refine codeT_regionL ?_) | ((with_reducible refine codeT_region_drawL ?_ ?_); · rfl) | (with_reducible refine lx_nil ?_) | (with_reducible refine q_then ?_) | (with_reducible refine q_then_exit ?_) | (with_reducible refine q_block ?_) | ((with_reducible refine q_block_same ?_ ?_); · rfl) | (with_reducible refine q_loop_exit ?_) | ((with_reducible refine q_region_draw ?_ ?_); · rfl) | (exfalso; omega) | ((with_reducible refine g_move ?_); first | refine lx_move (r := (.t _)) rfl rfl rfl rfl rfl ?_ | refine lx_move (r := (.row _)) rfl rfl rfl rfl rfl ?_) | ((with_reducible refine g_binOp ?_); first | refine lx_arith rfl rfl rfl rfl rfl rfl rfl ?_ | refine lx_quo rfl rfl rfl rfl rfl rfl (by decide) ?_ | refine lx_rem rfl rfl rfl rfl rfl rfl (by decide) ?_) | ((with_reducible refine g_assign ?_); first | refine lx_assign (r := (.t _)) rfl rfl rfl rfl rfl ?_ | refine lx_assign (r := (.row _)) rfl rfl rfl rfl rfl ?_) | ((with_reducible refine g_pick ?_); first | refine lx_pickF (r := (.t _)) rfl rfl rfl rfl rfl rfl ?_) | ((with_reducible refine g_index ?_); first | refine lx_index_str rfl rfl rfl rfl rfl rfl ?_ ?_ ?_) | ((with_reducible refine g_buildSlice ?_); first | refine lx_buildSlice rfl rfl rfl rfl rfl rfl rfl ?_) | ((with_reducible refine g_append ?_); first | refine lx_append_row rfl rfl rfl rfl rfl rfl rfl rfl rfl rfl ?_ ?_ ?_) | refine c_condP rfl (fun hc => ?_) (fun hc => ?_) | refine lx_splitP rfl (fun hc => ?_) (fun hc => ?_))
          all_goals try (simp only [List.length_cons, List.length_nil]; omega)
          all_goals try (rw [h4]; omega)
          all_goals try (rw [h4]; show _ < (2 : Int); omega)
          all_goals try (rw [h15]; omega)
          all_goals try (rw [h15]; show _ < (16 : Int); omega)
          all_goals try omega
          exact q_loop (n' := s.size - (i + 1)) (by omega) ((ghost_keep2 [0, 3, 8, 9] [.loc 66] rfl rfl).trans (ghost_renL2 (.loc 66) (.loc 900) rfl rfl rfl rfl)) ⟨i + 1, by omega, rfl, by rw [wi]; rfl, by rw [hnext, h4, h15, e1, e2]; rfl⟩
        · rw [if_neg h32] at hnext
          repeat' (first | (with_reducible refine codeT_seq ?_) | (with_reducible refine codeT_block ?_) | (with_reducible refine codeT_skip ?_) | (with_reducible refine codeT_exit ?_) | (with_reducible refine codeT_regionL ?_) | ((with_reducible refine codeT_region_drawL ?_ ?_); · rfl) | (with_reducible refine lx_nil ?_) | (with_reducible refine q_then ?_) | (with_reducible refine q_then_exit ?_) | (with_reducible refine q_block ?_) | ((with_reducible refine q_block_same ?_ ?_); · rfl) | (with_reducible refine q_loop_exit ?_) | (exfalso; omega) | ((with_reducible refine g_move ?_); first | refine lx_move (r := (.t _)) rfl rfl rfl rfl rfl ?_ | refine lx_move (r := (.row _)) rfl rfl rfl rfl rfl ?_) | ((with_reducible refine g_binOp ?_); first | refine lx_arith rfl rfl rfl rfl rfl rfl rfl ?_) | ((with_reducible refine g_assign ?_); first | refine lx_assign (r := (.t _)) rfl rfl rfl rfl rfl ?_ | refine lx_assign (r := (.row _)) rfl rfl rfl rfl rfl ?_) | ((with_reducible refine g_pick ?_); first | refine lx_pickF (r := (.t _)) rfl rfl rfl rfl rfl rfl ?_) | ((with_reducible refine g_index ?_); first | refine lx_index_str rfl rfl rfl rfl rfl rfl ?_ ?_ ?_) | ((with_reducible refine g_buildSlice ?_); first | refine lx_buildSlice rfl rfl rfl rfl rfl rfl rfl ?_) | ((with_reducible refine g_append ?_); first | refine lx_append_row rfl rfl rfl rfl rfl rfl rfl rfl rfl rfl ?_ ?_ ?_) | refine c_condP rfl (fun hc => ?_) (fun hc => ?_) | refine lx_splitP rfl (fun hc => ?_) (fun hc => ?_))
          all_goals try (simp only [List.length_cons, List.length_nil]; omega)
          all_goals try omega
          exact q_loop (n' := s.size - (i + 1)) (by omega) ((ghost_keep2 [0, 3, 8, 9] [.loc 18] rfl rfl).trans (ghost_renL2 (.loc 18) (.loc 900) rfl rfl rfl rfl)) ⟨i + 1, by omega, rfl, by rw [wi]; rfl, by rw [hnext, hbt]; rfl⟩
  · obtain rfl : i = s.size := by omega
    have e : u8L (34 :: jEscs (s.data.toList.take s.size)) ++ [T.int .u8 34] = u8L (jQ s) := by
      rw [← hl, List.take_length]
      show u8L _ ++ u8L [34] = _
      rw [← u8L_append]; rfl
    have e2 : strT (u8L (34 :: jEscs (s.data.toList.take s.size)) ++ [T.int .u8 34]) = ofL (jQ s) := by rw [e, strT_u8L]
    repeat' (first | (with_reducible refine codeT_seq ?_) | (with_reducible refine codeT_block ?_) | (with_reducible refine codeT_skip ?_) | (with_reducible refine codeT_ret ?_) | (with_reducible refine codeT_exit ?_) | (with_reducible refine codeT_regionL ?_) | (with_reducible refine lx_nil ?_) | (with_reducible refine q_then ?_) | (with_reducible refine q_then_exit ?_) | ((with_reducible refine q_block_same ?_ ?_); · rfl) | (with_reducible refine q_loop_exit ?_) | (exfalso; omega) | ((with_reducible refine g_move ?_); first | refine lx_move (r := (.row _)) rfl rfl rfl rfl rfl ?_) | ((with_reducible refine g_binOp ?_); first | refine lx_arith rfl rfl rfl rfl rfl rfl rfl ?_) | ((with_reducible refine g_assign ?_); first | refine lx_assign (r := (.t _)) rfl rfl rfl rfl rfl ?_) | ((with_reducible refine g_convert ?_); first | refine lx_ofBytes_row rfl rfl rfl rfl rfl rfl ?_ ?_) | ((with_reducible refine g_buildSlice ?_); first | refine lx_buildSlice rfl rfl rfl rfl rfl rfl rfl ?_) | ((with_reducible refine g_append ?_); first | refine lx_append_row rfl rfl rfl rfl rfl rfl rfl rfl rfl rfl ?_ ?_ ?_) | refine c_condP rfl (fun hc => ?_) (fun hc => ?_))
    all_goals try (simp only [List.length_singleton]; omega)
    · rw [e]; exact u8L_isU8 _
    · exact q_ret (resT_oneE rfl rfl (congrArg T.str e2)) (by simp)
end Go.AL
/- What the document's Write and Encode of the first serialisation answer. -/
set_option linter.unusedVariables false
namespace Go.AL
open Go Go.Proofs Go.RowKit

set_option maxHeartbeats 16000000 in
theorem rjw_list {oP : Obj} (b : Bool) (n : Int) (t : ByteArray) (ns : List ByteArray) (is : List Nd) (hlen : is.length ≤ 256) (hb : (preJ 4 ns is is.length).length + 2 ≤ 50000000)
    (IH : ∀ i, i < is.length → (is.getD i default).jb.length ≤ 50000000 → Spec Tryd.prog 28 [.t (is.getD i default).toT] [(.par 102, .dat (.fix 2 oP))] (.t (.str (ofL (is.getD i default).jb))) [(.par 102, .dat (.fix 2 oP))]) :
    Spec Tryd.prog 28 [.t (.agg [.int .i64 4, .bool b, .int .i64 n, .str t, .sl 1 (ns.map .str), .sl 6 (is.map Nd.toT)])] [(.par 102, .dat (.fix 2 oP))] (.t (.str (ofL (91 :: (preJ 4 ns is is.length ++ [93]))))) [(.par 102, .dat (.fix 2 oP))] := by
  refine spec_intro (env0 := [(0, _)]) (st0 := [(_, some _)]) Tryd.func28 rfl rfl rfl rfl ?_
  repeat' (first | (with_reducible refine codeT_seq ?_) | (with_reducible refine codeT_block ?_) | (with_reducible refine codeT_skip ?_) | (with_reducible refine codeT_regionL ?_) | (with_reducible refine lx_nil ?_) | (with_reducible refine q_then ?_) | refine c_condT rfl ?_ | refine c_condF rfl ?_ | ((with_reducible refine g_move ?_); first | refine lx_move (r := (.t _)) rfl rfl rfl rfl rfl ?_) | ((with_reducible refine g_load ?_); first | refine lx_load_var rfl rfl rfl rfl rfl rfl rfl rfl ?_) | ((with_reducible refine g_fieldAddr ?_); first | refine lx_fieldAddr rfl rfl rfl rfl rfl rfl rfl ?_) | ((with_reducible refine g_binOp ?_); first | refine lx_arith rfl rfl rfl rfl rfl rfl rfl ?_) | ((with_reducible refine g_assign ?_); first | refine lx_assign (r := (.t _)) rfl rfl rfl rfl rfl ?_) | ((with_reducible refine g_box ?_); first | refine lx_box (r := (.t (.agg _))) (cs := (List.map .t _)) rfl rfl rfl rfl rfl rfl rfl rfl rfl ?_) | ((with_reducible refine g_len ?_); first | refine lx_len_map rfl rfl rfl rfl rfl ?_))
  all_goals try decide
  refine codeT_ghost (ghost_keep2 [1, 3, 27, 28, 29] [.loc 1, .par 102] rfl rfl) ?_
  refine codeT_loop (fun p env st => ∃ (i : Nat) (S : ByteArray), i ≤ is.length ∧ p = is.length - i ∧ S = ofL (preJ 4 ns is i) ∧
      env = EnvL.get [(1, .ref (.loc 1) 0 0 0), (3, .t (.str S)), (27, .t (.sl 6 (is.map Nd.toT))), (28, .t (.int .i64 (is.length : Int))), (29, .t (.int .i64 (i : Int)))] ∧
      st = StO.get [(.loc 1, some (.var 26 [.t (.int .i64 4), .t (.bool b), .t (.int .i64 n), .t (.str t), .t (.sl 1 (ns.map .str)), .t (.sl 6 (is.map Nd.toT))])), (.par 102, some (.dat (.fix 2 oP)))])
    ?_ (n := is.length) ⟨0, _, by omega, rfl, rfl, rfl, rfl⟩
  rintro p env st ⟨i, S, hi, rfl, hS, rfl, rfl⟩
  have wi : IntKind.i64.wrap ((i : Int) + 1) = ((i + 1 : Nat) : Int) := by rw [wrap64 (by omega) (by omega)]; omega
  have hle0 : (preJ 4 ns is i).length ≤ (preJ 4 ns is is.length).length := preJ_mono (fun h => by omega) (by omega) (by omega)
  have hSl : S.size = (preJ 4 ns is i).length := by rw [hS, ofL_size]
  by_cases hlt : i < is.length
  · have hle : (preJ 4 ns is (i + 1)).length ≤ (preJ 4 ns is is.length).length := preJ_mono (fun h => by omega) (by omega) (by omega)
    have hT := (is.getD i default).toT_full
    have hIH := IH i hlt
    have hT2 : (is.getD (i : Int).toNat default).toT = _ := hT
    rw [hT] at hIH
    rw [preJ_list (by decide) hlt] at hle
    have hnext : ofL (preJ 4 ns is (i + 1)) = S ++ ofL ((if i = 0 then [] else [44]) ++ (is.getD i default).jb) := by
      rw [preJ_list (by decide) hlt, hS, ofL_append]
    clear hS
    simp only [List.length_append] at hle
    simp only [← ofL_append] at hnext
    have hWs : (ofL (is.getD i default).jb).size = (is.getD i default).jb.length := ofL_size _
    have hIH := hIH (by omega)
    generalize ofL (is.getD i default).jb = W at hIH hnext hWs
    have c1 : (ofL [44]) = (⟨#[44]⟩ : ByteArray) := rfl
    have c2 : (ofL [58]) = (⟨#[58]⟩ : ByteArray) := rfl
    have c3 : (⟨#[44]⟩ : ByteArray).size = 1 := rfl
    have c4 : (⟨#[58]⟩ : ByteArray).size = 1 := rfl
    by_cases h0 : i = 0
    · rw [if_pos h0, show ofL [] = ByteArray.empty from rfl, ByteArray.empty_append] at hnext
      rw [if_pos h0] at hle
      simp only [List.length_nil] at hle
      have hw : ofL (preJ 4 ns is (i + 1)) = S ++ W := by
        rw [hnext]
      repeat' (first | (with_reducible refine codeT_seq ?_) | (with_reducible refine codeT_block ?_) | (with_reducible refine codeT_skip ?_) | (with_reducible refine codeT_exit ?_) | (with_reducible refine codeT_regionL ?_) | (with_reducible refine lx_nil ?_) | (with_reducible refine q_then ?_) | (with_reducible refine q_then_exit ?_) | (with_reducible refine q_block ?_) | ((with_reducible refine q_block_same ?_ ?_); · rfl) | (with_reducible refine q_loop_exit ?_) | refine c_condF rfl ?_ | (exfalso; omega) | refine lx_load_tpAE rfl rfl hT2 rfl rfl rfl rfl rfl rfl ?_ | ((with_reducible refine g_move ?_); first | refine lx_move (r := (.t _)) rfl rfl rfl rfl rfl ?_) | ((with_reducible refine g_load ?_); first | refine lx_load_var rfl rfl rfl rfl rfl rfl rfl rfl ?_ | refine lx_load_varA (r := (.t (.agg _))) rfl rfl rfl rfl rfl rfl rfl rfl rfl ?_) | ((with_reducible refine g_fieldAddr ?_); first | refine lx_fieldAddr rfl rfl rfl rfl rfl rfl rfl ?_) | ((with_reducible refine g_binOp ?_); first | refine lx_arith rfl rfl rfl rfl rfl rfl rfl ?_ | refine lx_concat rfl rfl rfl rfl rfl rfl ?_ ?_) | ((with_reducible refine g_assign ?_); first | refine lx_assign (r := (.t _)) rfl rfl rfl rfl rfl ?_) | ((with_reducible refine g_alloc ?_); first | refine lx_alloc rfl rfl rfl rfl rfl rfl rfl ?_) | ((with_reducible refine g_store ?_); first | refine lx_store_var (r := (.t (.agg _))) rfl rfl rfl rfl rfl rfl rfl rfl rfl rfl ?_) | ((with_reducible refine g_indexAddr ?_); first | refine lx_indexAddr_map rfl rfl rfl rfl rfl rfl ?_ ?_ ?_) | ((with_reducible refine g_call ?_); first | refine lx_call (r' := .t (.str W)) [] rfl rfl hIH (ArgsLE.refl _) rfl ⟨rfl, trivial⟩ rfl rfl rfl rfl rfl rfl rfl rfl rfl rfl ?_) | refine c_condP rfl (fun hc => ?_) (fun hc => ?_))
      all_goals try (simp only [ByteArray.size_append]; omega)
      all_goals try (simp only [ByteArray.size_append, c3, c4]; omega)
      all_goals try (simp only [List.length_map]; omega)
      all_goals try omega
      exact q_loop (n' := is.length - (i + 1)) (by omega) (ghost_keep2 [1, 3, 27, 28, 29] [.loc 1, .par 102] rfl rfl) ⟨i + 1, _, by omega, rfl, hw.symm, by rw [wi]; rfl, rfl⟩
    · rw [if_neg h0] at hnext hle
      simp only [List.length_cons, List.length_nil] at hle
      have hw : ofL (preJ 4 ns is (i + 1)) = S ++ ⟨#[44]⟩ ++ W := by
        rw [hnext]
        rw [c1]
        simp only [ByteArray.append_assoc]
      repeat' (first | (with_reducible refine codeT_seq ?_) | (with_reducible refine codeT_block ?_) | (with_reducible refine codeT_skip ?_) | (with_reducible refine codeT_exit ?_) | (with_reducible refine codeT_regionL ?_) | (with_reducible refine lx_nil ?_) | (with_reducible refine q_then ?_) | (with_reducible refine q_then_exit ?_) | (with_reducible refine q_block ?_) | ((with_reducible refine q_block_same ?_ ?_); · rfl) | (with_reducible refine q_loop_exit ?_) | refine c_condF rfl ?_ | (exfalso; omega) | refine lx_load_tpAE rfl rfl hT2 rfl rfl rfl rfl rfl rfl ?_ | ((with_reducible refine g_move ?_); first | refine lx_move (r := (.t _)) rfl rfl rfl rfl rfl ?_) | ((with_reducible refine g_load ?_); first | refine lx_load_var rfl rfl rfl rfl rfl rfl rfl rfl ?_ | refine lx_load_varA (r := (.t (.agg _))) rfl rfl rfl rfl rfl rfl rfl rfl rfl ?_) | ((with_reducible refine g_fieldAddr ?_); first | refine lx_fieldAddr rfl rfl rfl rfl rfl rfl rfl ?_) | ((with_reducible refine g_binOp ?_); first | refine lx_arith rfl rfl rfl rfl rfl rfl rfl ?_ | refine lx_concat rfl rfl rfl rfl rfl rfl ?_ ?_) | ((with_reducible refine g_assign ?_); first | refine lx_assign (r := (.t _)) rfl rfl rfl rfl rfl ?_) | ((with_reducible refine g_alloc ?_); first | refine lx_alloc rfl rfl rfl rfl rfl rfl rfl ?_) | ((with_reducible refine g_store ?_); first | refine lx_store_var (r := (.t (.agg _))) rfl rfl rfl rfl rfl rfl rfl rfl rfl rfl ?_) | ((with_reducible refine g_indexAddr ?_); first | refine lx_indexAddr_map rfl rfl rfl rfl rfl rfl ?_ ?_ ?_) | ((with_reducible refine g_call ?_); first | refine lx_call (r' := .t (.str W)) [] rfl rfl hIH (ArgsLE.refl _) rfl ⟨rfl, trivial⟩ rfl rfl rfl rfl rfl rfl rfl rfl rfl rfl ?_) | refine c_condP rfl (fun hc => ?_) (fun hc => ?_))
      all_goals try (simp only [ByteArray.size_append]; omega)
      all_goals try (simp only [ByteArray.size_append, c3, c4]; omega)
      all_goals try (simp only [List.length_map]; omega)
      all_goals try omega
      exact q_loop (n' := is.length - (i + 1)) (by omega) (ghost_keep2 [1, 3, 27, 28, 29] [.loc 1, .par 102] rfl rfl) ⟨i + 1, _, by omega, rfl, hw.symm, by rw [wi]; rfl, rfl⟩
  · obtain rfl : i = is.length := by omega
    have e : (⟨#[91]⟩ : ByteArray) ++ S ++ ⟨#[93]⟩ = ofL (91 :: (preJ 4 ns is is.length ++ [93])) := by
      rw [hS]
      show ofL [91] ++ ofL _ ++ ofL [93] = _
      rw [ofL_append, ofL_append]; simp
    have c3 : (⟨#[91]⟩ : ByteArray).size = 1 := rfl
    have c4 : (⟨#[93]⟩ : ByteArray).size = 1 := rfl
    repeat' (first | (with_reducible refine codeT_seq ?_) | (with_reducible refine codeT_block ?_) | (with_reducible refine codeT_skip ?_) | (with_reducible refine codeT_ret ?_) | (with_reducible refine codeT_exit ?_) | (with_reducible refine codeT_regionL ?_) | (with_reducible refine lx_nil ?_) | (with_reducible refine q_then ?_) | (with_reducible refine q_then_exit ?_) | (with_reducible refine q_then_ret ?_) | (with_reducible refine q_block_ret ?_) | ((with_reducible refine q_block_same ?_ ?_); · rfl) | (with_reducible refine q_loop_exit ?_) | refine c_condF rfl ?_ | (exfalso; omega) | ((with_reducible refine g_move ?_); first | refine lx_move (r := (.t _)) rfl rfl rfl rfl rfl ?_) | ((with_reducible refine g_load ?_); first | refine lx_load_var rfl rfl rfl rfl rfl rfl rfl rfl ?_) | ((with_reducible refine g_fieldAddr ?_); first | refine lx_fieldAddr rfl rfl rfl rfl rfl rfl rfl ?_) | ((with_reducible refine g_binOp ?_); first | refine lx_arith rfl rfl rfl rfl rfl rfl rfl ?_ | refine lx_concat rfl rfl rfl rfl rfl rfl ?_ ?_) | ((with_reducible refine g_assign ?_); first | refine lx_assign (r := (.t _)) rfl rfl rfl rfl rfl ?_) | refine c_condP rfl (fun hc => ?_) (fun hc => ?_))
    all_goals try (simp only [ByteArray.size_append, c3, c4]; omega)
    exact q_ret (resT_oneE rfl rfl (congrArg T.str e)) (stHas_spec ⟨rfl, trivial⟩)
set_option maxHeartbeats 16000000 in
theorem rjw_map {oP : Obj} (b : Bool) (n : Int) (t : ByteArray) (ns : List ByteArray) (is : List Nd) (hlen : is.length ≤ 256) (hl5 : ns.length = is.length) (hns : ∀ s ∈ ns, s.size ≤ 65536) (hb : (preJ 5 ns is is.length).length + 2 ≤ 50000000)
    (IH : ∀ i, i < is.length → (is.getD i default).jb.length ≤ 50000000 → Spec Tryd.prog 28 [.t (is.getD i default).toT] [(.par 102, .dat (.fix 2 oP))] (.t (.str (ofL (is.getD i default).jb))) [(.par 102, .dat (.fix 2 oP))]) :
    Spec Tryd.prog 28 [.t (.agg [.int .i64 5, .bool b, .int .i64 n, .str t, .sl 1 (ns.map .str), .sl 6 (is.map Nd.toT)])] [(.par 102, .dat (.fix 2 oP))] (.t (.str (ofL (123 :: (preJ 5 ns is is.length ++ [125]))))) [(.par 102, .dat (.fix 2 oP))] := by
  refine spec_intro (env0 := [(0, _)]) (st0 := [(_, some _)]) Tryd.func28 rfl rfl rfl rfl ?_
  repeat' (first | (with_reducible refine codeT_seq ?_) | (with_reducible refine codeT_block ?_) | (with_reducible refine codeT_regionL ?_) | (with_reducible refine lx_nil ?_) | (with_reducible refine q_then ?_) | refine c_condT rfl ?_ | refine c_condF rfl ?_ | ((with_reducible refine g_move ?_); first | refine lx_move (r := (.t _)) rfl rfl rfl rfl rfl ?_) | ((with_reducible refine g_load ?_); first | refine lx_load_var rfl rfl rfl rfl rfl rfl rfl rfl ?_) | ((with_reducible refine g_fieldAddr ?_); first | refine lx_fieldAddr rfl rfl rfl rfl rfl rfl rfl ?_) | ((with_reducible refine g_binOp ?_); first | refine lx_arith rfl rfl rfl rfl rfl rfl rfl ?_) | ((with_reducible refine g_assign ?_); first | refine lx_assign (r := (.t _)) rfl rfl rfl rfl rfl ?_) | ((with_reducible refine g_box ?_); first | refine lx_box (r := (.t (.agg _))) (cs := (List.map .t _)) rfl rfl rfl rfl rfl rfl rfl rfl rfl ?_) | ((with_reducible refine g_len ?_); first | refine lx_len_map rfl rfl rfl rfl rfl ?_))
  all_goals try decide
  refine codeT_ghost (ghost_keep2 [1, 3, 27, 28, 29] [.loc 1, .par 102] rfl rfl) ?_
  refine codeT_loop (fun p env st => ∃ (i : Nat) (S : ByteArray), i ≤ is.length ∧ p = is.length - i ∧ S = ofL (preJ 5 ns is i) ∧
      env = EnvL.get [(1, .ref (.loc 1) 0 0 0), (3, .t (.str S)), (27, .t (.sl 6 (is.map Nd.toT))), (28, .t (.int .i64 (is.length : Int))), (29, .t (.int .i64 (i : Int)))] ∧
      st = StO.get [(.loc 1, some (.var 26 [.t (.int .i64 5), .t (.bool b), .t (.int .i64 n), .t (.str t), .t (.sl 1 (ns.map .str)), .t (.sl 6 (is.map Nd.toT))])), (.par 102, some (.dat (.fix 2 oP)))])
    ?_ (n := is.length) ⟨0, _, by omega, rfl, rfl, rfl, rfl⟩
  rintro p env st ⟨i, S, hi, rfl, hS, rfl, rfl⟩
  have wi : IntKind.i64.wrap ((i : Int) + 1) = ((i + 1 : Nat) : Int) := by rw [wrap64 (by omega) (by omega)]; omega
  have hle0 : (preJ 5 ns is i).length ≤ (preJ 5 ns is is.length).length := preJ_mono (fun _ => hl5) (by omega) (by omega)
  have hSl : S.size = (preJ 5 ns is i).length := by rw [hS, ofL_size]
  by_cases hlt : i < is.length
  · have hle : (preJ 5 ns is (i + 1)).length ≤ (preJ 5 ns is is.length).length := preJ_mono (fun _ => hl5) (by omega) (by omega)
    have hT := (is.getD i default).toT_full
    have hIH := IH i hlt
    have hT2 : (is.getD (i : Int).toNat default).toT = _ := hT
    rw [hT] at hIH
    rw [preJ_map hl5 hlt] at hle
    have hnext : ofL (preJ 5 ns is (i + 1)) = S ++ ofL ((if i = 0 then [] else [44]) ++ (jQ (ns.getD i default) ++ (58 :: (is.getD i default).jb))) := by
      rw [preJ_map hl5 hlt, hS, ofL_append]
    clear hS
    have hsz : (ns.getD i default).size ≤ 65536 := hns _ (by rw [List.getD_eq_getElem?_getD, List.getElem?_eq_getElem (by omega)]; simp)
    have hjl := jQ_len (ns.getD i default)
    have hnn : i < ns.length := by omega
    have hQ := rquote_spec (ns.getD i default) (by omega)
    simp only [List.length_append, List.length_cons] at hle
    rw [show (58 :: (is.getD i default).jb) = [58] ++ (is.getD i default).jb from rfl] at hnext
    have hgn : (ns.getD (i : Int).toNat default) = ns.getD i default := rfl
    rw [← hgn] at hQ hnext hle hjl
    simp only [← ofL_append] at hnext
    have hqs : (ofL (jQ (ns.getD (i : Int).toNat default))).size = (jQ (ns.getD (i : Int).toNat default)).length := ofL_size _
    generalize ofL (jQ (ns.getD (i : Int).toNat default)) = Q at hQ hnext hqs
    have hWs : (ofL (is.getD i default).jb).size = (is.getD i default).jb.length := ofL_size _
    have hIH := hIH (by omega)
    generalize ofL (is.getD i default).jb = W at hIH hnext hWs
    have c1 : (ofL [44]) = (⟨#[44]⟩ : ByteArray) := rfl
    have c2 : (ofL [58]) = (⟨#[58]⟩ : ByteArray) := rfl
    have c3 : (⟨#[44]⟩ : ByteArray).size = 1 := rfl
    have c4 : (⟨#[58]⟩ : ByteArray).size = 1 := rfl
    by_cases h0 : i = 0
    · rw [if_pos h0, show ofL [] = ByteArray.empty from rfl, ByteArray.empty_append] at hnext
      rw [if_pos h0] at hle
      simp only [List.length_nil] at hle
      have hw : ofL (preJ 5 ns is (i + 1)) = S ++ (Q ++ ⟨#[58]⟩) ++ W := by
        rw [hnext]
        rw [c2]
        simp only [ByteArray.append_assoc]
      repeat' (first | (with_reducible refine codeT_seq ?_) | (with_reducible refine codeT_block ?_) | (with_reducible refine codeT_skip ?_) | (with_reducible refine codeT_exit ?_) | (with_reducible refine codeT_regionL ?_) | (with_reducible refine lx_nil ?_) | (with_reducible refine q_then ?_) | (with_reducible refine q_then_exit ?_) | (with_reducible refine q_block ?_) | ((with_reducible refine q_block_same ?_ ?_); · rfl) | (with_reducible refine q_loop_exit ?_) | refine c_condT rfl ?_ | (exfalso; omega) | refine lx_load_tpAE rfl rfl hT2 rfl rfl rfl rfl rfl rfl ?_ | ((with_reducible refine g_move ?_); first | refine lx_move (r := (.t _)) rfl rfl rfl rfl rfl ?_) | ((with_reducible refine g_load ?_); first | refine lx_load_var rfl rfl rfl rfl rfl rfl rfl rfl ?_ | refine lx_load_varA (r := (.t (.agg _))) rfl rfl rfl rfl rfl rfl rfl rfl rfl ?_ | refine lx_load_tp rfl rfl rfl rfl rfl rfl rfl ?_) | ((with_reducible refine g_fieldAddr ?_); first | refine lx_fieldAddr rfl rfl rfl rfl rfl rfl rfl ?_) | ((with_reducible refine g_binOp ?_); first | refine lx_arith rfl rfl rfl rfl rfl rfl rfl ?_ | refine lx_concat rfl rfl rfl rfl rfl rfl ?_ ?_) | ((with_reducible refine g_assign ?_); first | refine lx_assign (r := (.t _)) rfl rfl rfl rfl rfl ?_) | ((with_reducible refine g_alloc ?_); first | refine lx_alloc rfl rfl rfl rfl rfl rfl rfl ?_) | ((with_reducible refine g_store ?_); first | refine lx_store_var (r := (.t (.agg _))) rfl rfl rfl rfl rfl rfl rfl rfl rfl rfl ?_) | ((with_reducible refine g_indexAddr ?_); first | refine lx_indexAddr_map rfl rfl rfl rfl rfl rfl ?_ ?_ ?_) | ((with_reducible refine g_call ?_); first | refine lx_callT rfl rfl hQ rfl rfl (ArgsLE.refl _) rfl rfl rfl rfl rfl ?_ | refine lx_call (r' := .t (.str W)) [] rfl rfl hIH (ArgsLE.refl _) rfl ⟨rfl, trivial⟩ rfl rfl rfl rfl rfl rfl rfl rfl rfl rfl ?_) | refine c_condP rfl (fun hc => ?_) (fun hc => ?_))
      all_goals try (simp only [ByteArray.size_append]; omega)
      all_goals try (simp only [ByteArray.size_append, c3, c4]; omega)
      all_goals try (simp only [List.length_map]; omega)
      all_goals try omega
      exact q_loop (n' := is.length - (i + 1)) (by omega) (ghost_keep2 [1, 3, 27, 28, 29] [.loc 1, .par 102] rfl rfl) ⟨i + 1, _, by omega, rfl, hw.symm, by rw [wi]; rfl, rfl⟩
    · rw [if_neg h0] at hnext hle
      simp only [List.length_cons, List.length_nil] at hle
      have hw : ofL (preJ 5 ns is (i + 1)) = S ++ ⟨#[44]⟩ ++ (Q ++ ⟨#[58]⟩) ++ W := by
        rw [hnext]
        rw [c1, c2]
        simp only [ByteArray.append_assoc]
      repeat' (first | (with_reducible refine codeT_seq ?_) | (with_reducible refine codeT_block ?_) | (with_reducible refine codeT_skip ?_) | (with_reducible refine codeT_exit ?_) | (with_reducible refine codeT_regionL ?_) | (with_reducible refine lx_nil ?_) | (with_reducible refine q_then ?_) | (with_reducible refine q_then_exit ?_) | (with_reducible refine q_block ?_) | ((with_reducible refine q_block_same ?_ ?_); · rfl) | (with_reducible refine q_loop_exit ?_) | refine c_condT rfl ?_ | (exfalso; omega) | refine lx_load_tpAE rfl rfl hT2 rfl rfl rfl rfl rfl rfl ?_ | ((with_reducible refine g_move ?_); first | refine lx_move (r := (.t _)) rfl rfl rfl rfl rfl ?_) | ((with_reducible refine g_load ?_); first | refine lx_load_var rfl rfl rfl rfl rfl rfl rfl rfl ?_ | refine lx_load_varA (r := (.t (.agg _))) rfl rfl rfl rfl rfl rfl rfl rfl rfl ?_ | refine lx_load_tp rfl rfl rfl rfl rfl rfl rfl ?_) | ((with_reducible refine g_fieldAddr ?_); first | refine lx_fieldAddr rfl rfl rfl rfl rfl rfl rfl ?_) | ((with_reducible refine g_binOp ?_); first | refine lx_arith rfl rfl rfl rfl rfl rfl rfl ?_ | refine lx_concat rfl rfl rfl rfl rfl rfl ?_ ?_) | ((with_reducible refine g_assign ?_); first | refine lx_assign (r := (.t _)) rfl rfl rfl rfl rfl ?_) | ((with_reducible refine g_alloc ?_); first | refine lx_alloc rfl rfl rfl rfl rfl rfl rfl ?_) | ((with_reducible refine g_store ?_); first | refine lx_store_var (r := (.t (.agg _))) rfl rfl rfl rfl rfl rfl rfl rfl rfl rfl ?_) | ((with_reducible refine g_indexAddr ?_); first | refine lx_indexAddr_map rfl rfl rfl rfl rfl rfl ?_ ?_ ?_) | ((with_reducible refine g_call ?_); first | refine lx_callT rfl rfl hQ rfl rfl (ArgsLE.refl _) rfl rfl rfl rfl rfl ?_ | refine lx_call (r' := .t (.str W)) [] rfl rfl hIH (ArgsLE.refl _) rfl ⟨rfl, trivial⟩ rfl rfl rfl rfl rfl rfl rfl rfl rfl rfl ?_) | refine c_condP rfl (fun hc => ?_) (fun hc => ?_))
      all_goals try (simp only [ByteArray.size_append]; omega)
      all_goals try (simp only [ByteArray.size_append, c3, c4]; omega)
      all_goals try (simp only [List.length_map]; omega)
      all_goals try omega
      exact q_loop (n' := is.length - (i + 1)) (by omega) (ghost_keep2 [1, 3, 27, 28, 29] [.loc 1, .par 102] rfl rfl) ⟨i + 1, _, by omega, rfl, hw.symm, by rw [wi]; rfl, rfl⟩
  · obtain rfl : i = is.length := by omega
    have e : (⟨#[123]⟩ : ByteArray) ++ S ++ ⟨#[125]⟩ = ofL (123 :: (preJ 5 ns is is.length ++ [125])) := by
      rw [hS]
      show ofL [123] ++ ofL _ ++ ofL [125] = _
      rw [ofL_append, ofL_append]; simp
    have c3 : (⟨#[123]⟩ : ByteArray).size = 1 := rfl
    have c4 : (⟨#[125]⟩ : ByteArray).size = 1 := rfl
    repeat' (first | (with_reducible refine codeT_seq ?_) | (with_reducible refine codeT_block ?_) | (with_reducible refine codeT_skip ?_) | (with_reducible refine codeT_ret ?_) | (with_reducible refine codeT_exit ?_) | (with_reducible refine codeT_regionL ?_) | (with_reducible refine lx_nil ?_) | (with_reducible refine q_then ?_) | (with_reducible refine q_then_exit ?_) | (with_reducible refine q_then_ret ?_) | (with_reducible refine q_block_ret ?_) | ((with_reducible refine q_block_same ?_ ?_); · rfl) | (with_reducible refine q_loop_exit ?_) | refine c_condT rfl ?_ | (exfalso; omega) | ((with_reducible refine g_move ?_); first | refine lx_move (r := (.t _)) rfl rfl rfl rfl rfl ?_) | ((with_reducible refine g_load ?_); first | refine lx_load_var rfl rfl rfl rfl rfl rfl rfl rfl ?_) | ((with_reducible refine g_fieldAddr ?_); first | refine lx_fieldAddr rfl rfl rfl rfl rfl rfl rfl ?_) | ((with_reducible refine g_binOp ?_); first | refine lx_arith rfl rfl rfl rfl rfl rfl rfl ?_ | refine lx_concat rfl rfl rfl rfl rfl rfl ?_ ?_) | ((with_reducible refine g_assign ?_); first | refine lx_assign (r := (.t _)) rfl rfl rfl rfl rfl ?_) | refine c_condP rfl (fun hc => ?_) (fun hc => ?_))
    all_goals try (simp only [ByteArray.size_append, c3, c4]; omega)
    exact q_ret (resT_oneE rfl rfl (congrArg T.str e)) (stHas_spec ⟨rfl, trivial⟩)
theorem ofL_null : (⟨#[110, 117, 108, 108]⟩ : ByteArray) = ofL jNull := rfl
set_option maxHeartbeats 16000000 in
theorem rjWrite_spec {V : ByteArray → Bool} {oP : Obj} (hP : isTabOf .u64 Lib.pow10Tab oP) : ∀ (x : Nd) (e : Int), x.validB V e = true → x.In → x.jb.length ≤ 50000000 →
    Spec Tryd.prog 28 [.t x.toT] [(.par 102, .dat (.fix 2 oP))] (.t (.str (ofL x.jb))) [(.par 102, .dat (.fix 2 oP))]
  | .mk k b n t ns is, e, hv, hin, hb => by
    rw [valid_mk] at hv
    obtain ⟨h1, h2, h3, h4, h5, h6, h7, h8⟩ := hv
    cases hin with
    | mk i1 i2 i3 =>
    rw [Nd.toT_eq]
    have hk : k = 0 ∨ k = 1 ∨ k = 2 ∨ k = 3 ∨ (k = 4 ∨ k = 5) := by omega
    rcases hk with rfl | rfl | rfl | rfl | hk
    · rw [show (Nd.mk 0 b n t ns is).jb = jNull by simp [Nd.jb], ← ofL_null]
      refine spec_intro (env0 := [(0, _)]) (st0 := [(_, some _)]) Tryd.func28 rfl rfl rfl rfl ?_
      repeat' (first | (with_reducible refine codeT_seq ?_) | (with_reducible refine codeT_block ?_) | (with_reducible refine codeT_skip ?_) | (with_reducible refine codeT_ret ?_) | (with_reducible refine codeT_regionL ?_) | (with_reducible refine lx_nil ?_) | (with_reducible refine q_then ?_) | (with_reducible refine q_block ?_) | refine c_condF rfl ?_ | ((with_reducible refine g_load ?_); first | refine lx_load_var rfl rfl rfl rfl rfl rfl rfl rfl ?_) | ((with_reducible refine g_fieldAddr ?_); first | refine lx_fieldAddr rfl rfl rfl rfl rfl rfl rfl ?_) | ((with_reducible refine g_binOp ?_); first | refine lx_arith rfl rfl rfl rfl rfl rfl rfl ?_) | ((with_reducible refine g_assign ?_); first | refine lx_assign (r := (.t _)) rfl rfl rfl rfl rfl ?_) | ((with_reducible refine g_box ?_); first | refine lx_box (r := (.t (.agg _))) (cs := (List.map .t _)) rfl rfl rfl rfl rfl rfl rfl rfl rfl ?_))
      exact q_ret (resT_oneE rfl rfl rfl) (stHas_spec ⟨rfl, trivial⟩)
    · have ec : (Nd.mk 1 b n t ns is).jb = if b then jTrue else jFalse := by simp [Nd.jb]
      rw [ec]
      have hB := formatBool_spec b
      generalize ofL (if b then jTrue else jFalse) = R at hB ⊢
      refine spec_intro (env0 := [(0, _)]) (st0 := [(_, some _)]) Tryd.func28 rfl rfl rfl rfl ?_
      repeat' (first | (with_reducible refine codeT_seq ?_) | (with_reducible refine codeT_block ?_) | (with_reducible refine codeT_ret ?_) | (with_reducible refine codeT_regionL ?_) | (with_reducible refine lx_nil ?_) | (with_reducible refine q_then ?_) | (with_reducible refine q_then_ret ?_) | (with_reducible refine q_block_ret ?_) | refine c_condT rfl ?_ | ((with_reducible refine g_load ?_); first | refine lx_load_var rfl rfl rfl rfl rfl rfl rfl rfl ?_) | ((with_reducible refine g_fieldAddr ?_); first | refine lx_fieldAddr rfl rfl rfl rfl rfl rfl rfl ?_) | ((with_reducible refine g_binOp ?_); first | refine lx_arith rfl rfl rfl rfl rfl rfl rfl ?_) | ((with_reducible refine g_assign ?_); first | refine lx_assign (r := (.t _)) rfl rfl rfl rfl rfl ?_) | ((with_reducible refine g_box ?_); first | refine lx_box (r := (.t (.agg _))) (cs := (List.map .t _)) rfl rfl rfl rfl rfl rfl rfl rfl rfl ?_) | ((with_reducible refine g_call ?_); first | refine lx_callT rfl rfl hB rfl rfl (ArgsLE.refl _) rfl rfl rfl rfl rfl ?_))
      exact q_ret (resT_oneE rfl rfl rfl) (stHas_spec ⟨rfl, trivial⟩)
    · have ec : (Nd.mk 2 b n t ns is).jb = Lib.itoa n := by simp [Nd.jb]
      rw [ec]
      have hB := Itoa_spec hP n i1 i2
      generalize ofL (Lib.itoa n) = R at hB ⊢
      refine spec_intro (env0 := [(0, _)]) (st0 := [(_, some _)]) Tryd.func28 rfl rfl rfl rfl ?_
      repeat' (first | (with_reducible refine codeT_seq ?_) | (with_reducible refine codeT_block ?_) | (with_reducible refine codeT_ret ?_) | (with_reducible refine codeT_regionL ?_) | (with_reducible refine lx_nil ?_) | (with_reducible refine q_then ?_) | (with_reducible refine q_then_ret ?_) | (with_reducible refine q_block_ret ?_) | refine c_condT rfl ?_ | refine c_condF rfl ?_ | ((with_reducible refine g_load ?_); first | refine lx_load_var rfl rfl rfl rfl rfl rfl rfl rfl ?_) | ((with_reducible refine g_fieldAddr ?_); first | refine lx_fieldAddr rfl rfl rfl rfl rfl rfl rfl ?_) | ((with_reducible refine g_binOp ?_); first | refine lx_arith rfl rfl rfl rfl rfl rfl rfl ?_) | ((with_reducible refine g_assign ?_); first | refine lx_assign (r := (.t _)) rfl rfl rfl rfl rfl ?_) | ((with_reducible refine g_box ?_); first | refine lx_box (r := (.t (.agg _))) (cs := (List.map .t _)) rfl rfl rfl rfl rfl rfl rfl rfl rfl ?_) | ((with_reducible refine g_call ?_); first | refine lx_call (r' := .t (.str R)) [] rfl rfl hB (ArgsLE.refl _) rfl ⟨rfl, trivial⟩ rfl rfl rfl rfl rfl rfl rfl rfl rfl rfl ?_))
      exact q_ret (resT_oneE rfl rfl rfl) (stHas_spec ⟨rfl, trivial⟩)
    · have ec : (Nd.mk 3 b n t ns is).jb = jQ t := by simp [Nd.jb]
      have ht : t.size ≤ 65536 := by
        simp only [textB, Bool.and_eq_true, decide_eq_true_eq] at h5; omega
      rw [ec]
      have hB := rquote_spec t (by omega)
      generalize ofL (jQ t) = R at hB ⊢
      refine spec_intro (env0 := [(0, _)]) (st0 := [(_, some _)]) Tryd.func28 rfl rfl rfl rfl ?_
      repeat' (first | (with_reducible refine codeT_seq ?_) | (with_reducible refine codeT_block ?_) | (with_reducible refine codeT_ret ?_) | (with_reducible refine codeT_regionL ?_) | (with_reducible refine lx_nil ?_) | (with_reducible refine q_then ?_) | (with_reducible refine q_then_ret ?_) | (with_reducible refine q_block_ret ?_) | refine c_condT rfl ?_ | refine c_condF rfl ?_ | ((with_reducible refine g_load ?_); first | refine lx_load_var rfl rfl rfl rfl rfl rfl rfl rfl ?_) | ((with_reducible refine g_fieldAddr ?_); first | refine lx_fieldAddr rfl rfl rfl rfl rfl rfl rfl ?_) | ((with_reducible refine g_binOp ?_); first | refine lx_arith rfl rfl rfl rfl rfl rfl rfl ?_) | ((with_reducible refine g_assign ?_); first | refine lx_assign (r := (.t _)) rfl rfl rfl rfl rfl ?_) | ((with_reducible refine g_box ?_); first | refine lx_box (r := (.t (.agg _))) (cs := (List.map .t _)) rfl rfl rfl rfl rfl rfl rfl rfl rfl ?_) | ((with_reducible refine g_call ?_); first | refine lx_callT rfl rfl hB rfl rfl (ArgsLE.refl _) rfl rfl rfl rfl rfl ?_))
      exact q_ret (resT_oneE rfl rfl rfl) (stHas_spec ⟨rfl, trivial⟩)
    · rcases hk with rfl | rfl
      · have ec : (Nd.mk 4 b n t ns is).jb = 91 :: (preJ 4 ns is is.length ++ [93]) := by simp [Nd.jb, preJ]
        rw [ec] at hb ⊢
        simp only [List.length_cons, List.length_append, List.length_nil] at hb
        exact rjw_list b n t ns is (by omega) (by omega) fun i hi hb' => by
          have hm : is.getD i default ∈ is := by rw [List.getD_eq_getElem?_getD, List.getElem?_eq_getElem hi]; exact List.getElem_mem _
          exact rjWrite_spec hP (is.getD i default) (e - 1) (h8 _ hm) (i3 _ hm) hb'
      · have e2 : ns.take is.length = ns := by rw [← (h7 rfl).2]; exact List.take_length
        have ec : (Nd.mk 5 b n t ns is).jb = 123 :: (preJ 5 ns is is.length ++ [125]) := by simp [Nd.jb, preJ, e2]
        rw [ec] at hb ⊢
        simp only [List.length_cons, List.length_append, List.length_nil] at hb
        exact rjw_map b n t ns is (by omega) (by have := (h7 rfl).2; omega) (fun s hs => by
          have := ((namesOk_iff (textB V) ns []).1 (h7 rfl).1).2 s hs
          have := this.2
          simp only [textB, Bool.and_eq_true, decide_eq_true_eq] at this; omega) (by omega) fun i hi hb' => by
          have hm : is.getD i default ∈ is := by rw [List.getD_eq_getElem?_getD, List.getElem?_eq_getElem hi]; exact List.getElem_mem _
          exact rjWrite_spec hP (is.getD i default) (e - 1) (h8 _ hm) (i3 _ hm) hb'
termination_by x => SizeOf.sizeOf x
decreasing_by
  all_goals
    have := List.sizeOf_lt_of_mem hm
    simp only [Nd.mk.sizeOf_spec]
    omega
set_option maxHeartbeats 4000000 in
theorem rjEnc_spec {oF oA oP : Obj} {V : ByteArray → Bool} (hS : VSpec oF oA V) (hPw : isTabOf .u64 Lib.pow10Tab oP) (x : Nd) (hx : x.Ok) (hin : x.In) (hsz : x.validB V 8 = true → x.jb.length ≤ 49999999) : Spec Tryd.prog 15 [.t x.toT] [(.par 100, .dat (.fix 0 oF)), (.par 101, .dat (.fix 1 oA)), (.par 102, .dat (.fix 2 oP))] (.tup [.t (.str (jEnc V x).1), .t (.int .i64 (jEnc V x).2)]) [(.par 100, .dat (.fix 0 oF)), (.par 101, .dat (.fix 1 oA)), (.par 102, .dat (.fix 2 oP))] := by
  have hV := rValid_spec hS x hx
  have hT := x.toT_full
  unfold jEnc
  cases hv : x.validB V 8 with
  | false =>
    rw [hv] at hV
    rw [hT] at hV ⊢
    refine spec_intro (env0 := [(0, _)]) (st0 := [(_, some _), (_, some _), (_, some _)]) Tryd.func15 rfl rfl rfl rfl ?_
    repeat' (first | (with_reducible refine codeT_seq ?_) | (with_reducible refine codeT_ret ?_) | (with_reducible refine codeT_regionL ?_) | (with_reducible refine lx_nil ?_) | (with_reducible refine q_then ?_) | (with_reducible refine q_then_ret ?_) | refine c_condT rfl ?_ | ((with_reducible refine g_load ?_); first | refine lx_load_varA (r := (.t (.agg _))) rfl rfl rfl rfl rfl rfl rfl rfl rfl ?_) | ((with_reducible refine g_assign ?_); first | refine lx_assign (r := (.t _)) rfl rfl rfl rfl rfl ?_) | ((with_reducible refine g_box ?_); first | refine lx_box (r := (.t (.agg _))) (cs := (List.map .t _)) rfl rfl rfl rfl rfl rfl rfl rfl rfl ?_) | ((with_reducible refine g_unOp ?_); first | refine lx_not rfl rfl rfl rfl rfl ?_) | ((with_reducible refine g_call ?_); first | refine lx_call (r' := .t (.bool false)) [] rfl rfl hV (ArgsLE.refl _) rfl ⟨rfl, rfl, trivial⟩ rfl rfl rfl rfl rfl rfl rfl rfl rfl rfl ?_))
    exact q_ret (resT_twoE rfl rfl rfl rfl rfl) (stHas_spec ⟨rfl, rfl, rfl, trivial⟩)
  | true =>
    have hP := rjWrite_spec hPw x 8 hv hin (by have := hsz hv; omega)
    rw [hv] at hV
    have hlen : (ofL x.jb).size = x.jb.length := ofL_size _
    generalize ofL x.jb = W at hP hlen ⊢
    rw [hT] at hV hP ⊢
    refine spec_intro (env0 := [(0, _)]) (st0 := [(_, some _), (_, some _), (_, some _)]) Tryd.func15 rfl rfl rfl rfl ?_
    repeat' (first | (with_reducible refine codeT_seq ?_) | (with_reducible refine codeT_skip ?_) | (with_reducible refine codeT_ret ?_) | (with_reducible refine codeT_regionL ?_) | (with_reducible refine lx_nil ?_) | (with_reducible refine q_then ?_) | (with_reducible refine q_then_ret ?_) | refine c_condF rfl ?_ | ((with_reducible refine g_move ?_); first | refine lx_move (r := (.t _)) rfl rfl rfl rfl rfl ?_) | ((with_reducible refine g_load ?_); first | refine lx_load_varA (r := (.t (.agg _))) rfl rfl rfl rfl rfl rfl rfl rfl rfl ?_) | ((with_reducible refine g_binOp ?_); first | refine lx_arith rfl rfl rfl rfl rfl rfl rfl ?_) | ((with_reducible refine g_assign ?_); first | refine lx_assign (r := (.t _)) rfl rfl rfl rfl rfl ?_) | ((with_reducible refine g_box ?_); first | refine lx_box (r := (.t (.agg _))) (cs := (List.map .t _)) rfl rfl rfl rfl rfl rfl rfl rfl rfl ?_) | ((with_reducible refine g_unOp ?_); first | refine lx_not rfl rfl rfl rfl rfl ?_) | ((with_reducible refine g_len ?_); first | refine lx_len_str rfl rfl rfl rfl rfl ?_) | ((with_reducible refine g_call ?_); first | refine lx_call (r' := .t (.bool true)) [] rfl rfl hV (ArgsLE.refl _) rfl ⟨rfl, rfl, trivial⟩ rfl rfl rfl rfl rfl rfl rfl rfl rfl rfl ?_ | refine lx_call (r' := .t (.str W)) [] rfl rfl hP (ArgsLE.refl _) rfl ⟨rfl, trivial⟩ rfl rfl rfl rfl rfl rfl rfl rfl rfl rfl ?_) | refine c_condP rfl (fun hc => ?_) (fun hc => ?_))
    · exact q_ret (resT_twoE rfl rfl rfl (by rw [if_pos rfl, if_pos (by omega)]; rfl) (by rw [if_pos rfl, if_pos (by omega)])) (stHas_spec ⟨rfl, rfl, rfl, trivial⟩)
    · exact q_ret (resT_twoE rfl rfl rfl (by rw [if_pos rfl, if_neg (by omega)]) (by rw [if_pos rfl, if_neg (by omega)])) (stHas_spec ⟨rfl, rfl, rfl, trivial⟩)
end Go.AL
