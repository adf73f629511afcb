/- What the document's Quote, Write and Encode of the first serialisation answer. -/
import Derived.Test.YtmidabiehblekaaDoorJsb
import Derived.Test.YtmidabiehblekaaDoorJnd
import Derived.Test.YtmidabiehblekaaDoorNod1
set_option linter.unusedVariables false
namespace Go.AL
open Go Go.Proofs Go.RowKit

theorem hex_bt (n : Nat) (h : n < 2) : bAt ⟨#[48, 49]⟩ (n : Int) = ((hexB n).toNat : Int) := by
  have : n = 0 ∨ n = 1 := by omega
  rcases this with rfl | rfl <;> decide
theorem letters (c : UInt8) (h : c = 8 ∨ c = 9 ∨ c = 10 ∨ c = 12 ∨ c = 13) : escO c = some (UInt8.ofNat (bAt ⟨#[98, 116, 110, 63, 102, 114]⟩ (IntKind.u8.wrap ((c.toNat : Int) - 8))).toNat) ∧ 0 ≤ bAt ⟨#[98, 116, 110, 63, 102, 114]⟩ (IntKind.u8.wrap ((c.toNat : Int) - 8)) ∧ bAt ⟨#[98, 116, 110, 63, 102, 114]⟩ (IntKind.u8.wrap ((c.toNat : Int) - 8)) < 256 ∧ 0 ≤ IntKind.u8.wrap ((c.toNat : Int) - 8) ∧ IntKind.u8.wrap ((c.toNat : Int) - 8) < 6 := by
  rcases h with rfl | rfl | rfl | rfl | rfl <;> decide
theorem no_letter (c : UInt8) (h1 : ¬ (c = 34 ∨ c = 92)) (h2 : ¬ (c = 8 ∨ c = 9 ∨ c = 10 ∨ c = 12 ∨ c = 13)) : escO c = none := by
  simp only [not_or] at h1 h2
  have b : ∀ a : UInt8, ¬ c = a → (c == a) = false := fun a h => by simpa using h
  simp only [escO, escL, List.lookup, b _ h1.1, b _ h1.2, b _ h2.1, b _ h2.2.1, b _ h2.2.2.1, b _ h2.2.2.2.1, b _ h2.2.2.2.2]
set_option maxHeartbeats 16000000 in
theorem rquote_spec (s : ByteArray) (hb : 6 * s.size + 2 ≤ 100000000) : Spec Tryd.prog 34 [.t (.str s)] [] (.t (.str (ofL (jQ s)))) [] := by
  have hl : s.data.toList.length = s.size := by rw [Array.length_toList]; rfl
  refine spec_intro (env0 := [(0, _)]) (st0 := []) Tryd.func34 rfl rfl rfl rfl ?_
  repeat' (first | (with_reducible refine codeT_seq ?_) | (with_reducible refine codeT_block ?_) | (with_reducible refine codeT_regionL ?_) | (with_reducible refine lx_nil ?_) | (with_reducible refine q_then ?_) | ((with_reducible refine g_move ?_); first | refine lx_move (r := (.t _)) rfl rfl rfl rfl rfl ?_) | ((with_reducible refine g_assign ?_); first | refine lx_assign (r := (.t _)) rfl rfl rfl rfl rfl ?_ | refine lx_assign (r := (.row _)) rfl rfl rfl rfl rfl ?_) | ((with_reducible refine g_buildSlice ?_); first | refine lx_buildSlice rfl rfl rfl rfl rfl rfl rfl ?_) | ((with_reducible refine g_len ?_); first | refine lx_len_str rfl rfl rfl rfl rfl ?_))
  refine codeT_ghost ((ghost_keep2 [0, 3, 8, 9] [.loc 6] rfl rfl).trans (ghost_renL2 (.loc 6) (.loc 900) rfl rfl rfl rfl)) ?_
  refine codeT_loop (fun p env st => ∃ (i : Nat), i ≤ s.size ∧ p = s.size - i ∧
      env = EnvL.get [(0, .t (.str s)), (3, .row (.loc 900)), (8, .t (.int .i64 (s.size : Int))), (9, .t (.int .i64 (i : Int)))] ∧
      st = StO.get [(.loc 900, some (.slt 5 1 (u8L (34 :: jEscs (s.data.toList.take i)))))])
    ?_ (n := s.size) ⟨0, by omega, rfl, rfl, rfl⟩
  rintro p env st ⟨i, hi, rfl, rfl, rfl⟩
  have wi : IntKind.i64.wrap ((i : Int) + 1) = ((i + 1 : Nat) : Int) := by rw [wrap64 (by omega) (by omega)]; omega
  have hq := jEscs_len (s.data.toList.take i)
  have hql : (s.data.toList.take i).length ≤ i := by rw [List.length_take]; omega
  have hxl : (u8L (34 :: jEscs (s.data.toList.take i))).length ≤ 99999999 := by
    simp only [u8L_len, List.length_cons]; omega
  by_cases hlt : i < s.size
  · have hbt : bAt s (i : Int) = ((s.data.toList.getD i default).toNat : Int) := rfl
    have ht := jEscs_take s.data.toList i (by omega)
    have hc8 := (s.data.toList.getD i default).toNat_lt
    obtain ⟨X, hX⟩ : ∃ X, X = u8L (34 :: jEscs (s.data.toList.take i)) := ⟨_, rfl⟩
    have hnext : u8L (34 :: jEscs (s.data.toList.take (i + 1))) = X ++ u8L (jEsc (s.data.toList.getD i default)) := by
      rw [hX, ht, ← u8L_append]; rfl
    rw [← hX] at hxl ⊢
    generalize hcc : s.data.toList.getD i default = c at *
    unfold jEsc at hnext
    clear hX ht
    have num : ∀ a : UInt8, c = a ↔ bAt s (i : Int) = (a.toNat : Int) := fun a => by
      rw [hbt]
      exact ⟨fun h => by rw [h], fun h => UInt8.toNat_inj.1 (by omega)⟩
    by_cases h1 : c = 34 ∨ c = 92
    · have hO : escO c = some c := by rcases h1 with rfl | rfl <;> decide
      rw [hO] at hnext
      simp only at hnext
      have h1n : bAt s (i : Int) = 34 ∨ bAt s (i : Int) = 92 := by
        rcases h1 with h | h
        · exact .inl ((num 34).1 h)
        · exact .inr ((num 92).1 h)
      repeat' (first | (with_reducible refine codeT_seq ?_) | (with_reducible refine codeT_block ?_) | (with_reducible refine codeT_skip ?_) | (with_reducible refine codeT_exit ?_) | (with_reducible refine codeT_regionL ?_) | (with_reducible refine lx_nil ?_) | (with_reducible refine q_then ?_) | (with_reducible refine q_then_exit ?_) | (with_reducible refine q_block ?_) | ((with_reducible refine q_block_same ?_ ?_); · rfl) | (with_reducible refine q_loop_exit ?_) | refine c_condT rfl ?_ | (exfalso; omega) | ((with_reducible refine g_guard ?_); first | refine lx_skip rfl rfl rfl ?_) | ((with_reducible refine g_move ?_); first | refine lx_move (r := (.t _)) rfl rfl rfl rfl rfl ?_ | refine lx_move (r := (.row _)) rfl rfl rfl rfl rfl ?_) | ((with_reducible refine g_binOp ?_); first | refine lx_arith rfl rfl rfl rfl rfl rfl rfl ?_) | ((with_reducible refine g_assign ?_); first | refine lx_assign (r := (.t _)) rfl rfl rfl rfl rfl ?_ | refine lx_assign (r := (.row _)) rfl rfl rfl rfl rfl ?_) | ((with_reducible refine g_pick ?_); first | refine lx_pickT (r := (.t _)) rfl rfl rfl rfl rfl rfl ?_ | refine lx_pickF (r := (.t _)) rfl rfl rfl rfl rfl rfl ?_) | ((with_reducible refine g_index ?_); first | refine lx_index_str rfl rfl rfl rfl rfl rfl ?_ ?_ ?_) | ((with_reducible refine g_buildSlice ?_); first | refine lx_buildSlice rfl rfl rfl rfl rfl rfl rfl ?_) | ((with_reducible refine g_append ?_); first | refine lx_append_row rfl rfl rfl rfl rfl rfl rfl rfl rfl rfl ?_ ?_ ?_) | refine c_condP rfl (fun hc => ?_) (fun hc => ?_) | refine lx_splitP rfl (fun hc => ?_) (fun hc => ?_))
      all_goals try (simp only [List.length_cons, List.length_nil]; omega)
      all_goals try omega
      all_goals exact q_loop (n' := s.size - (i + 1)) (by omega) ((ghost_keep2 [0, 3, 8, 9] [.loc 29] rfl rfl).trans (ghost_renL2 (.loc 29) (.loc 900) rfl rfl rfl rfl)) ⟨i + 1, by omega, rfl, by rw [wi]; rfl, by rw [hnext, hbt]; rfl⟩
    · have h1n : ¬ bAt s (i : Int) = 34 ∧ ¬ bAt s (i : Int) = 92 := ⟨fun h => h1 (.inl ((num 34).2 h)), fun h => h1 (.inr ((num 92).2 h))⟩
      obtain ⟨n1, n2⟩ := h1n
      by_cases h2 : c = 8 ∨ c = 9 ∨ c = 10 ∨ c = 12 ∨ c = 13
      · obtain ⟨hO, l0, l1, l2, l3⟩ := letters c h2
        rw [hO] at hnext
        simp only at hnext
        rw [← hbt] at hnext l0 l1 l2 l3
        have h2n : bAt s (i : Int) = 8 ∨ bAt s (i : Int) = 9 ∨ bAt s (i : Int) = 10 ∨ bAt s (i : Int) = 12 ∨ bAt s (i : Int) = 13 := by
          rcases h2 with h | h | h | h | h
          · exact .inl ((num 8).1 h)
          · exact .inr (.inl ((num 9).1 h))
          · exact .inr (.inr (.inl ((num 10).1 h)))
          · exact .inr (.inr (.inr (.inl ((num 12).1 h))))
          · exact .inr (.inr (.inr (.inr ((num 13).1 h))))
        have hlet : u8T (UInt8.ofNat (bAt ⟨#[98, 116, 110, 63, 102, 114]⟩ (IntKind.u8.wrap (bAt s (i : Int) - 8))).toNat) = T.int .u8 (bAt ⟨#[98, 116, 110, 63, 102, 114]⟩ (IntKind.u8.wrap (bAt s (i : Int) - 8))) := by
          unfold u8T
          rw [UInt8.toNat_ofNat_of_lt' (by simp only [UInt8.size]; omega)]
          congr 1
        have hn2 : u8L [92, UInt8.ofNat (bAt ⟨#[98, 116, 110, 63, 102, 114]⟩ (IntKind.u8.wrap (bAt s (i : Int) - 8))).toNat] = [T.int .u8 92, T.int .u8 (bAt ⟨#[98, 116, 110, 63, 102, 114]⟩ (IntKind.u8.wrap (bAt s (i : Int) - 8)))] := by
          show [u8T 92, _] = _
          rw [hlet]; rfl
        rw [hn2] at hnext
        clear hlet hn2 hO
        generalize hB : bAt ⟨#[98, 116, 110, 63, 102, 114]⟩ (IntKind.u8.wrap (bAt s (i : Int) - 8)) = B at *
        repeat' (first | (with_reducible refine codeT_seq ?_) | (with_reducible refine codeT_block ?_) | (with_reducible refine codeT_skip ?_) | (with_reducible refine codeT_exit ?_) | (with_reducible refine codeT_regionL ?_) | (with_reducible refine lx_nil ?_) | (with_reducible refine q_then ?_) | (with_reducible refine q_then_exit ?_) | (with_reducible refine q_block ?_) | ((with_reducible refine q_block_same ?_ ?_); · rfl) | (with_reducible refine q_loop_exit ?_) | refine c_condT rfl ?_ | (exfalso; omega) | ((with_reducible refine g_guard ?_); first | refine lx_skip rfl rfl rfl ?_) | ((with_reducible refine g_move ?_); first | refine lx_move (r := (.t _)) rfl rfl rfl rfl rfl ?_ | refine lx_move (r := (.row _)) rfl rfl rfl rfl rfl ?_) | ((with_reducible refine g_binOp ?_); first | refine lx_arith rfl rfl rfl rfl rfl rfl rfl ?_) | ((with_reducible refine g_assign ?_); first | refine lx_assign (r := (.t _)) rfl rfl rfl rfl rfl ?_ | refine lx_assign (r := (.row _)) rfl rfl rfl rfl rfl ?_) | ((with_reducible refine g_pick ?_); first | refine lx_pickT (r := (.t _)) rfl rfl rfl rfl rfl rfl ?_ | refine lx_pickF (r := (.t _)) rfl rfl rfl rfl rfl rfl ?_) | ((with_reducible refine g_index ?_); first | refine lx_index_str rfl rfl rfl rfl rfl rfl ?_ ?_ ?_) | ((with_reducible refine g_buildSlice ?_); first | refine lx_buildSlice rfl rfl rfl rfl rfl rfl rfl ?_) | ((with_reducible refine g_append ?_); first | refine lx_append_row rfl rfl rfl rfl rfl rfl rfl rfl rfl rfl ?_ ?_ ?_) | refine c_condP rfl (fun hc => ?_) (fun hc => ?_) | refine lx_splitP rfl (fun hc => ?_) (fun hc => ?_))
        all_goals try (simp only [List.length_cons, List.length_nil]; omega)
        all_goals try omega
        all_goals try (show _ < (6 : Int); omega)
        all_goals exact q_loop (n' := s.size - (i + 1)) (by omega) ((ghost_keep2 [0, 3, 8, 9] [.loc 54] rfl rfl).trans (ghost_renL2 (.loc 54) (.loc 900) rfl rfl rfl rfl)) ⟨i + 1, by omega, rfl, by rw [wi]; rfl, by rw [hnext, ← hB]; rfl⟩
      · have hO := no_letter c h1 h2
        rw [hO] at hnext
        simp only at hnext
        have m1 : ¬ bAt s (i : Int) = 8 := fun h => h2 (.inl ((num 8).2 h))
        have m2 : ¬ bAt s (i : Int) = 9 := fun h => h2 (.inr (.inl ((num 9).2 h)))
        have m3 : ¬ bAt s (i : Int) = 10 := fun h => h2 (.inr (.inr (.inl ((num 10).2 h))))
        have m4 : ¬ bAt s (i : Int) = 12 := fun h => h2 (.inr (.inr (.inr (.inl ((num 12).2 h)))))
        have m5 : ¬ bAt s (i : Int) = 13 := fun h => h2 (.inr (.inr (.inr (.inr ((num 13).2 h)))))
        by_cases h32 : c.toNat < 32
        · rw [if_pos h32] at hnext
          have h4 : IntKind.u8.wrap ((bAt s (i : Int)).tdiv 16) = ((c.toNat / 16 : Nat) : Int) := by
            rw [hbt, Int.tdiv_eq_ediv_of_nonneg (by omega)]
            show ((c.toNat : Int) / 16) % 256 = _
            omega
          have h15 : (bAt s (i : Int)).tmod 16 = ((c.toNat % 16 : Nat) : Int) := by
            rw [hbt, Int.tmod_eq_emod_of_nonneg (by omega)]
            omega
          have e1 := hex_bt (c.toNat / 16) (by omega)
          have e2 := hex_at (c.toNat % 16) (by omega)
          repeat' (first | (with_reducible refine codeT_seq ?_) | (with_reducible refine codeT_block ?_) | (with_reducible refine codeT_skip ?_) | (with_reducible refine codeT_exit ?_) | (with_reducible refine codeT_regionL ?_) | ((with_reducible refine codeT_region_drawL ?_ ?_); · rfl) | (with_reducible refine lx_nil ?_) | (with_reducible refine q_then ?_) | (with_reducible refine q_then_exit ?_) | (with_reducible refine q_block ?_) | ((with_reducible refine q_block_same ?_ ?_); · rfl) | (with_reducible refine q_loop_exit ?_) | ((with_reducible refine q_region_draw ?_ ?_); · rfl) | (exfalso; omega) | ((with_reducible refine g_move ?_); first | refine lx_move (r := (.t _)) rfl rfl rfl rfl rfl ?_ | refine lx_move (r := (.row _)) rfl rfl rfl rfl rfl ?_) | ((with_reducible refine g_binOp ?_); first | refine lx_arith rfl rfl rfl rfl rfl rfl rfl ?_ | refine lx_quo rfl rfl rfl rfl rfl rfl (by decide) ?_ | refine lx_rem rfl rfl rfl rfl rfl rfl (by decide) ?_) | ((with_reducible refine g_assign ?_); first | refine lx_assign (r := (.t _)) rfl rfl rfl rfl rfl ?_ | refine lx_assign (r := (.row _)) rfl rfl rfl rfl rfl ?_) | ((with_reducible refine g_pick ?_); first | refine lx_pickF (r := (.t _)) rfl rfl rfl rfl rfl rfl ?_) | ((with_reducible refine g_index ?_); first | refine lx_index_str rfl rfl rfl rfl rfl rfl ?_ ?_ ?_) | ((with_reducible refine g_buildSlice ?_); first | refine lx_buildSlice rfl rfl rfl rfl rfl rfl rfl ?_) | ((with_reducible refine g_append ?_); first | refine lx_append_row rfl rfl rfl rfl rfl rfl rfl rfl rfl rfl ?_ ?_ ?_) | refine c_condP rfl (fun hc => ?_) (fun hc => ?_) | refine lx_splitP rfl (fun hc => ?_) (fun hc => ?_))
          all_goals try (simp only [List.length_cons, List.length_nil]; omega)
          all_goals try (rw [h4]; omega)
          all_goals try (rw [h4]; show _ < (2 : Int); omega)
          all_goals try (rw [h15]; omega)
          all_goals try (rw [h15]; show _ < (16 : Int); omega)
          all_goals try omega
          exact q_loop (n' := s.size - (i + 1)) (by omega) ((ghost_keep2 [0, 3, 8, 9] [.loc 66] rfl rfl).trans (ghost_renL2 (.loc 66) (.loc 900) rfl rfl rfl rfl)) ⟨i + 1, by omega, rfl, by rw [wi]; rfl, by rw [hnext, h4, h15, e1, e2]; rfl⟩
        · rw [if_neg h32] at hnext
          repeat' (first | (with_reducible refine codeT_seq ?_) | (with_reducible refine codeT_block ?_) | (with_reducible refine codeT_skip ?_) | (with_reducible refine codeT_exit ?_) | (with_reducible refine codeT_regionL ?_) | ((with_reducible refine codeT_region_drawL ?_ ?_); · rfl) | (with_reducible refine lx_nil ?_) | (with_reducible refine q_then ?_) | (with_reducible refine q_then_exit ?_) | (with_reducible refine q_block ?_) | ((with_reducible refine q_block_same ?_ ?_); · rfl) | (with_reducible refine q_loop_exit ?_) | (exfalso; omega) | ((with_reducible refine g_move ?_); first | refine lx_move (r := (.t _)) rfl rfl rfl rfl rfl ?_ | refine lx_move (r := (.row _)) rfl rfl rfl rfl rfl ?_) | ((with_reducible refine g_binOp ?_); first | refine lx_arith rfl rfl rfl rfl rfl rfl rfl ?_) | ((with_reducible refine g_assign ?_); first | refine lx_assign (r := (.t _)) rfl rfl rfl rfl rfl ?_ | refine lx_assign (r := (.row _)) rfl rfl rfl rfl rfl ?_) | ((with_reducible refine g_pick ?_); first | refine lx_pickF (r := (.t _)) rfl rfl rfl rfl rfl rfl ?_) | ((with_reducible refine g_index ?_); first | refine lx_index_str rfl rfl rfl rfl rfl rfl ?_ ?_ ?_) | ((with_reducible refine g_buildSlice ?_); first | refine lx_buildSlice rfl rfl rfl rfl rfl rfl rfl ?_) | ((with_reducible refine g_append ?_); first | refine lx_append_row rfl rfl rfl rfl rfl rfl rfl rfl rfl rfl ?_ ?_ ?_) | refine c_condP rfl (fun hc => ?_) (fun hc => ?_) | refine lx_splitP rfl (fun hc => ?_) (fun hc => ?_))
          all_goals try (simp only [List.length_cons, List.length_nil]; omega)
          all_goals try omega
          exact q_loop (n' := s.size - (i + 1)) (by omega) ((ghost_keep2 [0, 3, 8, 9] [.loc 18] rfl rfl).trans (ghost_renL2 (.loc 18) (.loc 900) rfl rfl rfl rfl)) ⟨i + 1, by omega, rfl, by rw [wi]; rfl, by rw [hnext, hbt]; rfl⟩
  · obtain rfl : i = s.size := by omega
    have e : u8L (34 :: jEscs (s.data.toList.take s.size)) ++ [T.int .u8 34] = u8L (jQ s) := by
      rw [← hl, List.take_length]
      show u8L _ ++ u8L [34] = _
      rw [← u8L_append]; rfl
    have e2 : strT (u8L (34 :: jEscs (s.data.toList.take s.size)) ++ [T.int .u8 34]) = ofL (jQ s) := by rw [e, strT_u8L]
    repeat' (first | (with_reducible refine codeT_seq ?_) | (with_reducible refine codeT_block ?_) | (with_reducible refine codeT_skip ?_) | (with_reducible refine codeT_ret ?_) | (with_reducible refine codeT_exit ?_) | (with_reducible refine codeT_regionL ?_) | (with_reducible refine lx_nil ?_) | (with_reducible refine q_then ?_) | (with_reducible refine q_then_exit ?_) | ((with_reducible refine q_block_same ?_ ?_); · rfl) | (with_reducible refine q_loop_exit ?_) | (exfalso; omega) | ((with_reducible refine g_move ?_); first | refine lx_move (r := (.row _)) rfl rfl rfl rfl rfl ?_) | ((with_reducible refine g_binOp ?_); first | refine lx_arith rfl rfl rfl rfl rfl rfl rfl ?_) | ((with_reducible refine g_assign ?_); first | refine lx_assign (r := (.t _)) rfl rfl rfl rfl rfl ?_) | ((with_reducible refine g_convert ?_); first | refine lx_ofBytes_row rfl rfl rfl rfl rfl rfl ?_ ?_) | ((with_reducible refine g_buildSlice ?_); first | refine lx_buildSlice rfl rfl rfl rfl rfl rfl rfl ?_) | ((with_reducible refine g_append ?_); first | refine lx_append_row rfl rfl rfl rfl rfl rfl rfl rfl rfl rfl ?_ ?_ ?_) | refine c_condP rfl (fun hc => ?_) (fun hc => ?_))
    all_goals try (simp only [List.length_singleton]; omega)
    · rw [e]; exact u8L_isU8 _
    · exact q_ret (resT_oneE rfl rfl (congrArg T.str e2)) (by simp)
end Go.AL
/- What the document's Write and Encode of the first serialisation answer. -/
set_option linter.unusedVariables false
namespace Go.AL
open Go Go.Proofs Go.RowKit

end Go.AL
