/- That the law HashSums is true, as a contract. -/
import Derived.Test.YtohgkmphkgaabaaHsc
set_option linter.unusedVariables false
namespace Go.AL
open Go Go.Proofs Go.RowKit

def abcS : ByteArray := ⟨#[97, 98, 99]⟩
def sumAbc : ByteArray := ⟨#[186, 120, 22, 191, 143, 1, 207, 234, 65, 65, 64, 222, 93, 174, 34, 35, 176, 3, 97, 163, 150, 23, 122, 156, 180, 16, 255, 97, 242, 0, 21, 173]⟩
def sumNo : ByteArray := ⟨#[227, 176, 196, 66, 152, 252, 28, 20, 154, 251, 244, 200, 153, 111, 185, 36, 39, 174, 65, 228, 100, 155, 147, 76, 164, 149, 153, 27, 120, 82, 184, 85]⟩
theorem sha_abc : sha ⟨#[97, 98, 99]⟩ = sumAbc := by decide +kernel
theorem sha_no : sha ⟨#[]⟩ = sumNo := by decide +kernel
set_option maxHeartbeats 1000000 in
theorem awake2_spec : Spec Try.prog 20 [] [] (.t (.bool true)) [] := by
  have h1 := Sum_spec ⟨#[97, 98, 99]⟩ (by decide)
  have h2 := Sum_spec ⟨#[]⟩ (by decide)
  rw [sha_abc] at h1
  rw [sha_no] at h2
  have e1 : sumAbc = ⟨#[186, 120, 22, 191, 143, 1, 207, 234, 65, 65, 64, 222, 93, 174, 34, 35, 176, 3, 97, 163, 150, 23, 122, 156, 180, 16, 255, 97, 242, 0, 21, 173]⟩ := rfl
  have e2 : sumNo = ⟨#[227, 176, 196, 66, 152, 252, 28, 20, 154, 251, 244, 200, 153, 111, 185, 36, 39, 174, 65, 228, 100, 155, 147, 76, 164, 149, 153, 27, 120, 82, 184, 85]⟩ := rfl
  generalize sumAbc = A at h1 e1
  generalize sumNo = B at h2 e2
  refine spec_intro (env0 := []) (st0 := []) Try.func20 rfl rfl rfl rfl ?_
  repeat' (first | refine lx_splitP rfl (fun hc => ?_) (fun hc => ?_) | (with_reducible refine codeT_seq ?_) | (with_reducible refine codeT_ret ?_) | (with_reducible refine codeT_regionL ?_) | (with_reducible refine lx_nil ?_) | (with_reducible refine q_then ?_) | ((with_reducible refine g_guard ?_); first | refine lx_skip rfl rfl rfl ?_) | ((with_reducible refine g_move ?_); first | refine lx_move (r := (.t _)) rfl rfl rfl rfl rfl ?_) | ((with_reducible refine g_binOp ?_); first | refine lx_str_eq rfl rfl rfl rfl rfl rfl ?_) | ((with_reducible refine g_assign ?_); first | refine lx_assign (r := (.t _)) rfl rfl rfl rfl rfl ?_) | ((with_reducible refine g_pick ?_); first | refine lx_pickT (r := (.t _)) rfl rfl rfl rfl rfl rfl ?_ | refine lx_pickF (r := (.t _)) rfl rfl rfl rfl rfl rfl ?_) | ((with_reducible refine g_call ?_); first | refine lx_callT rfl rfl h1 rfl rfl (ArgsLE.refl _) rfl rfl rfl rfl rfl ?_ | refine lx_callT rfl rfl h2 rfl rfl (ArgsLE.refl _) rfl rfl rfl rfl rfl ?_))
  · exact q_ret (resT_oneE rfl rfl (congrArg T.bool (decide_eq_true e2))) (by simp)
  · exact absurd e1 ‹_›
theorem isU8_rep (n : Nat) : IsU8 (List.replicate n (T.int .u8 0)) := by
  intro e he
  rw [List.eq_of_mem_replicate he]; rfl
theorem strT_rep (n : Nat) : strT (List.replicate n (T.int .u8 0)) = ofL (List.replicate n 0) := by
  rw [← strT_map, List.map_replicate]; rfl
set_option maxHeartbeats 4000000 in
theorem HashSums_spec (s : ByteArray) (m : Int) (m0 : 0 ≤ m) (m1 : m < 65536) : Spec Try.prog 4 [.t (.str s), .t (.int .u16 m)] [] (.t (.bool true)) [] := by
  have hA := awake2_spec
  by_cases h1000 : (1000 : Int) < (s.size : Int)
  · refine spec_intro (env0 := [(0, _), (1, _)]) (st0 := []) Try.func4 rfl rfl rfl rfl ?_
    repeat' (first | refine c_condP rfl (fun hc => ?_) (fun hc => ?_) | (with_reducible refine codeT_seq ?_) | (with_reducible refine codeT_block ?_) | (with_reducible refine codeT_skip ?_) | (with_reducible refine codeT_ret ?_) | (with_reducible refine codeT_regionL ?_) | (with_reducible refine lx_nil ?_) | (with_reducible refine q_then ?_) | (with_reducible refine q_then_ret ?_) | ((with_reducible refine g_move ?_); first | refine lx_move (r := (.t _)) rfl rfl rfl rfl rfl ?_) | ((with_reducible refine g_binOp ?_); first | refine lx_arith rfl rfl rfl rfl rfl rfl rfl ?_ | refine lx_concat rfl rfl rfl rfl rfl rfl ?_ ?_ | refine lx_rem rfl rfl rfl rfl rfl rfl (by decide) ?_) | ((with_reducible refine g_assign ?_); first | refine lx_assign (r := (.t _)) rfl rfl rfl rfl rfl ?_) | ((with_reducible refine g_convert ?_); first | refine lx_ofBytes_row rfl rfl rfl rfl rfl rfl ?_ ?_) | ((with_reducible refine g_buildSlice ?_); first | refine lx_buildSlice rfl rfl rfl rfl rfl rfl rfl ?_) | ((with_reducible refine g_makeSlice ?_); first | refine lx_makeSlice (zT := .int _ _) rfl rfl rfl rfl rfl rfl rfl rfl rfl ?_ ?_ ?_ ?_ ?_) | ((with_reducible refine g_len ?_); first | refine lx_len_str rfl rfl rfl rfl rfl ?_ | refine lx_len_row rfl rfl rfl rfl rfl rfl ?_) | ((with_reducible refine g_call ?_); first | refine lx_callT rfl rfl hA rfl rfl (ArgsLE.refl _) rfl rfl rfl rfl rfl ?_))
    · exact q_ret (resT_oneE rfl rfl rfl) (by simp)
    all_goals exact absurd h1000 ‹_›
  · obtain ⟨z, hz⟩ : ∃ z : Nat, m.tmod 300 = (z : Int) ∧ z < 300 := ⟨(m % 300).toNat, by rw [Int.tmod_eq_emod_of_nonneg m0]; omega, by omega⟩
    refine spec_intro (env0 := [(0, _), (1, _)]) (st0 := []) Try.func4 rfl rfl rfl rfl ?_
    repeat' (first | refine c_condP rfl (fun hc => ?_) (fun hc => ?_) | (with_reducible refine codeT_seq ?_) | (with_reducible refine codeT_block ?_) | (with_reducible refine codeT_skip ?_) | (with_reducible refine codeT_regionL ?_) | (with_reducible refine lx_nil ?_) | (with_reducible refine q_then ?_) | ((with_reducible refine g_move ?_); first | refine lx_move (r := (.t _)) rfl rfl rfl rfl rfl ?_) | ((with_reducible refine g_binOp ?_); first | refine lx_arith rfl rfl rfl rfl rfl rfl rfl ?_ | refine lx_concat rfl rfl rfl rfl rfl rfl ?_ ?_ | refine lx_rem rfl rfl rfl rfl rfl rfl (by decide) ?_) | ((with_reducible refine g_assign ?_); first | refine lx_assign (r := (.t _)) rfl rfl rfl rfl rfl ?_) | ((with_reducible refine g_convert ?_); first | refine lx_ofBytes_row rfl rfl rfl rfl rfl rfl ?_ ?_) | ((with_reducible refine g_buildSlice ?_); first | refine lx_buildSlice rfl rfl rfl rfl rfl rfl rfl ?_) | ((with_reducible refine g_makeSlice ?_); first | refine lx_makeSlice (zT := .int _ _) rfl rfl rfl rfl rfl rfl rfl rfl rfl ?_ ?_ ?_ ?_ ?_) | ((with_reducible refine g_len ?_); first | refine lx_len_str rfl rfl rfl rfl rfl ?_ | refine lx_len_row rfl rfl rfl rfl rfl rfl ?_))
    · exact absurd hc h1000
    · omega
    · omega
    · omega
    · omega
    · exact isU8_rep _
    · rw [strT_rep, ofL_size, List.length_replicate]; omega
    rw [hz.1, Int.toNat_natCast, strT_rep]
    refine codeT_ghost (ghost_keep2 [22, 23, 24] [.loc 22] rfl rfl) ?_
    refine codeT_ghost (ghost_freezeL (id := .loc 22) rfl rfl rfl) ?_
    obtain ⟨L, hL⟩ : ∃ L, L = [s, s ++ ofL (List.replicate z 0)] := ⟨_, rfl⟩
    have hLs : ∀ x ∈ L, x.size ≤ 2000 := by
      intro x hx
      rw [hL] at hx
      simp only [List.mem_cons, List.not_mem_nil, or_false] at hx
      rcases hx with rfl | rfl
      · omega
      · rw [ByteArray.size_append, ofL_size, List.length_replicate]; omega
    refine codeT_ghost (ghost_le 22 (y := .sl 1 (L.map .str)) rfl (by rw [hL]; exact .refl _) rfl) ?_
    have hLl : L.length = 2 := by rw [hL]; rfl
    refine codeT_ghost (ghost_keep2 [22, 23, 24] [] rfl rfl) ?_
    clear hL
    refine codeT_loop (fun p env st => ∃ (j : Nat), j ≤ 2 ∧ p = 2 - j ∧ env = EnvL.get [(22, .t (.sl 1 (L.map .str))), (23, .t (.int .i64 2)), (24, .t (.int .i64 (j : Int)))] ∧ st = StO.get [])
      ?_ (n := 2) ⟨0, by omega, rfl, rfl, rfl⟩
    rintro p env st ⟨j, hj, rfl, rfl, rfl⟩
    by_cases hlt : j < 2
    · have hm : L.getD (j : Int).toNat default ∈ L := by
        rw [List.getD_eq_getElem?_getD, List.getElem?_eq_getElem (by omega)]; exact List.getElem_mem _
      have hx := hLs _ hm
      generalize hX : L.getD (j : Int).toNat default = X at hx
      have hP := Pad_spec X (by omega)
      have hQ := qPad_spec X (by omega)
      have hS := Sum_spec X (by omega)
      have hT := qSum_spec X (by omega)
      generalize padR X = pr at hP hQ
      obtain ⟨P, e⟩ := pr
      generalize sha X = Y at hS hT
      simp only at hP hQ
      have e1 : P = P := rfl
      have e2 : e = e := rfl
      have e3 : Y = Y := rfl
      subst hX
      repeat' (first | (with_reducible refine codeT_seq ?_) | (with_reducible refine codeT_block ?_) | (with_reducible refine codeT_skip ?_) | (with_reducible refine codeT_ret ?_) | (with_reducible refine codeT_exit ?_) | (with_reducible refine codeT_regionL ?_) | (with_reducible refine lx_nil ?_) | (with_reducible refine q_then ?_) | (with_reducible refine q_then_exit ?_) | (with_reducible refine q_then_ret ?_) | (with_reducible refine q_block ?_) | (with_reducible refine q_block_ret ?_) | ((with_reducible refine q_block_same ?_ ?_); · rfl) | (with_reducible refine q_loop_exit ?_) | (with_reducible refine q_loop_ret ?_) | refine c_condT rfl ?_ | ((with_reducible refine g_guard ?_); first | refine lx_skip rfl rfl rfl ?_) | ((with_reducible refine g_move ?_); first | refine lx_move (r := (.t _)) rfl rfl rfl rfl rfl ?_ | refine lx_move (r := (.tup _)) rfl rfl rfl rfl rfl ?_) | ((with_reducible refine g_load ?_); first | refine lx_load_tp rfl rfl rfl rfl rfl rfl rfl ?_) | ((with_reducible refine g_binOp ?_); first | refine lx_arith rfl rfl rfl rfl rfl rfl rfl ?_ | refine lx_str_ne rfl rfl rfl rfl rfl rfl ?_) | ((with_reducible refine g_assign ?_); first | refine lx_assign (r := (.t _)) rfl rfl rfl rfl rfl ?_) | ((with_reducible refine g_pick ?_); first | refine lx_pickT (r := (.t _)) rfl rfl rfl rfl rfl rfl ?_ | refine lx_pickF (r := (.t _)) rfl rfl rfl rfl rfl rfl ?_) | ((with_reducible refine g_indexAddr ?_); first | refine lx_indexAddr_map rfl rfl rfl rfl rfl rfl ?_ ?_ ?_) | ((with_reducible refine g_extract ?_); first | refine lx_extract rfl rfl rfl rfl rfl rfl ?_) | ((with_reducible refine g_call ?_); first | refine lx_callT rfl rfl hP rfl rfl (ArgsLE.refl _) rfl rfl rfl rfl rfl ?_ | refine lx_callT rfl rfl hQ rfl rfl (ArgsLE.refl _) rfl rfl rfl rfl rfl ?_ | refine lx_callT rfl rfl hS rfl rfl (ArgsLE.refl _) rfl rfl rfl rfl rfl ?_ | refine lx_callT rfl rfl hT rfl rfl (ArgsLE.refl _) rfl rfl rfl rfl rfl ?_) | refine c_condP rfl (fun hc => ?_) (fun hc => ?_) | refine c_condN rfl (fun hc => ?_) (fun hc => ?_) | refine lx_splitN rfl (fun hc => ?_) (fun hc => ?_))
      all_goals try omega
      all_goals try (exfalso; omega)
      all_goals try (exact absurd rfl hc)
      exact q_loop (n' := 2 - (j + 1)) (by omega) (ghost_keep2 [22, 23, 24] [] rfl rfl) ⟨j + 1, by omega, rfl, by rw [wrap64 (by omega) (by omega)]; rfl, rfl⟩
    · repeat' (first | (with_reducible refine codeT_seq ?_) | (with_reducible refine codeT_block ?_) | (with_reducible refine codeT_skip ?_) | (with_reducible refine codeT_ret ?_) | (with_reducible refine codeT_exit ?_) | (with_reducible refine codeT_regionL ?_) | (with_reducible refine lx_nil ?_) | (with_reducible refine q_then ?_) | (with_reducible refine q_then_exit ?_) | ((with_reducible refine q_block_same ?_ ?_); · rfl) | (with_reducible refine q_loop_exit ?_) | ((with_reducible refine g_move ?_); first | refine lx_move (r := (.t _)) rfl rfl rfl rfl rfl ?_) | ((with_reducible refine g_load ?_); first | refine lx_load_tp rfl rfl rfl rfl rfl rfl rfl ?_) | ((with_reducible refine g_binOp ?_); first | refine lx_arith rfl rfl rfl rfl rfl rfl rfl ?_) | ((with_reducible refine g_assign ?_); first | refine lx_assign (r := (.t _)) rfl rfl rfl rfl rfl ?_) | ((with_reducible refine g_indexAddr ?_); first | refine lx_indexAddr_map rfl rfl rfl rfl rfl rfl ?_ ?_ ?_) | ((with_reducible refine g_call ?_); first | refine lx_callT rfl rfl hA rfl rfl (ArgsLE.refl _) rfl rfl rfl rfl rfl ?_) | refine c_condP rfl (fun hc => ?_) (fun hc => ?_))
      all_goals try (exfalso; omega)
      exact q_ret (resT_oneE rfl rfl rfl) (by simp)
end Go.AL
