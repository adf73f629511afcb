/- What the kit's Spoil answers. -/
import Derived.Test.YtjhhjkkacbcmjaaDoorNod6
import Derived.Test.YtjhhjkkacbcmjaaDoorAl3
import Derived.Test.YtjhhjkkacbcmjaaDoorCbo4
import Derived.Test.YtjhhjkkacbcmjaaDoorCbo2
set_option linter.unusedVariables false
namespace Go.AL
open Go Go.Proofs Go.RowKit

/-- The string whose byte at a place is changed by so much. -/
def spoil (s : ByteArray) (at_ by_ : Int) : ByteArray :=
  if s = ⟨#[]⟩ then s else
  strT ((bytesT s).set (modI at_ s.size).toNat (.int .u8 (IntKind.u8.wrap (((s.data.toList.getD (modI at_ s.size).toNat default).toNat : Int) + IntKind.u8.wrap by_))))
theorem ba_len (s : ByteArray) : s.size = s.data.toList.length := by cases s; rfl
set_option maxHeartbeats 2000000 in
theorem Spoil_spec (s : ByteArray) (a b : Int) (hs : s.size ≤ 4611686018427387903) : Spec Tryd.prog 29 [.t (.str s), .t (.int .i64 a), .t (.int .i64 b)] [] (.t (.str (spoil s a b))) [] := by
  have hm := Mod_spec a s.size (by omega)
  unfold spoil
  by_cases h0 : s = ⟨#[]⟩
  · rw [if_pos h0]
    refine spec_intro (env0 := [(0, _), (1, _), (2, _)]) (st0 := []) Tryd.func29 rfl rfl rfl rfl ?_
    repeat' (first | (with_reducible refine codeT_seq ?_) | (with_reducible refine codeT_skip ?_) | (with_reducible refine codeT_ret ?_) | (with_reducible refine codeT_regionL ?_) | (with_reducible refine lx_nil ?_) | (with_reducible refine q_then ?_) | (with_reducible refine q_then_ret ?_) | ((with_reducible refine g_move ?_); first | refine lx_move (r := (.t _)) rfl rfl rfl rfl rfl ?_ | refine lx_move (r := (.row _)) rfl rfl rfl rfl rfl ?_) | ((with_reducible refine g_binOp ?_); first | refine lx_str_eq rfl rfl rfl rfl rfl rfl ?_) | ((with_reducible refine g_assign ?_); first | refine lx_assign (r := (.t _)) rfl rfl rfl rfl rfl ?_ | refine lx_assign (r := (.row _)) rfl rfl rfl rfl rfl ?_) | ((with_reducible refine g_convert ?_); first | refine lx_toBytes rfl rfl rfl rfl rfl rfl ?_ ?_) | ((with_reducible refine g_len ?_); first | refine lx_len_rowmap rfl rfl rfl rfl rfl rfl ?_) | ((with_reducible refine g_call ?_); first | exact absurd h0 ‹_›) | refine c_condP rfl (fun hc => ?_) (fun hc => ?_))
    · exact q_ret (resT_oneE rfl rfl rfl) (by simp)
    all_goals first | exact absurd h0 ‹¬ s = ⟨#[]⟩› | omega
  · rw [if_neg h0]
    have hlt := modI_lt a s.size (by
      have : s.size ≠ 0 := fun e => h0 (by cases s with | mk d => cases d with | mk l => cases l with | nil => rfl | cons x xs => simp [ByteArray.size] at e)
      omega)
    generalize modI a s.size = k at *
    refine spec_intro (env0 := [(0, _), (1, _), (2, _)]) (st0 := []) Tryd.func29 rfl rfl rfl rfl ?_
    repeat' (first | (with_reducible refine codeT_seq ?_) | (with_reducible refine codeT_skip ?_) | (with_reducible refine codeT_ret ?_) | (with_reducible refine codeT_regionL ?_) | (with_reducible refine lx_nil ?_) | (with_reducible refine q_then ?_) | (with_reducible refine q_then_ret ?_) | ((with_reducible refine g_move ?_); first | refine lx_move (r := (.t _)) rfl rfl rfl rfl rfl ?_ | refine lx_move (r := (.row _)) rfl rfl rfl rfl rfl ?_) | ((with_reducible refine g_load ?_); first | refine lx_load_elsM rfl rfl rfl rfl rfl rfl rfl rfl ?_ ?_) | ((with_reducible refine g_binOp ?_); first | refine lx_arith rfl rfl rfl rfl rfl rfl rfl ?_ | refine lx_str_eq rfl rfl rfl rfl rfl rfl ?_) | ((with_reducible refine g_assign ?_); first | refine lx_assign (r := (.t _)) rfl rfl rfl rfl rfl ?_ | refine lx_assign (r := (.row _)) rfl rfl rfl rfl rfl ?_) | ((with_reducible refine g_store ?_); first | refine lx_store_slt rfl rfl rfl rfl rfl rfl ?_ ?_ ?_) | ((with_reducible refine g_indexAddr ?_); first | refine lx_indexAddr_row rfl rfl rfl rfl rfl rfl rfl ?_ ?_ ?_) | ((with_reducible refine g_convert ?_); first | refine lx_conv_int rfl rfl rfl rfl rfl ?_ | refine lx_toBytes rfl rfl rfl rfl rfl rfl ?_ ?_ | refine lx_ofBytes_row rfl rfl rfl rfl rfl rfl ?_ ?_) | ((with_reducible refine g_len ?_); first | refine lx_len_rowmap rfl rfl rfl rfl rfl rfl ?_) | ((with_reducible refine g_call ?_); first | refine lx_callT rfl rfl hm rfl rfl (ArgsLE.refl _) rfl rfl rfl rfl rfl ?_) | refine c_condP rfl (fun hc => ?_) (fun hc => ?_))
    all_goals try exact absurd ‹s = ⟨#[]⟩› h0
    all_goals try omega
    all_goals try (simp only [bytesT, List.length_map]; rw [← ba_len]; omega)
    all_goals try rfl
    · rw [← ba_len]; omega
    · intro e he
      rcases List.mem_or_eq_of_mem_set he with h | rfl
      · simp only [bytesT, List.mem_map] at h
        obtain ⟨c, _, rfl⟩ := h
        rfl
      · rfl
    · exact q_ret (resT_oneE rfl rfl rfl) (by simp)
end Go.AL
/- That the law CborBack is true, as a contract. -/
set_option linter.unusedVariables false
namespace Go.AL
open Go Go.Proofs Go.RowKit

end Go.AL
/- That the law CborOnce is true, as a contract. -/
set_option linter.unusedVariables false
namespace Go.AL
open Go Go.Proofs Go.RowKit

theorem strT_len (l : List T) : (strT l).size = l.length := by
  unfold strT strOfNums
  rw [ByteArray.size, List.size_toArray, List.length_map, List.length_map]
theorem spoil_size (s : ByteArray) (a b : Int) : (spoil s a b).size = s.size := by
  unfold spoil
  split
  · rfl
  · rw [strT_len, List.length_set, bytesT, List.length_map]; exact toList_len s
end Go.AL
