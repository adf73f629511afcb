/- That the law HashSums is true, as a contract. -/
import Derived.Test.YtohgkmphkgaabaaHsc
set_option linter.unusedVariables false
namespace Go.AL
open Go Go.Proofs Go.RowKit

def abcS : ByteArray := ⟨#[97, 98, 99]⟩
def sumAbc : ByteArray := ⟨#[186, 120, 22, 191, 143, 1, 207, 234, 65, 65, 64, 222, 93, 174, 34, 35, 176, 3, 97, 163, 150, 23, 122, 156, 180, 16, 255, 97, 242, 0, 21, 173]⟩
def sumNo : ByteArray := ⟨#[227, 176, 196, 66, 152, 252, 28, 20, 154, 251, 244, 200, 153, 111, 185, 36, 39, 174, 65, 228, 100, 155, 147, 76, 164, 149, 153, 27, 120, 82, 184, 85]⟩
theorem sha_abc : sha ⟨#[97, 98, 99]⟩ = sumAbc := by decide +kernel
theorem sha_no : sha ⟨#[]⟩ = sumNo := by decide +kernel
set_option maxHeartbeats 1000000 in
theorem awake2_spec : Spec Try.prog 20 [] [] (.t (.bool true)) [] := by
  have h1 := Sum_spec ⟨#[97, 98, 99]⟩ (by decide)
  have h2 := Sum_spec ⟨#[]⟩ (by decide)
  rw [sha_abc] at h1
  rw [sha_no] at h2
  have e1 : sumAbc = ⟨#[186, 120, 22, 191, 143, 1, 207, 234, 65, 65, 64, 222, 93, 174, 34, 35, 176, 3, 97, 163, 150, 23, 122, 156, 180, 16, 255, 97, 242, 0, 21, 173]⟩ := rfl
  have e2 : sumNo = ⟨#[227, 176, 196, 66, 152, 252, 28, 20, 154, 251, 244, 200, 153, 111, 185, 36, 39, 174, 65, 228, 100, 155, 147, 76, 164, 149, 153, 27, 120, 82, 184, 85]⟩ := rfl
  generalize sumAbc = A at h1 e1
  generalize sumNo = B at h2 e2
  refine spec_intro (env0 := []) (st0 := []) Try.func20 rfl rfl rfl rfl ?_
  repeat' (first | refine lx_splitP rfl (fun hc => ?_) (fun hc => ?_) | (with_reducible refine codeT_seq ?_) | (with_reducible refine codeT_ret ?_) | (with_reducible refine codeT_regionL ?_) | (with_reducible refine lx_nil ?_) | (with_reducible refine q_then ?_) | ((with_reducible refine g_guard ?_); first | refine lx_skip rfl rfl rfl ?_) | ((with_reducible refine g_move ?_); first | refine lx_move (r := (.t _)) rfl rfl rfl rfl rfl ?_) | ((with_reducible refine g_binOp ?_); first | refine lx_str_eq rfl rfl rfl rfl rfl rfl ?_) | ((with_reducible refine g_assign ?_); first | refine lx_assign (r := (.t _)) rfl rfl rfl rfl rfl ?_) | ((with_reducible refine g_pick ?_); first | refine lx_pickT (r := (.t _)) rfl rfl rfl rfl rfl rfl ?_ | refine lx_pickF (r := (.t _)) rfl rfl rfl rfl rfl rfl ?_) | ((with_reducible refine g_call ?_); first | refine lx_callT rfl rfl h1 rfl rfl (ArgsLE.refl _) rfl rfl rfl rfl rfl ?_ | refine lx_callT rfl rfl h2 rfl rfl (ArgsLE.refl _) rfl rfl rfl rfl rfl ?_))
  · exact q_ret (resT_oneE rfl rfl (congrArg T.bool (decide_eq_true e2))) (by simp)
  · exact absurd e1 ‹_›
end Go.AL
