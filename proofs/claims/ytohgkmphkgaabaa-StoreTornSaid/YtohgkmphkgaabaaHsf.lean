/- What the sums of pairs and lists answer, in the program and in the document. -/
import Derived.Test.YtohgkmphkgaabaaHsc
set_option linter.unusedVariables false
namespace Go.AL
open Go Go.Proofs Go.RowKit

def fourS (n : Int) : ByteArray := strT [.int .u8 (IntKind.u8.wrap (n / 2 ^ 24)), .int .u8 (IntKind.u8.wrap (n / 2 ^ 16)), .int .u8 (IntKind.u8.wrap (n / 2 ^ 8)), .int .u8 (IntKind.u8.wrap n)]
theorem strT_size (es : List T) : (strT es).size = es.length := by
  unfold strT strOfNums
  rw [ByteArray.size, List.size_toArray, List.length_map, List.length_map]
theorem fourS_size (n : Int) : (fourS n).size = 4 := strT_size _
theorem isU8_four (a b c d : Int) : IsU8 [T.int .u8 a, .int .u8 b, .int .u8 c, .int .u8 d] := by
  intro e he
  simp only [List.mem_cons, List.not_mem_nil, or_false] at he
  rcases he with rfl | rfl | rfl | rfl <;> rfl
set_option maxHeartbeats 1000000 in
theorem qFour_spec (n : Int) : Spec Try.prog 71 [.t (.int .i64 n)] [] (.t (.str (fourS n))) [] := by
  refine spec_intro (env0 := [(0, _)]) (st0 := []) Try.func71 rfl rfl rfl rfl ?_
  repeat' (first | (with_reducible refine codeT_seq ?_) | (with_reducible refine codeT_ret ?_) | (with_reducible refine codeT_regionL ?_) | (with_reducible refine lx_nil ?_) | (with_reducible refine q_then ?_) | ((with_reducible refine g_move ?_); first | refine lx_move (r := (.t _)) rfl rfl rfl rfl rfl ?_) | ((with_reducible refine g_binOp ?_); first | refine lx_shr rfl rfl rfl rfl rfl rfl (by decide) ?_) | ((with_reducible refine g_assign ?_); first | refine lx_assign (r := (.t _)) rfl rfl rfl rfl rfl ?_) | ((with_reducible refine g_convert ?_); first | refine lx_conv_int rfl rfl rfl rfl rfl ?_ | refine lx_ofBytes_row rfl rfl rfl rfl rfl rfl ?_ ?_) | ((with_reducible refine g_buildSlice ?_); first | refine lx_buildSlice rfl rfl rfl rfl rfl rfl rfl ?_))
  all_goals try exact isU8_four _ _ _ _
  exact q_ret (resT_oneE rfl rfl rfl) (by simp)
def shortS (s : ByteArray) : ByteArray := (sha s).extract 0 16
def pairS (a b : ByteArray) : ByteArray := ⟨#[1]⟩ ++ fourS a.size ++ a ++ fourS b.size ++ b
def listPre (l : List ByteArray) (j : Nat) : ByteArray := (l.take j).foldl (fun s x => s ++ (fourS x.size ++ x)) (⟨#[2]⟩ ++ fourS l.length)
def listS (l : List ByteArray) : ByteArray := listPre l l.length
end Go.AL
