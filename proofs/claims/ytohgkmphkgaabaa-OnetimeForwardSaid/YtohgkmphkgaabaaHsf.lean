/- That the law HashSums is true, as a contract. -/
import Derived.Test.YtohgkmphkgaabaaHsc
set_option linter.unusedVariables false
namespace Go.AL
open Go Go.Proofs Go.RowKit

def abcS : ByteArray := ⟨#[97, 98, 99]⟩
def sumAbc : ByteArray := ⟨#[186, 120, 22, 191, 143, 1, 207, 234, 65, 65, 64, 222, 93, 174, 34, 35, 176, 3, 97, 163, 150, 23, 122, 156, 180, 16, 255, 97, 242, 0, 21, 173]⟩
def sumNo : ByteArray := ⟨#[227, 176, 196, 66, 152, 252, 28, 20, 154, 251, 244, 200, 153, 111, 185, 36, 39, 174, 65, 228, 100, 155, 147, 76, 164, 149, 153, 27, 120, 82, 184, 85]⟩
end Go.AL
/- What the sums of pairs and lists answer, in the program and in the document. -/
set_option linter.unusedVariables false
namespace Go.AL
open Go Go.Proofs Go.RowKit

def fourS (n : Int) : ByteArray := strT [.int .u8 (IntKind.u8.wrap (n / 2 ^ 24)), .int .u8 (IntKind.u8.wrap (n / 2 ^ 16)), .int .u8 (IntKind.u8.wrap (n / 2 ^ 8)), .int .u8 (IntKind.u8.wrap n)]
theorem strT_size (es : List T) : (strT es).size = es.length := by
  unfold strT strOfNums
  rw [ByteArray.size, List.size_toArray, List.length_map, List.length_map]
def shortS (s : ByteArray) : ByteArray := (sha s).extract 0 16
theorem shortS_size (s : ByteArray) : (shortS s).size = 16 := by unfold shortS; rw [ByteArray.size_extract, sha_size]; omega
set_option maxHeartbeats 1000000 in
theorem Short_spec (s : ByteArray) (hs : s.size ≤ 40000000) : Spec Try.prog 29 [.t (.str s)] [] (.t (.str (shortS s))) [] := by
  have hS := Sum_spec s hs
  have hz := sha_size s
  unfold shortS
  generalize sha s = Y at hS hz ⊢
  refine spec_intro (env0 := [(0, _)]) (st0 := []) Try.func29 rfl rfl rfl rfl ?_
  repeat' (first | (with_reducible refine codeT_seq ?_) | (with_reducible refine codeT_ret ?_) | (with_reducible refine codeT_regionL ?_) | (with_reducible refine lx_nil ?_) | (with_reducible refine q_then ?_) | ((with_reducible refine g_move ?_); first | refine lx_move (r := (.t _)) rfl rfl rfl rfl rfl ?_) | ((with_reducible refine g_assign ?_); first | refine lx_assign (r := (.t _)) rfl rfl rfl rfl rfl ?_) | ((with_reducible refine g_slice ?_); first | refine lx_slice_str rfl rfl rfl ⟨_, rfl⟩ rfl rfl rfl ?_ ?_ ?_ ?_) | ((with_reducible refine g_call ?_); first | refine lx_callT rfl rfl hS rfl rfl (ArgsLE.refl _) rfl rfl rfl rfl rfl ?_))
  all_goals try omega
  exact q_ret (resT_oneE rfl rfl rfl) (by simp)
def pairS (a b : ByteArray) : ByteArray := ⟨#[1]⟩ ++ fourS a.size ++ a ++ fourS b.size ++ b
def listPre (l : List ByteArray) (j : Nat) : ByteArray := (l.take j).foldl (fun s x => s ++ (fourS x.size ++ x)) (⟨#[2]⟩ ++ fourS l.length)
def listS (l : List ByteArray) : ByteArray := listPre l l.length
theorem bytesT_append (a b : ByteArray) : bytesT (a ++ b) = bytesT a ++ bytesT b := by
  unfold bytesT
  rw [ByteArray.data_append, Array.toList_append, List.map_append]
end Go.AL
/- That the laws HashPads, HashLong and HashLists are true, as contracts. -/
set_option linter.unusedVariables false
namespace Go.AL
open Go Go.Proofs Go.RowKit

def sumL (l : List ByteArray) : Nat := (l.map ByteArray.size).sum
end Go.AL
