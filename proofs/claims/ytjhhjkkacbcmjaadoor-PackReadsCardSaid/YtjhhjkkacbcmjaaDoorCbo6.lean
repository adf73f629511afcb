/- What the document's read and text of the second serialisation answer. -/
import Derived.Test.YtjhhjkkacbcmjaaDoorCbo5
import Derived.Test.YtjhhjkkacbcmjaaDoorRed
import Derived.Test.YtjhhjkkacbcmjaaDoorAl3
set_option linter.unusedVariables false
namespace Go.AL
open Go Go.Proofs Go.RowKit

theorem fold_next (L : List UInt8) (j : Nat) (h : j < L.length) : u64Step ((L.take j).foldl u64Step 0) (L.getD j default) = (L.take (j + 1)).foldl u64Step 0 := by
  rw [List.take_add_one, List.getElem?_eq_getElem h, Option.toList_some, List.foldl_append]
  simp [List.getD_eq_getElem?_getD, h]
end Go.AL
/- What the document's text of the second serialisation answers. -/
set_option linter.unusedVariables false
namespace Go.AL
open Go Go.Proofs Go.RowKit

end Go.AL
/- What the document's value of the second serialisation answers. -/
set_option linter.unusedVariables false
namespace Go.AL
open Go Go.Proofs Go.RowKit

set_option maxHeartbeats 2000000 in
theorem rNumber_call (v : Int) : Spec Tryd.prog 84 [.t (.int .i64 v)] [] (.t (.agg [.int .i64 2, .bool false, .int .i64 v, .str ⟨#[]⟩, .sl 1 [], .sl 6 []])) [] := by
  refine spec_intro (env0 := [(0, _)]) (st0 := []) Tryd.func84 rfl rfl rfl rfl ?_
  repeat' (first | (with_reducible refine codeT_seq ?_) | (with_reducible refine codeT_ret ?_) | (with_reducible refine codeT_regionL ?_) | (with_reducible refine lx_nil ?_) | (with_reducible refine q_then ?_) | ((with_reducible refine g_move ?_); first | refine lx_move (r := (.t _)) rfl rfl rfl rfl rfl ?_) | ((with_reducible refine g_alloc ?_); first | refine lx_alloc rfl rfl rfl rfl rfl rfl rfl ?_) | ((with_reducible refine g_store ?_); first | refine lx_store_var (r := (.t (.agg _))) rfl rfl rfl rfl rfl rfl rfl rfl rfl rfl ?_) | ((with_reducible refine g_build ?_); first | refine lx_build (r := (.t (.agg _))) rfl rfl rfl rfl rfl rfl rfl ?_))
  refine q_ret ?_ (stHas_spec trivial); refine resT_cell rfl rfl rfl inferInstance rfl inferInstance rfl ?_; exact TLe.av (by repeat first | exact TLe.refl _ | exact TLe.nil _ | exact TLe.esl _ | refine TLe.agg ?_ | refine TLs.cons ?_ ?_ | exact TLs.nil)
set_option maxHeartbeats 2000000 in
theorem rTextN_call (t : ByteArray) : Spec Tryd.prog 86 [.t (.str t)] [] (.t (.agg [.int .i64 3, .bool false, .int .i64 0, .str t, .sl 1 [], .sl 6 []])) [] := by
  refine spec_intro (env0 := [(0, _)]) (st0 := []) Tryd.func86 rfl rfl rfl rfl ?_
  repeat' (first | (with_reducible refine codeT_seq ?_) | (with_reducible refine codeT_ret ?_) | (with_reducible refine codeT_regionL ?_) | (with_reducible refine lx_nil ?_) | (with_reducible refine q_then ?_) | ((with_reducible refine g_move ?_); first | refine lx_move (r := (.t _)) rfl rfl rfl rfl rfl ?_) | ((with_reducible refine g_alloc ?_); first | refine lx_alloc rfl rfl rfl rfl rfl rfl rfl ?_) | ((with_reducible refine g_store ?_); first | refine lx_store_var (r := (.t (.agg _))) rfl rfl rfl rfl rfl rfl rfl rfl rfl rfl ?_) | ((with_reducible refine g_build ?_); first | refine lx_build (r := (.t (.agg _))) rfl rfl rfl rfl rfl rfl rfl ?_))
  refine q_ret ?_ (stHas_spec trivial); refine resT_cell rfl rfl rfl inferInstance rfl inferInstance rfl ?_; exact TLe.av (by repeat first | exact TLe.refl _ | exact TLe.nil _ | exact TLe.esl _ | refine TLe.agg ?_ | refine TLs.cons ?_ ?_ | exact TLs.nil)
def ZT : T := .agg [.int .i64 0, .bool false, .int .i64 0, .str ⟨#[]⟩, .sl 1 [], .sl 6 []]
end Go.AL
