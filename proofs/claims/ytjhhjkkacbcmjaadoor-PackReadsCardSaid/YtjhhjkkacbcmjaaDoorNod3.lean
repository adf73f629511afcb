/- What node.Valid, node.Text, node.Number, node.List and node.Map answer. -/
import Derived.Test.YtjhhjkkacbcmjaaDoorNod2
import Derived.Test.YtjhhjkkacbcmjaaDoorTy
import Derived.Test.YtjhhjkkacbcmjaaDoorNod1
import Derived.Test.YtjhhjkkacbcmjaaDoorAl3
set_option linter.unusedVariables false
namespace Go.AL
open Go Go.Proofs Go.RowKit

set_option maxHeartbeats 1000000 in
theorem Valid_spec {oF oA : Obj} {V : ByteArray → Bool} (hV : VSpec oF oA V) (x : Nd) (hx : x.Ok) : Spec Tryd.prog 16 [.t x.toT] [(.par 100, .dat (.fix 0 oF)), (.par 101, .dat (.fix 1 oA))] (.t (.bool (x.validB V 8))) [(.par 100, .dat (.fix 0 oF)), (.par 101, .dat (.fix 1 oA))] := by
  have h := valid_spec hV x hx 8 (by omega) (by omega)
  generalize x.validB V 8 = v at h ⊢
  cases x with
  | mk k b n t ns is =>
  rw [Nd.toT_eq] at *
  refine spec_intro (env0 := [(0, _)]) (st0 := [(_, some _), (_, some _)]) Tryd.func16 rfl rfl rfl rfl ?_
  repeat' (first | (with_reducible refine codeT_seq ?_) | (with_reducible refine codeT_ret ?_) | (with_reducible refine codeT_regionL ?_) | (with_reducible refine lx_nil ?_) | (with_reducible refine q_then ?_) | ((with_reducible refine g_load ?_); first | refine lx_load_varA (r := (.t (.agg _))) rfl rfl rfl rfl rfl rfl rfl rfl rfl ?_) | ((with_reducible refine g_assign ?_); first | refine lx_assign (r := (.t _)) rfl rfl rfl rfl rfl ?_) | ((with_reducible refine g_box ?_); first | refine lx_box (r := (.t (.agg _))) (cs := (List.map .t _)) rfl rfl rfl rfl rfl rfl rfl rfl rfl ?_) | ((with_reducible refine g_call ?_); first | refine lx_call (r' := .t (.bool v)) [] rfl rfl h (ArgsLE.refl _) rfl ⟨rfl, rfl, trivial⟩ rfl rfl rfl rfl rfl rfl rfl rfl rfl rfl ?_))
  exact q_ret (resT_oneE rfl rfl rfl) (stHas_spec ⟨rfl, rfl, trivial⟩)

end Go.AL
/- What slices.Index and node.place answer. -/
set_option linter.unusedVariables false
namespace Go.AL
open Go Go.Proofs Go.RowKit

end Go.AL
/- What node.Get, node.Set and node.Put answer. -/
set_option linter.unusedVariables false
namespace Go.AL
open Go Go.Proofs Go.RowKit

theorem Spec.res {P : Program} {f : FuncId} {args : List AV} {S S' : StL} {r r' : T} (h : Spec P f args S (.t r) S') (e : r = r') : Spec P f args S (.t r') S' := e ▸ h
end Go.AL
/- What node.Own answers, with the rows that are the caller's own; what node.Set and node.Put answer. -/
set_option linter.unusedVariables false
namespace Go.AL
open Go Go.Proofs Go.RowKit

end Go.AL
/- What node.Set and node.Put answer. -/
set_option linter.unusedVariables false
namespace Go.AL
open Go Go.Proofs Go.RowKit

end Go.AL
/- What node.Put answers. -/
set_option linter.unusedVariables false
namespace Go.AL
open Go Go.Proofs Go.RowKit

theorem zero_toT : Nd.zero.toT = .agg [.int .i64 0, .bool false, .int .i64 0, .str ⟨#[]⟩, .sl 1 [], .sl 6 []] := Nd.toT_eq _ _ _ _ _ _

end Go.AL
/- What slices.Equal answers for texts, and slices.EqualFunc for nodes. -/
set_option linter.unusedVariables false
namespace Go.AL
open Go Go.Proofs Go.RowKit

theorem Nd.toT_full (x : Nd) : x.toT = .agg [.int .i64 x.kind, .bool x.bool, .int .i64 x.num, .str x.text, .sl 1 (x.names.map .str), .sl 6 (x.items.map Nd.toT)] := by
  cases x; exact Nd.toT_eq _ _ _ _ _ _
end Go.AL
/- What node.Texts and node.ReadTexts answer. -/
set_option linter.unusedVariables false
namespace Go.AL
open Go Go.Proofs Go.RowKit

def Nd.ofText (s : ByteArray) : Nd := .mk 3 false 0 s [] []
def Nd.ofTexts (l : List ByteArray) : Nd := .mk 4 false 0 eS [] (l.map Nd.ofText)
end Go.AL
/- What node.ReadTexts answers. -/
set_option linter.unusedVariables false
namespace Go.AL
open Go Go.Proofs Go.RowKit

def Nd.allText (l : List Nd) : Bool := l.all fun x => decide (x.kind = 3)
def Nd.readTexts (n : Nd) : List ByteArray × Bool := if n.kind = 4 ∧ Nd.allText n.items = true then (n.items.map Nd.text, true) else ([], false)
end Go.AL
