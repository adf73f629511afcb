/- What keeps the laws of the first serialisation awake; and that the law JsonWrites is true, as a contract. -/
import Derived.Test.YtmidabiehblekaaDoorJsc
import Derived.Test.YtmidabiehblekaaDoorJne
import Derived.Test.YtmidabiehblekaaDoorJnc
import Derived.Test.YtmidabiehblekaaDoorAl4
import Derived.Lib.ItoaNum
set_option linter.unusedVariables false
namespace Go.AL
open Go Go.Proofs Go.RowKit

def awJ : Nd := .mk 5 false 0 eS [aS, bS] [Nd.ofNum 1, .mk 4 false 0 eS [] [Nd.zero]]
theorem zeroN_ok : Nd.zero.Ok := .mk (by simp) (by simp) (by simp)
theorem zeroN_in : Nd.zero.In := .mk (by decide) (by decide) (by simp)
theorem awL_ok : (Nd.mk 4 false 0 eS [] [Nd.zero]).Ok := .mk (by simp) (by simp) (fun x hx => by rw [List.mem_singleton.1 hx]; exact zeroN_ok)
theorem awJ_ok : awJ.Ok := .mk (by simp) (by simp) (by
  intro x hx
  simp only [List.mem_cons, List.not_mem_nil, or_false] at hx
  rcases hx with rfl | rfl
  · exact ofNum_ok _
  · exact awL_ok)
theorem awJ_in : awJ.In := .mk (by decide) (by decide) (by
  intro x hx
  simp only [List.mem_cons, List.not_mem_nil, or_false] at hx
  rcases hx with rfl | rfl
  · exact .mk (by decide) (by decide) (by simp)
  · exact .mk (by decide) (by decide) (fun x hx => by rw [List.mem_singleton.1 hx]; exact zeroN_in))
theorem awJ_valid {V : ByteArray → Bool} (hV : VOk V) : awJ.validB V 8 = true := by
  rw [awJ, valid_mk]
  refine ⟨by decide, by decide, by decide, by simp [Nd.fieldsOK, eS], text_empty hV, by simp, fun _ => ⟨?_, rfl⟩, ?_⟩
  · rw [namesOk_iff]
    refine ⟨by decide, fun s hs => ⟨by simp, ?_⟩⟩
    simp only [List.mem_cons, List.not_mem_nil, or_false] at hs
    rcases hs with rfl | rfl <;> exact text_asc hV _ (by decide) (by decide)
  · intro x hx
    simp only [List.mem_cons, List.not_mem_nil, or_false] at hx
    rcases hx with rfl | rfl
    · exact ofNum_valid hV _ _ (by decide)
    · rw [valid_mk]
      exact ⟨by decide, by decide, by decide, by simp [Nd.fieldsOK, eS], text_empty hV, by simp, by simp, fun x hx => by rw [List.mem_singleton.1 hx]; exact zero_valid hV _ (by decide)⟩
theorem itoa_one : Lib.itoa 1 = [49] := by unfold Lib.itoa; rw [if_neg (by decide)]; exact Lib.decDigits_one (by decide)
theorem awJ_jb : awJ.jb = [123, 34, 97, 34, 58, 49, 44, 34, 98, 34, 58, 91, 110, 117, 108, 108, 93, 125] := by
  simp [awJ, Nd.jb, Nd.jbm, Nd.jbs, Nd.ofNum, Nd.zero, itoa_one, jNull, aS, bS]
  decide
set_option maxHeartbeats 4000000 in
theorem awake6_spec {oF oA oP : Obj} {V : ByteArray → Bool} (hS : VSpec oF oA V) (hPw : isTabOf .u64 Lib.pow10Tab oP) (hV : VOk V) : Spec Tryd.prog 9 [] [(.par 100, .dat (.fix 0 oF)), (.par 101, .dat (.fix 1 oA)), (.par 102, .dat (.fix 2 oP))] (.t (.bool true)) [(.par 100, .dat (.fix 0 oF)), (.par 101, .dat (.fix 1 oA)), (.par 102, .dat (.fix 2 oP))] := by
  have h1 := jEnc_spec hS hPw awJ awJ_ok awJ_in (fun _ => by rw [awJ_jb]; decide)
  have e1 : jEnc V awJ = (⟨#[123, 34, 97, 34, 58, 49, 44, 34, 98, 34, 58, 91, 110, 117, 108, 108, 93, 125]⟩, 0) := by
    unfold jEnc
    rw [if_pos (awJ_valid hV), if_neg (by rw [awJ_jb]; decide), awJ_jb]; rfl
  rw [e1] at h1
  have hT : awJ.toT = .agg [.int .i64 5, .bool false, .int .i64 0, .str eS, .sl 1 [.str aS, .str bS], .sl 6 [.agg [.int .i64 2, .bool false, .int .i64 1, .str eS, .sl 1 [], .sl 6 []], .agg [.int .i64 4, .bool false, .int .i64 0, .str eS, .sl 1 [], .sl 6 [.agg [.int .i64 0, .bool false, .int .i64 0, .str ⟨#[]⟩, .sl 1 [], .sl 6 []]]]]] := by
    simp [awJ, Nd.ofNum, Nd.zero, Nd.toT_eq]
  rw [hT] at h1
  have z0 : TLs [.agg [.int .i64 0, .bool false, .int .i64 0, .str ⟨#[]⟩, .nilsl, .nilsl]] [.agg [.int .i64 0, .bool false, .int .i64 0, .str ⟨#[]⟩, .sl 1 [], .sl 6 []]] := .cons (by repeat first | exact TLe.refl _ | exact TLe.slq _ _ | exact TLe.nil _ | exact TLe.esl _ | refine TLe.agg ?_ | refine TLs.cons ?_ ?_ | exact TLs.nil) .nil
  have hA1 : ArgsLE [.t (.agg [.int .i64 5, .bool false, .int .i64 0, .str ⟨#[]⟩, .sl 1 [.str ⟨#[97]⟩, .str ⟨#[98]⟩], .sl 6 [.agg [.int .i64 2, .bool false, .int .i64 1, .str ⟨#[]⟩, .nilsl, .nilsl], .agg [.int .i64 4, .bool false, .int .i64 0, .str ⟨#[]⟩, .nilsl, .sl 6 [.agg [.int .i64 0, .bool false, .int .i64 0, .str ⟨#[]⟩, .nilsl, .nilsl]]]]])]
     [.t (.agg [.int .i64 5, .bool false, .int .i64 0, .str eS, .sl 1 [.str aS, .str bS], .sl 6 [.agg [.int .i64 2, .bool false, .int .i64 1, .str eS, .sl 1 [], .sl 6 []], .agg [.int .i64 4, .bool false, .int .i64 0, .str eS, .sl 1 [], .sl 6 [.agg [.int .i64 0, .bool false, .int .i64 0, .str ⟨#[]⟩, .sl 1 [], .sl 6 []]]]]])] := by
    refine ArgsLE.t (.agg (.cons (.refl _) (.cons (.refl _) (.cons (.refl _) (.cons (.refl _) (.cons (.refl _) (.cons (.sl (.cons ?_ (.cons (.agg (.cons (.refl _) (.cons (.refl _) (.cons (.refl _) (.cons (.refl _) (.cons (.nil _) (.cons (.sl z0) .nil))))))) .nil))) .nil))))))) .nil
    exact (by repeat first | exact TLe.refl _ | exact TLe.slq _ _ | exact TLe.nil _ | exact TLe.esl _ | refine TLe.agg ?_ | refine TLs.cons ?_ ?_ | exact TLs.nil)
  refine spec_intro (env0 := []) (st0 := [(_, some _), (_, some _), (_, some _)]) Tryd.func9 rfl rfl rfl rfl ?_
  repeat' (first | (with_reducible refine codeT_seq ?_) | (with_reducible refine codeT_ret ?_) | (with_reducible refine codeT_regionL ?_) | (with_reducible refine lx_nil ?_) | (with_reducible refine q_then ?_) | refine lx_buildSliceF rfl rfl rfl rfl rfl rfl ?_ | ((with_reducible refine g_move ?_); first | refine lx_move (r := (.t _)) rfl rfl rfl rfl rfl ?_ | refine lx_move (r := (.tup _)) rfl rfl rfl rfl rfl ?_) | ((with_reducible refine g_binOp ?_); first | refine lx_arith rfl rfl rfl rfl rfl rfl rfl ?_ | refine lx_str_eq rfl rfl rfl rfl rfl rfl ?_) | ((with_reducible refine g_assign ?_); first | refine lx_assign (r := (.t _)) rfl rfl rfl rfl rfl ?_) | ((with_reducible refine g_pick ?_); first | refine lx_pickT (r := (.t _)) rfl rfl rfl rfl rfl rfl ?_) | ((with_reducible refine g_extract ?_); first | refine lx_extract rfl rfl rfl rfl rfl rfl ?_) | ((with_reducible refine g_build ?_); first | refine lx_build (r := (.t (.agg _))) rfl rfl rfl rfl rfl rfl rfl ?_) | ((with_reducible refine g_call ?_); first | refine lx_call (r' := .tup [.t (.str ⟨#[123, 34, 97, 34, 58, 49, 44, 34, 98, 34, 58, 91, 110, 117, 108, 108, 93, 125]⟩), .t (.int .i64 0)]) [] rfl rfl h1 hA1 rfl ⟨rfl, rfl, rfl, trivial⟩ rfl rfl rfl rfl rfl rfl rfl rfl rfl rfl ?_))
  all_goals try (first | decide | (simp; done))
  exact q_ret (resT_oneE rfl rfl rfl) (stHas_spec ⟨rfl, rfl, rfl, trivial⟩)
/-- What a law asks of a node that it writes. -/
structure EncJ (V : ByteArray → Bool) (x : Nd) : Prop where
  ok : x.Ok
  inn : x.In
  sz : x.validB V 8 = true → x.jb.length ≤ 49999999
end Go.AL
/- What the laws of this seat ask of their arguments and of the laid variables. -/
set_option linter.unusedVariables false
namespace Go.AL
open Go Go.Proofs Go.RowKit

mutual
theorem Nd.noG : ∀ x : Nd, x.toT.noG = true
  | .mk k b n t ns is => by simp [Nd.toT, T.noG, T.noGL, noG_strs, Nd.noGs is]
theorem Nd.noGs : ∀ l : List Nd, T.noGL (Nd.toTs l) = true
  | [] => rfl
  | x :: xs => by simp [Nd.toTs, T.noGL, Nd.noG x, Nd.noGs xs]
end
def powL : List Int := [1, 10, 100, 1000, 10000, 100000, 1000000, 10000000, 100000000, 1000000000, 10000000000, 100000000000, 1000000000000, 10000000000000, 100000000000000, 1000000000000000, 10000000000000000, 100000000000000000, 1000000000000000000, 10000000000000000000]
theorem powL_eq : powL = Lib.pow10Tab := by decide
theorem pow_ok {oP : Obj} (h : isTabOf .u64 powL oP) : isTabOf .u64 Lib.pow10Tab oP := by rw [← powL_eq]; exact h
end Go.AL
