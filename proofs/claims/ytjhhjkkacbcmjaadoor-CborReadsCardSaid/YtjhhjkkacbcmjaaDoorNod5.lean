/- That the sanity check of the laws on nodes is true. -/
import Derived.Test.YtjhhjkkacbcmjaaDoorNod4
import Derived.Test.YtjhhjkkacbcmjaaDoorAl3
import Derived.Test.YtjhhjkkacbcmjaaDoorNod2
import Derived.Test.YtjhhjkkacbcmjaaDoorNod1
import Derived.Lib.LaidU8T
set_option linter.unusedVariables false
namespace Go.AL
open Go Go.Proofs Go.RowKit

theorem Map_rows (ns : List ByteArray) (is : List Nd) (h : (Nd.mk 5 false 0 eS ns is).Ok) : Spec Tryd.prog 49 [.row (.par 0), .row (.par 1)] [(.par 0, .slt 9 1 (ns.map .str)), (.par 1, .slt 26 6 (is.map Nd.toT))] (.t (Nd.mk 5 false 0 eS ns is).toT) [] :=
  Spec.freeze (id := .par 0) (Spec.freeze (id := .par 1) (Map_spec ns is h) rfl rfl rfl) rfl rfl rfl
theorem List_rows (is : List Nd) (h : (Nd.mk 4 false 0 eS [] is).Ok) : Spec Tryd.prog 15 [.row (.par 0)] [(.par 0, .slt 26 6 (is.map Nd.toT))] (.t (Nd.mk 4 false 0 eS [] is).toT) [] :=
  Spec.freeze (id := .par 0) (List_spec is h) rfl rfl rfl
def aS : ByteArray := ⟨#[97]⟩
def bS : ByteArray := ⟨#[98]⟩
def Nd.ofNum (n : Int) : Nd := .mk 2 false n eS [] []
def awM : Nd := .mk 5 false 0 eS [aS, bS] [Nd.ofNum 1, Nd.ofText xS]
def awX : Nd := .mk 5 false 0 eS [aS, bS] [Nd.ofNum 2, Nd.ofText xS]
theorem ofNum_ok (n : Int) : (Nd.ofNum n).Ok := .mk (by simp) (by simp) (by simp)
theorem ofText_ok (s : ByteArray) : (Nd.ofText s).Ok := .mk (by simp) (by simp) (by simp)
theorem awM_ok : awM.Ok := .mk (by simp) (by simp) (by
  intro x hx
  simp only [List.mem_cons, List.not_mem_nil, or_false] at hx
  rcases hx with rfl | rfl
  · exact ofNum_ok _
  · exact ofText_ok _)
theorem ofNum_valid {V : ByteArray → Bool} (hV : VOk V) (n e : Int) (he : 1 ≤ e) : (Nd.ofNum n).validB V e = true := by
  rw [Nd.ofNum, valid_mk]
  exact ⟨he, by decide, by decide, by simp [Nd.fieldsOK, eS], text_empty hV, by simp, by simp, by simp⟩
theorem ofText_valid {V : ByteArray → Bool} (s : ByteArray) (hs : textB V s = true) (e : Int) (he : 1 ≤ e) : (Nd.ofText s).validB V e = true := by
  rw [Nd.ofText, valid_mk]
  exact ⟨he, by decide, by decide, by simp [Nd.fieldsOK], hs, by simp, by simp, by simp⟩
theorem text_asc {V : ByteArray → Bool} (hV : VOk V) (s : ByteArray) (h1 : (s.size : Int) ≤ 65536) (h2 : ∀ b ∈ s.data.toList, b.toNat < 128) : textB V s = true := by
  unfold textB; rw [hV.asc s h2]; simp [h1]
theorem awM_valid {V : ByteArray → Bool} (hV : VOk V) : awM.validB V 8 = true := by
  rw [awM, valid_mk]
  refine ⟨by decide, by decide, by decide, by simp [Nd.fieldsOK, eS], text_empty hV, by simp, fun _ => ⟨?_, rfl⟩, ?_⟩
  · rw [namesOk_iff]
    refine ⟨by decide, fun s hs => ⟨by simp, ?_⟩⟩
    simp only [List.mem_cons, List.not_mem_nil, or_false] at hs
    rcases hs with rfl | rfl <;> exact text_asc hV _ (by decide) (by decide)
  · intro x hx
    simp only [List.mem_cons, List.not_mem_nil, or_false] at hx
    rcases hx with rfl | rfl
    · exact ofNum_valid hV _ _ (by decide)
    · exact ofText_valid _ (text_asc hV _ (by decide) (by decide)) _ (by decide)
theorem aw_put {V : ByteArray → Bool} (hV : VOk V) : awM.put V aS (Nd.ofNum 2) = (awX, 0) := by
  rw [put_ok rfl (awM_valid hV) (ofNum_valid hV _ _ (by decide)) (text_asc hV _ (by decide) (by decide)) (by decide)]
  rfl
set_option maxHeartbeats 4000000 in
theorem awake_spec {oF oA : Obj} {V : ByteArray → Bool} (hS : VSpec oF oA V) (hV : VOk V) : Spec Tryd.prog 17 [] [(.par 100, .dat (.fix 0 oF)), (.par 101, .dat (.fix 1 oA))] (.t (.bool true)) [(.par 100, .dat (.fix 0 oF)), (.par 101, .dat (.fix 1 oA))] := by
  have hm := Map_rows [aS, bS] [Nd.ofNum 1, Nd.ofText xS] awM_ok
  have n1 : Spec Tryd.prog 31 [.t (.int .i64 1)] [] (.t (Nd.ofNum 1).toT) [] := Number_spec 1
  have n2 : Spec Tryd.prog 31 [.t (.int .i64 2)] [] (.t (Nd.ofNum 2).toT) [] := Number_spec 2
  have t1 : Spec Tryd.prog 30 [.t (.str xS)] [] (.t (Nd.ofText xS).toT) [] := Text_spec xS
  have hp := put_spec hS awM awM_ok aS (Nd.ofNum 2) (ofNum_ok 2)
  have hval := Valid_spec hS awM awM_ok
  rw [awM_valid hV] at hval
  rw [aw_put hV] at hp
  simp only at hp
  have eM : (Nd.mk 5 false 0 eS [aS, bS] [Nd.ofNum 1, Nd.ofText xS]).toT = awM.toT := rfl
  rw [eM] at hm
  simp only [awM, awX, Nd.ofNum, Nd.ofText, Nd.toT_eq, List.map_cons, List.map_nil] at hm n1 n2 t1 hp hval
  refine spec_intro (env0 := []) (st0 := [(_, some _), (_, some _)]) Tryd.func17 rfl rfl rfl rfl ?_
  repeat' (first | (with_reducible refine codeT_seq ?_) | (with_reducible refine codeT_ret ?_) | (with_reducible refine codeT_regionL ?_) | ((with_reducible refine codeT_region_drawL ?_ ?_); · rfl) | (with_reducible refine lx_nil ?_) | (with_reducible refine q_then ?_) | ((with_reducible refine q_region_draw ?_ ?_); · rfl) | ((with_reducible refine g_move ?_); first | refine lx_move (r := (.t _)) rfl rfl rfl rfl rfl ?_ | refine lx_move (r := (.tup _)) rfl rfl rfl rfl rfl ?_) | ((with_reducible refine g_load ?_); first | refine lx_load_var rfl rfl rfl rfl rfl rfl rfl rfl ?_ | refine lx_load_varA (r := (.t (.agg _))) rfl rfl rfl rfl rfl rfl rfl rfl rfl ?_ | refine lx_load_tp rfl rfl rfl rfl rfl rfl rfl ?_) | ((with_reducible refine g_fieldAddr ?_); first | refine lx_fieldAddr rfl rfl rfl rfl rfl rfl rfl ?_ | refine lx_fieldAddr_tp rfl rfl rfl rfl rfl rfl rfl ?_) | ((with_reducible refine g_binOp ?_); first | refine lx_arith rfl rfl rfl rfl rfl rfl rfl ?_ | refine lx_str_eq rfl rfl rfl rfl rfl rfl ?_) | ((with_reducible refine g_assign ?_); first | refine lx_assign (r := (.t _)) rfl rfl rfl rfl rfl ?_) | ((with_reducible refine g_pick ?_); first | refine lx_pickT (r := (.t _)) rfl rfl rfl rfl rfl rfl ?_) | ((with_reducible refine g_alloc ?_); first | refine lx_alloc rfl rfl rfl rfl rfl rfl rfl ?_) | ((with_reducible refine g_store ?_); first | refine lx_store_var (r := (.t (.agg _))) rfl rfl rfl rfl rfl rfl rfl rfl rfl rfl ?_) | ((with_reducible refine g_indexAddr ?_); first | refine lx_indexAddr_sl rfl rfl rfl rfl rfl rfl ?_ ?_ ?_) | ((with_reducible refine g_extract ?_); first | refine lx_extract rfl rfl rfl rfl rfl rfl ?_) | ((with_reducible refine g_buildSlice ?_); first | refine lx_buildSlice rfl rfl rfl rfl rfl rfl rfl ?_) | ((with_reducible refine g_len ?_); first | refine lx_len_sl rfl rfl rfl rfl rfl ?_) | ((with_reducible refine g_call ?_); first | refine lx_callT rfl rfl n1 rfl rfl (ArgsLE.refl _) rfl rfl rfl rfl rfl ?_ | refine lx_callT rfl rfl n2 rfl rfl (ArgsLE.refl _) rfl rfl rfl rfl rfl ?_ | refine lx_callT rfl rfl t1 rfl rfl (ArgsLE.refl _) rfl rfl rfl rfl rfl ?_ | refine lx_call (r' := .t (.agg [_, _, _, _, _, _])) [(.par 0, .loc 4), (.par 1, .loc 7)] rfl rfl hm (ArgsLE.refl _) rfl ⟨rfl, rfl, trivial⟩ rfl rfl rfl rfl rfl rfl rfl rfl rfl rfl ?_ | refine lx_call (r' := .tup [_, _]) [] rfl rfl hp (ArgsLE.refl _) rfl ⟨rfl, rfl, trivial⟩ rfl rfl rfl rfl rfl rfl rfl rfl rfl rfl ?_ | refine lx_call (r' := .t (.bool true)) [] rfl rfl hval (ArgsLE.refl _) rfl ⟨rfl, rfl, trivial⟩ rfl rfl rfl rfl rfl rfl rfl rfl rfl rfl ?_))
  all_goals try (first | decide | (simp; done))
  exact q_ret (resT_oneE rfl rfl rfl) (stHas_spec ⟨rfl, rfl, trivial⟩)
end Go.AL
/- That the law NodeDeep is true, as a contract. -/
set_option linter.unusedVariables false
namespace Go.AL
open Go Go.Proofs Go.RowKit

def nest : Nat → Nd
  | 0 => Nd.zero
  | k + 1 => .mk 4 false 0 eS [] [nest k]
theorem nest_ok : ∀ k, (nest k).Ok
  | 0 => .mk (by simp) (by simp) (by simp)
  | k + 1 => .mk (by simp) (by simp) (by simpa using nest_ok k)
theorem nest_valid {V : ByteArray → Bool} (hV : VOk V) : ∀ (k : Nat) (e : Int), 0 ≤ e → (nest k).validB V e = decide ((k : Int) < e)
  | 0, e, he => by
    by_cases h : 1 ≤ e
    · rw [show nest 0 = Nd.zero from rfl, zero_valid hV e h]; simp; omega
    · have : ¬ (nest 0).validB V e = true := fun hv => h ((valid_mk V _ _ _ _ _ _ _).1 hv).1
      simp only [Bool.not_eq_true] at this
      rw [this]; simp; omega
  | k + 1, e, he => by
    by_cases h : 1 ≤ e
    · have ih := nest_valid hV k (e - 1) (by omega)
      by_cases h2 : (k : Int) < e - 1
      · have : (nest (k + 1)).validB V e = true := by
          rw [nest, valid_mk]
          exact ⟨h, by decide, by decide, by simp [Nd.fieldsOK, eS], text_empty hV, by simp, by simp, by simpa [ih] using h2⟩
        rw [this]; simp; omega
      · have : ¬ (nest (k + 1)).validB V e = true := fun hv => by
          rw [nest, valid_mk] at hv
          have := hv.2.2.2.2.2.2.2 (nest k) (by simp)
          rw [ih] at this
          exact h2 (by simpa using this)
        simp only [Bool.not_eq_true] at this
        rw [this]; simp; omega
    · have : ¬ (nest (k + 1)).validB V e = true := fun hv => h ((valid_mk V _ _ _ _ _ _ _).1 hv).1
      simp only [Bool.not_eq_true] at this
      rw [this]; simp; omega
def flat (n : Nat) : Nd := .mk 4 false 0 eS [] (List.replicate n Nd.zero)
theorem flat_ok (n : Nat) (h : n ≤ 1000) : (flat n).Ok := .mk (by simp) (by simp; omega) (by
  intro x hx
  rw [List.eq_of_mem_replicate hx]
  exact nest_ok 0)
theorem flat_valid {V : ByteArray → Bool} (hV : VOk V) (n : Nat) : (flat n).validB V 8 = decide ((n : Int) ≤ 256) := by
  by_cases h : (n : Int) ≤ 256
  · have : (flat n).validB V 8 = true := by
      rw [flat, valid_mk]
      refine ⟨by decide, by decide, by decide, by simp [Nd.fieldsOK, eS], text_empty hV, by simpa using h, by simp, fun x hx => ?_⟩
      rw [List.eq_of_mem_replicate hx]
      exact zero_valid hV _ (by decide)
    rw [this]; simp [h]
  · have : ¬ (flat n).validB V 8 = true := fun hv => by
      rw [flat, valid_mk] at hv
      exact h (by simpa using hv.2.2.2.2.2.1)
    simp only [Bool.not_eq_true] at this
    rw [this]; simp [h]
theorem zeros_le (n : Nat) : TLs (List.replicate n (T.agg [.int .i64 0, .bool false, .int .i64 0, .str ⟨#[]⟩, .nilsl, .nilsl])) ((List.replicate n Nd.zero).map Nd.toT) := by
  induction n with
  | zero => exact .nil
  | succ n ih =>
    rw [List.replicate_succ, List.replicate_succ, List.map_cons]
    refine .cons ?_ ih
    rw [zero_toT]
    exact (by repeat first | exact TLe.refl _ | exact TLe.nil _ | exact TLe.esl _ | refine TLe.agg ?_ | refine TLs.cons ?_ ?_ | exact TLs.nil)
theorem List_zeros (n : Nat) (h : n ≤ 1000) : Spec Tryd.prog 15 [.row (.par 0)] [(.par 0, .slt 26 6 (List.replicate n (T.agg [.int .i64 0, .bool false, .int .i64 0, .str ⟨#[]⟩, .nilsl, .nilsl])))] (.t (flat n).toT) [] :=
  Spec.rowLE (RowLE.slt (zeros_le n)) (List_rows (List.replicate n Nd.zero) (flat_ok n h))
set_option maxHeartbeats 8000000 in
theorem NodeDeep_spec {oF oA : Obj} {V : ByteArray → Bool} (hS : VSpec oF oA V) (hV : VOk V) (dp it : Int) (h1 : 0 ≤ dp ∧ dp < 65536) (h2 : 0 ≤ it ∧ it < 65536) : Spec Tryd.prog 3 [.t (.int .u16 dp), .t (.int .u16 it)] [(.par 100, .dat (.fix 0 oF)), (.par 101, .dat (.fix 1 oA))] (.t (.bool true)) [(.par 100, .dat (.fix 0 oF)), (.par 101, .dat (.fix 1 oA))] := by
  have ha := awake_spec hS hV
  have q1 : dp.tmod 12 = dp % 12 := Int.tmod_eq_emod_of_nonneg (by omega)
  have q2 : it.tmod 4 = it % 4 := Int.tmod_eq_emod_of_nonneg (by omega)
  refine spec_intro (env0 := [(0, _), (1, _)]) (st0 := [(_, some _), (_, some _)]) Tryd.func3 rfl rfl rfl rfl ?_
  repeat' (first | (with_reducible refine codeT_seq ?_) | (with_reducible refine codeT_block ?_) | (with_reducible refine codeT_regionL ?_) | (with_reducible refine lx_nil ?_) | (with_reducible refine q_then ?_) | ((with_reducible refine g_move ?_); first | refine lx_move (r := (.t _)) rfl rfl rfl rfl rfl ?_) | ((with_reducible refine g_binOp ?_); first | refine lx_rem rfl rfl rfl rfl rfl rfl (by decide) ?_) | ((with_reducible refine g_assign ?_); first | refine lx_assign (r := (.t _)) rfl rfl rfl rfl rfl ?_) | ((with_reducible refine g_alloc ?_); first | refine lx_alloc rfl rfl rfl rfl rfl rfl rfl ?_) | ((with_reducible refine g_store ?_); first | refine lx_store_var (r := (.t (.agg _))) rfl rfl rfl rfl rfl rfl rfl rfl rfl rfl ?_) | ((with_reducible refine g_build ?_); first | refine lx_build (r := (.t (.agg _))) rfl rfl rfl rfl rfl rfl rfl ?_))
  refine codeT_ghost (ghost_keep2 [0, 1, 4, 5, 9, 10] [.loc 5, .par 100, .par 101] rfl (st' := [(.loc 5, some (.var 26 (([.int .i64 0, .bool false, .int .i64 0, .str ⟨#[]⟩, .nilsl, .nilsl] : List T).map .t))), (.par 100, some (.dat (.fix 0 oF))), (.par 101, some (.dat (.fix 1 oA)))]) rfl) ?_
  refine codeT_ghost (ghost_rowL (id := .loc 5) (r' := .var 26 (([.int .i64 0, .bool false, .int .i64 0, .str ⟨#[]⟩, .sl 1 [], .sl 6 []] : List T).map .t)) rfl (RowLE.var (AVLs.ofT (by repeat first | exact TLe.refl _ | exact TLe.nil _ | exact TLe.esl _ | refine TLe.agg ?_ | refine TLs.cons ?_ ?_ | exact TLs.nil))) rfl) ?_
  refine codeT_ghost (ghost_keep2 [0, 1, 4, 5, 9, 10] [.loc 5, .par 100, .par 101] rfl rfl) ?_
  refine codeT_loop (fun m env st => ∃ (j : Nat), (j : Int) ≤ dp % 12 ∧ m = (dp % 12).toNat - j ∧
      env = EnvL.get [(0, .t (.int .u16 dp)), (1, .t (.int .u16 it)), (4, .t (.bool false)), (5, .ref (.loc 5) 0 0 0), (9, .t (.int .u16 (dp % 12))), (10, .t (.int .u16 (j : Int)))] ∧
      st = StO.get [(.loc 5, some (.var 26 [.t (.int .i64 (nest j).kind), .t (.bool (nest j).bool), .t (.int .i64 (nest j).num), .t (.str (nest j).text), .t (.sl 1 ((nest j).names.map .str)), .t (.sl 6 ((nest j).items.map Nd.toT))])), (.par 100, some (.dat (.fix 0 oF))), (.par 101, some (.dat (.fix 1 oA)))])
    ?_ (n := (dp % 12).toNat) ⟨0, by omega, by omega, by rw [q1]; rfl, rfl⟩
  rintro m env st ⟨j, hj, rfl, rfl, rfl⟩
  have hL := List_rows [nest j] (nest_ok (j + 1))
  have eL : (Nd.mk 4 false 0 eS [] [nest j]).toT = (nest (j + 1)).toT := rfl
  rw [eL, (nest (j + 1)).toT_full, List.map_singleton, (nest j).toT_full] at hL
  have eN : (IntKind.i64.wrap (254 + IntKind.i64.wrap (it.tmod 4))).toNat = (254 + it % 4).toNat := by
    rw [q2, wrap64 (n := it % 4) (by omega) (by omega), wrap64 (by omega) (by omega)]
  have hZ := List_zeros (IntKind.i64.wrap (254 + IntKind.i64.wrap (it.tmod 4))).toNat (by rw [eN]; omega)
  have hval := Valid_spec hS (nest j) (nest_ok j)
  rw [(nest j).toT_full, nest_valid hV j 8 (by omega)] at hval
  have hval2 := Valid_spec hS (flat (IntKind.i64.wrap (254 + IntKind.i64.wrap (it.tmod 4))).toNat) (flat_ok _ (by rw [eN]; omega))
  rw [flat_valid hV, (flat (IntKind.i64.wrap (254 + IntKind.i64.wrap (it.tmod 4))).toNat).toT_full] at hval2
  rw [(flat (IntKind.i64.wrap (254 + IntKind.i64.wrap (it.tmod 4))).toNat).toT_full] at hZ
  generalize hyn : nest (j + 1) = y at *
  generalize hxn : nest j = x at *
  generalize flat (IntKind.i64.wrap (254 + IntKind.i64.wrap (it.tmod 4))).toNat = z at *
  by_cases hlt : (j : Int) < dp % 12
  · clear hval hval2 hZ
    repeat' (first | (with_reducible refine codeT_seq ?_) | (with_reducible refine codeT_block ?_) | (with_reducible refine codeT_skip ?_) | (with_reducible refine codeT_exit ?_) | (with_reducible refine codeT_regionL ?_) | (with_reducible refine lx_nil ?_) | (with_reducible refine q_then ?_) | (with_reducible refine q_then_exit ?_) | (with_reducible refine q_block ?_) | ((with_reducible refine q_block_same ?_ ?_); · rfl) | (with_reducible refine q_loop_exit ?_) | ((with_reducible refine g_move ?_); first | refine lx_move (r := (.t _)) rfl rfl rfl rfl rfl ?_) | ((with_reducible refine g_load ?_); first | refine lx_load_varA (r := (.t (.agg _))) rfl rfl rfl rfl rfl rfl rfl rfl rfl ?_) | ((with_reducible refine g_binOp ?_); first | refine lx_arith rfl rfl rfl rfl rfl rfl rfl ?_ | refine lx_rem rfl rfl rfl rfl rfl rfl (by decide) ?_) | ((with_reducible refine g_store ?_); first | refine lx_store_var (r := (.t (.agg _))) rfl rfl rfl rfl rfl rfl rfl rfl rfl rfl ?_) | ((with_reducible refine g_convert ?_); first | refine lx_conv_int rfl rfl rfl rfl rfl ?_) | ((with_reducible refine g_buildSlice ?_); first | refine lx_buildSlice rfl rfl rfl rfl rfl rfl rfl ?_) | ((with_reducible refine g_makeSlice ?_); first | refine lx_makeSlice (zT := .agg [_, _, _, _, _, _]) rfl rfl rfl rfl rfl rfl rfl rfl rfl ?_ ?_ ?_ ?_ ?_) | ((with_reducible refine g_call ?_); first | refine lx_call (r' := .t (.agg [_, _, _, _, _, _])) [(.par 0, .loc 13)] rfl rfl hL (ArgsLE.refl _) rfl ⟨rfl, trivial⟩ rfl rfl rfl rfl rfl rfl rfl rfl rfl rfl ?_) | refine c_condP rfl (fun hc => ?_) (fun hc => ?_))
    all_goals try (exfalso; omega)
    refine q_loop (n' := (dp % 12).toNat - (j + 1)) (by omega) (ghost_keep2 [0, 1, 4, 5, 9, 10] [.loc 5, .par 100, .par 101] rfl rfl) ⟨j + 1, by omega, rfl, ?_, ?_⟩
    · have : IntKind.u16.wrap ((j : Int) + 1) = ((j + 1 : Nat) : Int) := by
        simp only [IntKind.wrap, IntKind.signed, IntKind.bits]; simp; omega
      rw [this]; rfl
    · rw [show nest (j + 1) = y from hyn]; rfl
  · clear hL
    have hje : dp.tmod 12 = (j : Int) := by omega
    have hb1 : decide (dp.tmod 12 < 8) = decide ((j : Int) < 8) := by rw [hje]
    have hb2 : decide (it.tmod 4 ≤ 2) = decide ((((IntKind.i64.wrap (254 + IntKind.i64.wrap (it.tmod 4))).toNat : Nat) : Int) ≤ 256) := by
      rw [eN, q2]
      exact decide_eq_decide.2 ⟨fun h => by omega, fun h => by omega⟩
    have hN0 : 0 ≤ IntKind.i64.wrap (254 + IntKind.i64.wrap (it.tmod 4)) ∧ IntKind.i64.wrap (254 + IntKind.i64.wrap (it.tmod 4)) ≤ 1000 := by
      rw [q2, wrap64 (n := it % 4) (by omega) (by omega), wrap64 (by omega) (by omega)]; omega
    rw [← hb1] at hval
    rw [← hb2] at hval2
    generalize hv1 : decide (dp.tmod 12 < 8) = v1 at hval
    repeat' (first | (with_reducible refine codeT_seq ?_) | (with_reducible refine codeT_block ?_) | (with_reducible refine codeT_skip ?_) | (with_reducible refine codeT_ret ?_) | (with_reducible refine codeT_exit ?_) | (with_reducible refine codeT_regionL ?_) | (with_reducible refine lx_nil ?_) | (with_reducible refine q_then ?_) | (with_reducible refine q_then_exit ?_) | ((with_reducible refine q_block_same ?_ ?_); · rfl) | (with_reducible refine q_loop_exit ?_) | ((with_reducible refine g_guard ?_); first | refine lx_skip rfl rfl rfl ?_) | ((with_reducible refine g_move ?_); first | refine lx_move (r := (.t _)) rfl rfl rfl rfl rfl ?_) | ((with_reducible refine g_load ?_); first | refine lx_load_varA (r := (.t (.agg _))) rfl rfl rfl rfl rfl rfl rfl rfl rfl ?_) | ((with_reducible refine g_binOp ?_); first | refine lx_arith rfl rfl rfl rfl rfl rfl rfl ?_ | refine lx_bool_eq rfl rfl rfl rfl rfl rfl ?_ | refine lx_rem rfl rfl rfl rfl rfl rfl (by decide) ?_) | ((with_reducible refine g_assign ?_); first | refine lx_assign (r := (.t _)) rfl rfl rfl rfl rfl ?_) | ((with_reducible refine g_pick ?_); first | refine lx_pickT (r := (.t _)) rfl rfl rfl rfl rfl rfl ?_ | refine lx_pickF (r := (.t _)) rfl rfl rfl rfl rfl rfl ?_) | ((with_reducible refine g_alloc ?_); first | refine lx_alloc rfl rfl rfl rfl rfl rfl rfl ?_) | ((with_reducible refine g_store ?_); first | refine lx_store_var (r := (.t (.agg _))) rfl rfl rfl rfl rfl rfl rfl rfl rfl rfl ?_) | ((with_reducible refine g_convert ?_); first | refine lx_conv_int rfl rfl rfl rfl rfl ?_) | ((with_reducible refine g_buildSlice ?_); first | refine lx_buildSlice rfl rfl rfl rfl rfl rfl rfl ?_) | ((with_reducible refine g_makeSlice ?_); first | refine lx_makeSlice (zT := .agg [_, _, _, _, _, _]) rfl rfl rfl rfl rfl rfl rfl rfl rfl ?_ ?_ ?_ ?_ ?_) | ((with_reducible refine g_call ?_); first | refine lx_call (r' := .t (.agg [_, _, _, _, _, _])) [(.par 0, .loc 20)] rfl rfl hZ (ArgsLE.refl _) rfl ⟨rfl, trivial⟩ rfl rfl rfl rfl rfl rfl rfl rfl rfl rfl ?_ | refine lx_call (r' := .t (.bool _)) [] rfl rfl hval (ArgsLE.refl _) rfl ⟨rfl, rfl, trivial⟩ rfl rfl rfl rfl rfl rfl rfl rfl rfl rfl ?_ | refine lx_call (r' := .t (.bool _)) [] rfl rfl hval2 (ArgsLE.refl _) rfl ⟨rfl, rfl, trivial⟩ rfl rfl rfl rfl rfl rfl rfl rfl rfl rfl ?_ | refine lx_call (r' := .t (.bool _)) [] rfl rfl ha (ArgsLE.refl _) rfl ⟨rfl, rfl, trivial⟩ rfl rfl rfl rfl rfl rfl rfl rfl rfl rfl ?_ | exact absurd ‹(j : Int) < dp % 12› hlt) | refine c_condP rfl (fun hc => ?_) (fun hc => ?_) | refine lx_splitP rfl (fun hc => ?_) (fun hc => ?_))
    all_goals try (exfalso; omega)
    all_goals try omega
    · exact q_ret (resT_oneE rfl rfl rfl) (stHas_spec ⟨rfl, rfl, trivial⟩)
    · exact absurd rfl hc
    · exact absurd hv1.symm hc
end Go.AL
/- What the laid tables of unicode/utf8 give: two blocks of bytes, over which ValidString may be called. -/
set_option linter.unusedVariables false
namespace Go.AL
open Go Go.Proofs Go.RowKit Go.Lib Go.Shelf

theorem trod_array_len {P : Program} {w : World} {t e : TypeId} {n fuel : Nat} {cs : List Value} {d : DataW Unit} {p : List MemPlace} (ht : P.underlying t = some (.array n e)) (h : DataW.trod (fun _ => ()) P w 0 (fun _ => true) false fuel t cs = some (d, p)) : cs.length = P.cellsOf t := by
  cases fuel with
  | zero => simp [DataW.trod] at h
  | succ fuel =>
    simp only [DataW.trod, ht] at h
    split at h
    · assumption
    · cases h
theorem tabs {W : World} (h3 : VarReads Tryd.prog W "unicode/utf8.first" Lib.firstData) (h4 : VarReads Tryd.prog W "unicode/utf8.acceptRanges" Lib.acceptData) :
    ∃ oF oA, W.heap[0]? = some oF ∧ W.heap[1]? = some oA ∧ TabU8 W ∧ ∀ w : World, w.heap[0]? = some oF → w.heap[1]? = some oA → Utf8Tabs 0 1 w := by
  have hu : Utf8Tabs 0 1 W := utf8Tabs_of_readsT (U8Types.of196 vLays) ⟨by kernel_rfl, by kernel_rfl, by kernel_rfl, by kernel_rfl, by kernel_rfl, by kernel_rfl, by kernel_rfl⟩ h3 h4
  obtain ⟨g, t, cs, fuel, p, hg, hty, hvar, hd⟩ := h3
  obtain rfl := Option.some.inj ((show Tryd.prog.globalNamed "unicode/utf8.first" = some 0 by kernel_rfl).symm.trans hg)
  obtain rfl := Option.some.inj ((show (Tryd.prog.globals[0]?).map (·.type) = some 127 by kernel_rfl).symm.trans hty)
  obtain ⟨g, t, ds, fuel', p', hg', hty', hvar', hd'⟩ := h4
  obtain rfl := Option.some.inj ((show Tryd.prog.globalNamed "unicode/utf8.acceptRanges" = some 1 by kernel_rfl).symm.trans hg')
  obtain rfl := Option.some.inj ((show (Tryd.prog.globals[1]?).map (·.type) = some 130 by kernel_rfl).symm.trans hty')
  have l1 := trod_array_len Tryd.underlying127 hd
  have l2 := trod_array_len Tryd.underlying130 hd'
  rw [show Tryd.prog.cellsOf 127 = 256 by kernel_rfl] at l1
  rw [show Tryd.prog.cellsOf 130 = 32 by kernel_rfl] at l2
  have c1 := fun i => World.var?_cell hg hvar i
  have c2 := fun i => World.var?_cell hg' hvar' i
  have o1 : ∃ oF, W.heap[0]? = some oF := by
    simp only [World.var?, hg, Option.bind_some] at hvar
    split at hvar
    · rename_i e; exact ⟨_, e⟩
    · cases hvar
  have o2 : ∃ oA, W.heap[1]? = some oA := by
    simp only [World.var?, hg', Option.bind_some] at hvar'
    split at hvar'
    · rename_i e; exact ⟨_, e⟩
    · cases hvar'
  obtain ⟨oF, hF⟩ := o1
  obtain ⟨oA, hA⟩ := o2
  refine ⟨oF, oA, hF, hA, ?_, fun w e0 e1 => ?_⟩
  · intro b hb o u h
    rw [hcell_heapOf] at h
    rcases hb with rfl | rfl
    · have : o < 256 := by
        rw [c1] at h
        have := (Array.getElem?_eq_some_iff.1 h).1
        simp only [Array.length_toList] at l1
        omega
      rw [hu.1 o this] at h
      exact ⟨_, (Option.some.inj h).symm⟩
    · have : o < 32 := by
        rw [c2] at h
        have := (Array.getElem?_eq_some_iff.1 h).1
        simp only [Array.length_toList] at l2
        omega
      have hp := hu.2 (o / 2) (by omega)
      by_cases he : o % 2 = 0
      · rw [show 2 * (o / 2) = o by omega] at hp
        rw [hp.1] at h
        exact ⟨_, (Option.some.inj h).symm⟩
      · rw [show 2 * (o / 2) + 1 = o by omega] at hp
        rw [hp.2] at h
        exact ⟨_, (Option.some.inj h).symm⟩
  · have k0 : ∀ c, w.cell? ⟨0, c, none⟩ = W.cell? ⟨0, c, none⟩ := fun c => by
      rw [← hcell_heapOf, ← hcell_heapOf]; simp only [hcell, heapOf, e0, hF]
    have k1 : ∀ c, w.cell? ⟨1, c, none⟩ = W.cell? ⟨1, c, none⟩ := fun c => by
      rw [← hcell_heapOf, ← hcell_heapOf]; simp only [hcell, heapOf, e1, hA]
    exact ⟨fun c hc => by rw [k0]; exact hu.1 c hc, fun i hi => by rw [k1, k1]; exact hu.2 i hi⟩
/-- What the test of texts is. -/
def vD (s : ByteArray) : Bool := validD s.data.toList
theorem vD_asc : ∀ (s : ByteArray), (∀ b ∈ s.data.toList, b.toNat < 128) → vD s = true := by
  intro s h
  unfold vD
  rw [validD_ascii s.data.toList.length _ (by rw [List.take_length]; exact h), List.drop_length]
  rfl
theorem check_more {n b1 b2 b3 sz lo hi k : Nat} (h : checkN n b1 b2 b3 sz lo hi = some k) {c1 c2 c3 : Nat} (e1 : 1 < n → c1 = b1) (e2 : 2 < n → c2 = b2) (e3 : 3 < n → c3 = b3) : checkN (n + 1) c1 c2 c3 sz lo hi = some k ∧ 1 ≤ k ∧ k ≤ n := by
  unfold checkN at h ⊢
  by_cases s2 : sz = 2
  · rw [if_pos s2] at h ⊢
    split at h
    · cases h
    · rename_i hc
      cases h
      have := e1 (by omega)
      subst this
      rw [if_neg (by omega)]
      exact ⟨rfl, by omega, by omega⟩
  · rw [if_neg s2] at h ⊢
    by_cases s3 : sz = 3
    · rw [if_pos s3] at h ⊢
      split at h
      · cases h
      · rename_i hc
        cases h
        have := e1 (by omega)
        have := e2 (by omega)
        subst c1; subst c2
        rw [if_neg (by omega)]
        exact ⟨rfl, by omega, by omega⟩
    · rw [if_neg s3] at h ⊢
      by_cases s4 : sz = 4
      · rw [if_pos s4] at h ⊢
        split at h
        · cases h
        · rename_i hc
          cases h
          have := e1 (by omega)
          have := e2 (by omega)
          have := e3 (by omega)
          subst c1; subst c2; subst c3
          rw [if_neg (by omega)]
          exact ⟨rfl, by omega, by omega⟩
      · rw [if_neg s4] at h; cases h
theorem valid_app (b : UInt8) (hb : b.toNat < 128) : ∀ (n : Nat) (l : List UInt8), l.length ≤ n → validD l = true → validD (l ++ [b]) = true
  | _, [], _, _ => by rw [List.nil_append, validD_cons b [] hb]; rfl
  | 0, c :: t, h, _ => by simp at h
  | n + 1, c :: t, h, hv => by
    by_cases hc : c.toNat < 128
    · rw [List.cons_append, validD_cons c _ hc]
      rw [validD_cons c _ hc] at hv
      exact valid_app b hb n t (by simpa using h) hv
    · have g0 : ((c :: t).getD 0 0) = c := rfl
      have g0' : (((c :: t) ++ [b]).getD 0 0) = c := rfl
      rw [validD_lead (c :: t) (by simp) (by rw [g0]; omega)] at hv
      rw [validD_lead ((c :: t) ++ [b]) (by simp) (by rw [g0']; omega), g0']
      rw [g0] at hv
      split at hv
      · cases hv
      · rename_i k hk
        have gi : ∀ i, i < (c :: t).length → (((c :: t) ++ [b]).getD i 0) = (c :: t).getD i 0 := fun i hi => by
          simp only [List.getD_eq_getElem?_getD, List.getElem?_append_left hi]
        obtain ⟨q1, q2, q3⟩ := check_more hk (c1 := (((c :: t) ++ [b]).getD 1 0).toNat) (c2 := (((c :: t) ++ [b]).getD 2 0).toNat) (c3 := (((c :: t) ++ [b]).getD 3 0).toNat) (fun h => by rw [gi 1 h]) (fun h => by rw [gi 2 h]) (fun h => by rw [gi 3 h])
        rw [show ((c :: t) ++ [b]).length = (c :: t).length + 1 by simp, q1]
        simp only
        rw [List.drop_append_of_le_length q3]
        exact valid_app b hb n _ (by rw [List.length_drop]; simp only [List.length_cons] at h q3 ⊢; omega) hv
theorem vD_ok : VOk vD where
  asc := vD_asc
  app := fun s h => by
    unfold vD at h ⊢
    rw [ByteArray.data_append, Array.toList_append]
    exact valid_app 120 (by decide) _ _ (Nat.le_refl _) h
  odd := by unfold vD; decide +kernel
theorem bd_u16 {n : Int} (h : (Lit.int .u16 n).wf = true) : 0 ≤ n ∧ n < 65536 := by
  simp [Lit.wf] at h
  have e1 : IntKind.u16.min = 0 := by decide
  have e2 : IntKind.u16.max = 65535 := by decide
  omega
theorem bd_i64 {n : Int} (h : (Lit.int .i64 n).wf = true) : -9223372036854775808 ≤ n ∧ n ≤ 9223372036854775807 := by
  simp [Lit.wf] at h
  have e1 : IntKind.i64.min = -9223372036854775808 := by decide
  have e2 : IntKind.i64.max = 9223372036854775807 := by decide
  omega
theorem bd_u64 {n : Int} (h : (Lit.int .u64 n).wf = true) : 0 ≤ n ∧ n < 18446744073709551616 := by
  simp [Lit.wf] at h
  have e1 : IntKind.u64.min = 0 := by decide
  have e2 : IntKind.u64.max = 18446744073709551615 := by decide
  omega
theorem noU8_ints (f : Int → T) (hf : ∀ n, (f n).noU8 = true) : ∀ l : List Int, T.noU8L (l.map f) = true
  | [] => rfl
  | x :: xs => by simp [T.noU8L, hf, noU8_ints f hf xs]
theorem noU8_int (l : List Int) : T.noU8 (.sl 1 (l.map (T.int .i64))) = true := by
  simp [T.noU8, noU8_ints (T.int .i64) (fun _ => rfl) l]
theorem noU8_strs : ∀ l : List ByteArray, T.noU8L (l.map .str) = true
  | [] => rfl
  | x :: xs => by simp [T.noU8L, T.noU8, noU8_strs xs]
theorem noU8_str (l : List ByteArray) : T.noU8 (.sl 1 (l.map .str)) = true := by
  simp [T.noU8, noU8_strs l]
mutual
theorem Nd.noU8 : ∀ x : Nd, x.toT.noU8 = true
  | .mk k b n t ns is => by simp [Nd.toT, T.noU8, T.noU8L, noU8_strs, Nd.noU8s is]
theorem Nd.noU8s : ∀ l : List Nd, T.noU8L (Nd.toTs l) = true
  | [] => rfl
  | x :: xs => by simp [Nd.toTs, T.noU8L, Nd.noU8 x, Nd.noU8s xs]
end
theorem RepT.int_any {h h' : Heap} {v : Value} {k : IntKind} {n : Int} (z : RepT h v (.int k n)) : RepT h' v (.int k n) := by simpa only [RepT] using z
theorem RepT.bool_any {h h' : Heap} {v : Value} {n : Bool} (z : RepT h v (.bool n)) : RepT h' v (.bool n) := by simpa only [RepT] using z
theorem RepT.str_any {h h' : Heap} {v : Value} {n : ByteArray} (z : RepT h v (.str n)) : RepT h' v (.str n) := by simpa only [RepT] using z
end Go.AL
