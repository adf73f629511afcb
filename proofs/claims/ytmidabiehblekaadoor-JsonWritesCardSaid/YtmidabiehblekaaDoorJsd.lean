/- What keeps the laws of the first serialisation awake; and that the law JsonWrites is true, as a contract. -/
import Derived.Test.YtmidabiehblekaaDoorJsc
import Derived.Test.YtmidabiehblekaaDoorJne
import Derived.Test.YtmidabiehblekaaDoorJnc
import Derived.Test.YtmidabiehblekaaDoorAl4
import Derived.Lib.ItoaNum
set_option linter.unusedVariables false
namespace Go.AL
open Go Go.Proofs Go.RowKit

def awJ : Nd := .mk 5 false 0 eS [aS, bS] [Nd.ofNum 1, .mk 4 false 0 eS [] [Nd.zero]]
theorem zeroN_ok : Nd.zero.Ok := .mk (by simp) (by simp) (by simp)
theorem zeroN_in : Nd.zero.In := .mk (by decide) (by decide) (by simp)
theorem awL_ok : (Nd.mk 4 false 0 eS [] [Nd.zero]).Ok := .mk (by simp) (by simp) (fun x hx => by rw [List.mem_singleton.1 hx]; exact zeroN_ok)
theorem awJ_ok : awJ.Ok := .mk (by simp) (by simp) (by
  intro x hx
  simp only [List.mem_cons, List.not_mem_nil, or_false] at hx
  rcases hx with rfl | rfl
  · exact ofNum_ok _
  · exact awL_ok)
theorem awJ_in : awJ.In := .mk (by decide) (by decide) (by
  intro x hx
  simp only [List.mem_cons, List.not_mem_nil, or_false] at hx
  rcases hx with rfl | rfl
  · exact .mk (by decide) (by decide) (by simp)
  · exact .mk (by decide) (by decide) (fun x hx => by rw [List.mem_singleton.1 hx]; exact zeroN_in))
theorem awJ_valid {V : ByteArray → Bool} (hV : VOk V) : awJ.validB V 8 = true := by
  rw [awJ, valid_mk]
  refine ⟨by decide, by decide, by decide, by simp [Nd.fieldsOK, eS], text_empty hV, by simp, fun _ => ⟨?_, rfl⟩, ?_⟩
  · rw [namesOk_iff]
    refine ⟨by decide, fun s hs => ⟨by simp, ?_⟩⟩
    simp only [List.mem_cons, List.not_mem_nil, or_false] at hs
    rcases hs with rfl | rfl <;> exact text_asc hV _ (by decide) (by decide)
  · intro x hx
    simp only [List.mem_cons, List.not_mem_nil, or_false] at hx
    rcases hx with rfl | rfl
    · exact ofNum_valid hV _ _ (by decide)
    · rw [valid_mk]
      exact ⟨by decide, by decide, by decide, by simp [Nd.fieldsOK, eS], text_empty hV, by simp, by simp, fun x hx => by rw [List.mem_singleton.1 hx]; exact zero_valid hV _ (by decide)⟩
theorem itoa_one : Lib.itoa 1 = [49] := by unfold Lib.itoa; rw [if_neg (by decide)]; exact Lib.decDigits_one (by decide)
theorem awJ_jb : awJ.jb = [123, 34, 97, 34, 58, 49, 44, 34, 98, 34, 58, 91, 110, 117, 108, 108, 93, 125] := by
  simp [awJ, Nd.jb, Nd.jbm, Nd.jbs, Nd.ofNum, Nd.zero, itoa_one, jNull, aS, bS]
  decide
set_option maxHeartbeats 4000000 in
theorem awake6_spec {oF oA oP : Obj} {V : ByteArray → Bool} (hS : VSpec oF oA V) (hPw : isTabOf .u64 Lib.pow10Tab oP) (hV : VOk V) : Spec Tryd.prog 9 [] [(.par 100, .dat (.fix 0 oF)), (.par 101, .dat (.fix 1 oA)), (.par 102, .dat (.fix 2 oP))] (.t (.bool true)) [(.par 100, .dat (.fix 0 oF)), (.par 101, .dat (.fix 1 oA)), (.par 102, .dat (.fix 2 oP))] := by
  have h1 := jEnc_spec hS hPw awJ awJ_ok awJ_in (fun _ => by rw [awJ_jb]; decide)
  have e1 : jEnc V awJ = (⟨#[123, 34, 97, 34, 58, 49, 44, 34, 98, 34, 58, 91, 110, 117, 108, 108, 93, 125]⟩, 0) := by
    unfold jEnc
    rw [if_pos (awJ_valid hV), if_neg (by rw [awJ_jb]; decide), awJ_jb]; rfl
  rw [e1] at h1
  have hT : awJ.toT = .agg [.int .i64 5, .bool false, .int .i64 0, .str eS, .sl 1 [.str aS, .str bS], .sl 6 [.agg [.int .i64 2, .bool false, .int .i64 1, .str eS, .sl 1 [], .sl 6 []], .agg [.int .i64 4, .bool false, .int .i64 0, .str eS, .sl 1 [], .sl 6 [.agg [.int .i64 0, .bool false, .int .i64 0, .str ⟨#[]⟩, .sl 1 [], .sl 6 []]]]]] := by
    simp [awJ, Nd.ofNum, Nd.zero, Nd.toT_eq]
  rw [hT] at h1
  have z0 : TLs [.agg [.int .i64 0, .bool false, .int .i64 0, .str ⟨#[]⟩, .nilsl, .nilsl]] [.agg [.int .i64 0, .bool false, .int .i64 0, .str ⟨#[]⟩, .sl 1 [], .sl 6 []]] := .cons (by repeat first | exact TLe.refl _ | exact TLe.slq _ _ | exact TLe.nil _ | exact TLe.esl _ | refine TLe.agg ?_ | refine TLs.cons ?_ ?_ | exact TLs.nil) .nil
  have hA1 : ArgsLE [.t (.agg [.int .i64 5, .bool false, .int .i64 0, .str ⟨#[]⟩, .sl 1 [.str ⟨#[97]⟩, .str ⟨#[98]⟩], .sl 6 [.agg [.int .i64 2, .bool false, .int .i64 1, .str ⟨#[]⟩, .nilsl, .nilsl], .agg [.int .i64 4, .bool false, .int .i64 0, .str ⟨#[]⟩, .nilsl, .sl 6 [.agg [.int .i64 0, .bool false, .int .i64 0, .str ⟨#[]⟩, .nilsl, .nilsl]]]]])]
     [.t (.agg [.int .i64 5, .bool false, .int .i64 0, .str eS, .sl 1 [.str aS, .str bS], .sl 6 [.agg [.int .i64 2, .bool false, .int .i64 1, .str eS, .sl 1 [], .sl 6 []], .agg [.int .i64 4, .bool false, .int .i64 0, .str eS, .sl 1 [], .sl 6 [.agg [.int .i64 0, .bool false, .int .i64 0, .str ⟨#[]⟩, .sl 1 [], .sl 6 []]]]]])] := by
    refine ArgsLE.t (.agg (.cons (.refl _) (.cons (.refl _) (.cons (.refl _) (.cons (.refl _) (.cons (.refl _) (.cons (.sl (.cons ?_ (.cons (.agg (.cons (.refl _) (.cons (.refl _) (.cons (.refl _) (.cons (.refl _) (.cons (.nil _) (.cons (.sl z0) .nil))))))) .nil))) .nil))))))) .nil
    exact (by repeat first | exact TLe.refl _ | exact TLe.slq _ _ | exact TLe.nil _ | exact TLe.esl _ | refine TLe.agg ?_ | refine TLs.cons ?_ ?_ | exact TLs.nil)
  refine spec_intro (env0 := []) (st0 := [(_, some _), (_, some _), (_, some _)]) Tryd.func9 rfl rfl rfl rfl ?_
  repeat' (first | (with_reducible refine codeT_seq ?_) | (with_reducible refine codeT_ret ?_) | (with_reducible refine codeT_regionL ?_) | (with_reducible refine lx_nil ?_) | (with_reducible refine q_then ?_) | refine lx_buildSliceF rfl rfl rfl rfl rfl rfl ?_ | ((with_reducible refine g_move ?_); first | refine lx_move (r := (.t _)) rfl rfl rfl rfl rfl ?_ | refine lx_move (r := (.tup _)) rfl rfl rfl rfl rfl ?_) | ((with_reducible refine g_binOp ?_); first | refine lx_arith rfl rfl rfl rfl rfl rfl rfl ?_ | refine lx_str_eq rfl rfl rfl rfl rfl rfl ?_) | ((with_reducible refine g_assign ?_); first | refine lx_assign (r := (.t _)) rfl rfl rfl rfl rfl ?_) | ((with_reducible refine g_pick ?_); first | refine lx_pickT (r := (.t _)) rfl rfl rfl rfl rfl rfl ?_) | ((with_reducible refine g_extract ?_); first | refine lx_extract rfl rfl rfl rfl rfl rfl ?_) | ((with_reducible refine g_build ?_); first | refine lx_build (r := (.t (.agg _))) rfl rfl rfl rfl rfl rfl rfl ?_) | ((with_reducible refine g_call ?_); first | refine lx_call (r' := .tup [.t (.str ⟨#[123, 34, 97, 34, 58, 49, 44, 34, 98, 34, 58, 91, 110, 117, 108, 108, 93, 125]⟩), .t (.int .i64 0)]) [] rfl rfl h1 hA1 rfl ⟨rfl, rfl, rfl, trivial⟩ rfl rfl rfl rfl rfl rfl rfl rfl rfl rfl ?_))
  all_goals try (first | decide | (simp; done))
  exact q_ret (resT_oneE rfl rfl rfl) (stHas_spec ⟨rfl, rfl, rfl, trivial⟩)
/-- What a law asks of a node that it writes. -/
structure EncJ (V : ByteArray → Bool) (x : Nd) : Prop where
  ok : x.Ok
  inn : x.In
  sz : x.validB V 8 = true → x.jb.length ≤ 49999999
set_option maxHeartbeats 16000000 in
theorem JsonWrites_spec {oF oA oP : Obj} {V : ByteArray → Bool} (hS : VSpec oF oA V) (hPw : isTabOf .u64 Lib.pow10Tab oP) (hV : VOk V) (l : List Int) (raw : Nd) (okR : raw.Ok) (inR : raw.In) : Spec Tryd.prog 3 [.t (.sl 1 (l.map (T.int .i64))), .t raw.toT] [(.par 100, .dat (.fix 0 oF)), (.par 101, .dat (.fix 1 oA)), (.par 102, .dat (.fix 2 oP))] (.t (.bool true)) [(.par 100, .dat (.fix 0 oF)), (.par 101, .dat (.fix 1 oA)), (.par 102, .dat (.fix 2 oP))] := by
  have hA := awake6_spec hS hPw hV
  have hL := Light_spec l
  by_cases hl : (l.length : Int) ≤ 500
  · rw [decide_eq_true hl] at hL
    have rT := raw.toT_full
    rw [rT]
    by_cases hg : raw.items.length ≤ 8 ∧ raw.text.size ≤ 3000
    · refine spec_intro (env0 := [(0, _), (1, _)]) (st0 := [(_, some _), (_, some _), (_, some _)]) Tryd.func3 rfl rfl rfl rfl ?_
      repeat' (first | (with_reducible refine codeT_seq ?_) | (with_reducible refine codeT_block ?_) | (with_reducible refine codeT_skip ?_) | (with_reducible refine codeT_regionL ?_) | (with_reducible refine lx_nil ?_) | (with_reducible refine q_then ?_) | refine c_condT rfl ?_ | ((with_reducible refine g_guard ?_); first | refine lx_skip rfl rfl rfl ?_) | ((with_reducible refine g_move ?_); first | refine lx_move (r := (.t _)) rfl rfl rfl rfl rfl ?_) | ((with_reducible refine g_load ?_); first | refine lx_load_var rfl rfl rfl rfl rfl rfl rfl rfl ?_) | ((with_reducible refine g_fieldAddr ?_); first | refine lx_fieldAddr rfl rfl rfl rfl rfl rfl rfl ?_) | ((with_reducible refine g_binOp ?_); first | refine lx_arith rfl rfl rfl rfl rfl rfl rfl ?_) | ((with_reducible refine g_assign ?_); first | refine lx_assign (r := (.t _)) rfl rfl rfl rfl rfl ?_) | ((with_reducible refine g_pick ?_); first | refine lx_pickT (r := (.t _)) rfl rfl rfl rfl rfl rfl ?_ | refine lx_pickF (r := (.t _)) rfl rfl rfl rfl rfl rfl ?_) | ((with_reducible refine g_box ?_); first | refine lx_box (r := (.t (.agg _))) (cs := (List.map .t _)) rfl rfl rfl rfl rfl rfl rfl rfl rfl ?_) | ((with_reducible refine g_unOp ?_); first | refine lx_not rfl rfl rfl rfl rfl ?_) | ((with_reducible refine g_len ?_); first | refine lx_len_map rfl rfl rfl rfl rfl ?_ | refine lx_len_str rfl rfl rfl rfl rfl ?_) | ((with_reducible refine g_call ?_); first | exact absurd hg.1 (by omega) | refine lx_callT rfl rfl hL rfl rfl (ArgsLE.refl _) rfl rfl rfl rfl rfl ?_) | refine c_condP rfl (fun hc => ?_) (fun hc => ?_) | refine lx_splitP rfl (fun hc => ?_) (fun hc => ?_))
      all_goals try (exfalso; omega)
      refine codeT_ghost (ghost_keep2 [0, 3, 31, 32, 33] [.loc 3, .par 100, .par 101, .par 102] rfl rfl) ?_
      refine codeT_loop (fun p env st => ∃ (j : Nat), j ≤ raw.items.length ∧ p = raw.items.length - j ∧ (∀ i, i < j → (raw.items.getD i default).items = []) ∧
          env = EnvL.get [(0, .t (.sl 1 (l.map (T.int .i64)))), (3, .ref (.loc 3) 0 0 0), (31, .t (.sl 6 (raw.items.map Nd.toT))), (32, .t (.int .i64 raw.items.length)), (33, .t (.int .i64 (j : Int)))] ∧
          st = StO.get [(.loc 3, some (.var 26 [.t (.int .i64 raw.kind), .t (.bool raw.bool), .t (.int .i64 raw.num), .t (.str raw.text), .t (.sl 1 (raw.names.map .str)), .t (.sl 6 (raw.items.map Nd.toT))])), (.par 100, some (.dat (.fix 0 oF))), (.par 101, some (.dat (.fix 1 oA))), (.par 102, some (.dat (.fix 2 oP)))])
        ?_ (n := raw.items.length) ⟨0, by omega, rfl, fun i hi => by omega, rfl, rfl⟩
      rintro p env st ⟨j, hj, rfl, hno, rfl, rfl⟩
      by_cases hlt : j < raw.items.length
      · have eI := (raw.items.getD (j : Int).toNat default).toT_full
        have hgI : raw.items.getD (j : Int).toNat default = raw.items.getD j default := rfl
        repeat' (first | (with_reducible refine codeT_seq ?_) | (with_reducible refine codeT_block ?_) | (with_reducible refine codeT_skip ?_) | (with_reducible refine codeT_ret ?_) | (with_reducible refine codeT_exit ?_) | (with_reducible refine codeT_regionL ?_) | (with_reducible refine lx_nil ?_) | (with_reducible refine q_then ?_) | (with_reducible refine q_then_exit ?_) | (with_reducible refine q_then_ret ?_) | (with_reducible refine q_block ?_) | (with_reducible refine q_block_ret ?_) | ((with_reducible refine q_block_same ?_ ?_); · rfl) | (with_reducible refine q_loop_exit ?_) | (with_reducible refine q_loop_ret ?_) | refine lx_load_tpAE rfl rfl eI rfl rfl rfl rfl rfl rfl ?_ | ((with_reducible refine g_move ?_); first | refine lx_move (r := (.t _)) rfl rfl rfl rfl rfl ?_) | ((with_reducible refine g_load ?_); first | refine lx_load_var rfl rfl rfl rfl rfl rfl rfl rfl ?_) | ((with_reducible refine g_fieldAddr ?_); first | refine lx_fieldAddr rfl rfl rfl rfl rfl rfl rfl ?_) | ((with_reducible refine g_binOp ?_); first | refine lx_arith rfl rfl rfl rfl rfl rfl rfl ?_) | ((with_reducible refine g_assign ?_); first | refine lx_assign (r := (.t _)) rfl rfl rfl rfl rfl ?_) | ((with_reducible refine g_alloc ?_); first | refine lx_alloc rfl rfl rfl rfl rfl rfl rfl ?_) | ((with_reducible refine g_store ?_); first | refine lx_store_var (r := (.t (.agg _))) rfl rfl rfl rfl rfl rfl rfl rfl rfl rfl ?_) | ((with_reducible refine g_indexAddr ?_); first | refine lx_indexAddr_map rfl rfl rfl rfl rfl rfl ?_ ?_ ?_) | ((with_reducible refine g_len ?_); first | refine lx_len_map rfl rfl rfl rfl rfl ?_) | ((with_reducible refine g_call ?_); first | refine lx_call (r' := .t (.bool true)) [] rfl rfl hA (ArgsLE.refl _) rfl ⟨rfl, rfl, rfl, trivial⟩ rfl rfl rfl rfl rfl rfl rfl rfl rfl rfl ?_) | refine c_condP rfl (fun hc => ?_) (fun hc => ?_))
        all_goals try omega
        · exact q_ret (resT_oneE rfl rfl rfl) (stHas_spec ⟨rfl, rfl, rfl, trivial⟩)
        · refine q_loop (n' := raw.items.length - (j + 1)) (by omega) (ghost_keep2 [0, 3, 31, 32, 33] [.loc 3, .par 100, .par 101, .par 102] rfl rfl) ⟨j + 1, by omega, rfl, fun i hi => ?_, by rw [wrap64 (by omega) (by omega)]; rfl, rfl⟩
          rcases Nat.lt_or_ge i j with h | h
          · exact hno i h
          · obtain rfl : i = j := by omega
            rw [hgI] at hc
            exact List.eq_nil_of_length_eq_zero (by omega)
      · repeat' (first | (with_reducible refine codeT_seq ?_) | (with_reducible refine codeT_regionL ?_) | (with_reducible refine lx_nil ?_) | (with_reducible refine q_then ?_) | ((with_reducible refine g_binOp ?_); first | refine lx_arith rfl rfl rfl rfl rfl rfl rfl ?_))
        refine c_condP rfl (fun hc => absurd hc (by omega)) (fun hc => ?_)
        have hflat : ∀ y ∈ raw.items, y.items = [] := fun y hy => by
          obtain ⟨i, hi, rfl⟩ := List.getElem_of_mem hy
          have := hno i (by omega)
          rwa [List.getD_eq_getElem?_getD, List.getElem?_eq_getElem hi] at this
        have hR := Roll_spec l
        have hd0 : (Dc.mk l 0).l = l := rfl
        have hX1 := kNode_spec 4 (by omega) (Dc.mk l 0) (by rw [hd0]; omega)
        have eX1 : (kNode 4 (Dc.mk l 0)).2.l = l := by rw [kNode_l]
        have vX1 := kNode_ok hV 4 (Dc.mk l 0) 8 (by omega) (by omega)
        have cX1 := kNode_cb 4 (Dc.mk l 0)
        generalize kNode 4 (Dc.mk l 0) = q1 at hX1 eX1 vX1 cX1
        obtain ⟨x1, d1⟩ := q1
        simp only at hX1 eX1 vX1 cX1
        have hX2 := kMap_spec 3 (by omega) d1 (by rw [eX1]; omega)
        have eX2 : (kMap 3 d1).2.l = l := by rw [kMap_l, eX1]
        have vX2 := kMap_ok hV 3 d1 8 (by omega) (by omega)
        have cX2 := kMap_cb 3 d1
        generalize kMap 3 d1 = q2 at hX2 eX2 vX2 cX2
        obtain ⟨x2, d2⟩ := q2
        simp only at hX2 eX2 vX2 cX2
        have hN1 := Next_spec d2 9 (by omega) (by rw [eX2]; omega)
        have rN1 := d2.next_lt 9 (by omega)
        have eN1 : (d2.next 9).2.l = l := by rw [Dc.next_l, eX2]
        generalize d2.next 9 = q3 at hN1 rN1 eN1
        obtain ⟨a3, d3⟩ := q3
        simp only at hN1 rN1 eN1
        have hN2 := Next_spec d3 2 (by omega) (by rw [eN1]; omega)
        have rN2 := d3.next_lt 2 (by omega)
        generalize d3.next 2 = q4 at hN2 rN2
        obtain ⟨a4, d4⟩ := q4
        simp only at hN2 rN2
        have E1 : EncJ V x1 := ⟨Nd.ok_of_valid x1 8 vX1, cX1.2, fun _ => Nat.le_trans (Nat.le_of_succ_le (jb_le _ cX1.2)) (Nat.le_trans (Nat.mul_le_mul_left 24 cX1.1) (by decide))⟩
        have E2 : EncJ V x2 := ⟨Nd.ok_of_valid x2 8 vX2, cX2.2, fun _ => Nat.le_trans (Nat.le_of_succ_le (jb_le _ cX2.2)) (Nat.le_trans (Nat.mul_le_mul_left 24 cX2.1) (by decide))⟩
        have E3 : EncJ V raw := ⟨okR, inR, fun hv => Nat.le_trans (Nat.le_of_succ_le (jb_le _ inR)) (Nat.le_trans (Nat.mul_le_mul_left 24 (flat2_cb hv hg.1 hflat)) (by decide))⟩
        obtain ⟨x4, hx4⟩ : ∃ x4, x4 = Nd.mk (a3 - 1) false a4 eS [] [] := ⟨_, rfl⟩
        have in4 : x4.In := by rw [hx4]; exact .mk (by omega) (by omega) (by simp)
        have E4 : EncJ V x4 := ⟨by rw [hx4]; exact .mk (by simp) (by simp) (by simp), in4, fun hv => Nat.le_trans (Nat.le_of_succ_le (jb_le _ in4)) (Nat.le_trans (Nat.mul_le_mul_left 24 (flat_cb hv (by rw [hx4]; rfl))) (by decide))⟩
        have hX1 := hX1.res x1.toT_full
        have hX2 := hX2.res x2.toT_full
        clear vX1 cX1 vX2 cX2 hno
        repeat' (first | (with_reducible refine codeT_seq ?_) | (with_reducible refine codeT_block ?_) | (with_reducible refine codeT_exit ?_) | (with_reducible refine codeT_regionL ?_) | ((with_reducible refine codeT_region_drawL ?_ ?_); · rfl) | (with_reducible refine lx_nil ?_) | (with_reducible refine q_then ?_) | (with_reducible refine q_then_exit ?_) | ((with_reducible refine q_block_same ?_ ?_); · rfl) | (with_reducible refine q_loop_exit ?_) | ((with_reducible refine q_region_draw ?_ ?_); · rfl) | ((with_reducible refine g_move ?_); first | refine lx_move (r := (.t _)) rfl rfl rfl rfl rfl ?_ | refine lx_move (r := (.ref _ _ _ _)) rfl rfl rfl rfl rfl ?_) | ((with_reducible refine g_load ?_); first | refine lx_load_varA (r := (.t (.agg _))) rfl rfl rfl rfl rfl rfl rfl rfl rfl ?_) | ((with_reducible refine g_binOp ?_); first | refine lx_arith rfl rfl rfl rfl rfl rfl rfl ?_) | ((with_reducible refine g_assign ?_); first | refine lx_assign (r := (.ref _ _ _ _)) rfl rfl rfl rfl rfl ?_) | ((with_reducible refine g_buildSlice ?_); first | refine lx_buildSlice rfl rfl rfl rfl rfl rfl rfl ?_) | ((with_reducible refine g_build ?_); first | refine lx_build (r := (.t (.agg _))) rfl rfl rfl rfl rfl rfl rfl ?_) | ((with_reducible refine g_len ?_); first | refine lx_len_row rfl rfl rfl rfl rfl rfl ?_) | ((with_reducible refine g_call ?_); first | refine lx_call (r' := .ref (.loc 900) 0 0 0) [(.res 0, .loc 900)] rfl rfl hR (ArgsLE.refl _) rfl trivial rfl rfl rfl rfl rfl rfl rfl rfl rfl rfl ?_ | refine lx_call (r' := .t (.agg [_, _, _, _, _, _])) [(.par 0, .loc 900)] rfl rfl hX1 (ArgsLE.refl _) rfl ⟨rfl, trivial⟩ rfl rfl rfl rfl rfl rfl rfl rfl rfl rfl ?_ | refine lx_call (r' := .t (.agg [_, _, _, _, _, _])) [(.par 0, .loc 900)] rfl rfl hX2 (ArgsLE.refl _) rfl ⟨rfl, trivial⟩ rfl rfl rfl rfl rfl rfl rfl rfl rfl rfl ?_ | refine lx_call (r' := .t (.int .i64 a3)) [(.par 0, .loc 900)] rfl rfl hN1 (ArgsLE.refl _) rfl ⟨rfl, trivial⟩ rfl rfl rfl rfl rfl rfl rfl rfl rfl rfl ?_ | refine lx_call (r' := .t (.int .i64 a4)) [(.par 0, .loc 900)] rfl rfl hN2 (ArgsLE.refl _) rfl ⟨rfl, trivial⟩ rfl rfl rfl rfl rfl rfl rfl rfl rfl rfl ?_))
        have hLx : ∀ x ∈ [x1, x2, raw, x4], EncJ V x := by
          intro x hx
          simp only [List.mem_cons, List.not_mem_nil, or_false] at hx
          rcases hx with rfl | rfl | rfl | rfl
          · exact E1
          · exact E2
          · exact E3
          · exact E4
        have hle : TLe (.sl 6 [.agg [.int .i64 x1.kind, .bool x1.bool, .int .i64 x1.num, .str x1.text, .sl 1 (x1.names.map .str), .sl 6 (x1.items.map Nd.toT)], .agg [.int .i64 x2.kind, .bool x2.bool, .int .i64 x2.num, .str x2.text, .sl 1 (x2.names.map .str), .sl 6 (x2.items.map Nd.toT)], .agg [.int .i64 raw.kind, .bool raw.bool, .int .i64 raw.num, .str raw.text, .sl 1 (raw.names.map .str), .sl 6 (raw.items.map Nd.toT)], .agg [.int .i64 (IntKind.i64.wrap (a3 - 1)), .bool false, .int .i64 a4, .str ⟨#[]⟩, .nilsl, .nilsl]]) (.sl 6 ([x1, x2, raw, x4].map Nd.toT)) := by
          have e4 : x4.toT = .agg [.int .i64 (a3 - 1), .bool false, .int .i64 a4, .str ⟨#[]⟩, .sl 1 [], .sl 6 []] := by rw [hx4, Nd.toT_eq]; rfl
          rw [wrap64 (by omega) (by omega)]
          simp only [List.map_cons, List.map_nil]
          rw [← x1.toT_full, ← x2.toT_full, ← raw.toT_full, e4]
          exact .sl (.cons (.refl _) (.cons (.refl _) (.cons (.refl _) (.cons (by repeat first | exact TLe.refl _ | exact TLe.slq _ _ | exact TLe.nil _ | exact TLe.esl _ | refine TLe.agg ?_ | refine TLs.cons ?_ ?_ | exact TLs.nil) .nil))))
        refine codeT_ghost (ghost_keep2 [56, 57, 58] [.loc 56, .par 100, .par 101, .par 102] rfl rfl) ?_
        refine codeT_ghost (ghost_freezeL (id := .loc 56) rfl rfl rfl) ?_
        refine codeT_ghost (ghost_le 56 rfl hle rfl) ?_
        obtain ⟨L, hLe⟩ : ∃ L, L = [x1, x2, raw, x4] := ⟨_, rfl⟩
        have hL4 : L.length = 4 := by rw [hLe]; rfl
        rw [← hLe] at hLx ⊢
        refine codeT_ghost (ghost_keep2 [56, 57, 58] [.par 100, .par 101, .par 102] rfl rfl) ?_
        refine codeT_loop (fun p env st => ∃ (j : Nat), j ≤ 4 ∧ p = 4 - j ∧
            env = EnvL.get [(56, .t (.sl 6 (L.map Nd.toT))), (57, .t (.int .i64 4)), (58, .t (.int .i64 (j : Int)))] ∧ st = StO.get [(.par 100, some (.dat (.fix 0 oF))), (.par 101, some (.dat (.fix 1 oA))), (.par 102, some (.dat (.fix 2 oP)))])
          ?_ (n := 4) ⟨0, by omega, rfl, rfl, rfl⟩
        clear hX1 hX2 hN1 hN2 hle hc hlt hj hR hL
        rintro p env st ⟨j, hj, rfl, rfl, rfl⟩
        by_cases hlt : j < 4
        · have eI := (L.getD (j : Int).toNat default).toT_full
          have hm : L.getD (j : Int).toNat default ∈ L := by
            rw [List.getD_eq_getElem?_getD, List.getElem?_eq_getElem (by omega)]; exact List.getElem_mem _
          have hE := hLx _ hm
          have hC1 := jEnc_spec hS hPw _ hE.ok hE.inn hE.sz
          have hC2 := rjEnc_spec hS hPw _ hE.ok hE.inn hE.sz
          generalize (jEnc V (L.getD (j : Int).toNat default)).1 = w1 at hC1 hC2
          generalize (jEnc V (L.getD (j : Int).toNat default)).2 = w2 at hC1 hC2
          rw [eI] at hC1 hC2
          repeat' (first | (with_reducible refine codeT_seq ?_) | (with_reducible refine codeT_regionL ?_) | (with_reducible refine lx_nil ?_) | (with_reducible refine q_then ?_) | ((with_reducible refine g_binOp ?_); first | refine lx_arith rfl rfl rfl rfl rfl rfl rfl ?_))
          refine c_condP rfl (fun hc => ?_) (fun hc => absurd (by omega) hc)
          repeat' (first | (with_reducible refine codeT_seq ?_) | (with_reducible refine codeT_block ?_) | (with_reducible refine codeT_skip ?_) | (with_reducible refine codeT_regionL ?_) | (with_reducible refine lx_nil ?_) | (with_reducible refine q_then ?_) | refine lx_load_tpAE rfl rfl eI rfl rfl rfl rfl rfl rfl ?_ | ((with_reducible refine g_move ?_); first | refine lx_move (r := (.t _)) rfl rfl rfl rfl rfl ?_ | refine lx_move (r := (.tup _)) rfl rfl rfl rfl rfl ?_) | ((with_reducible refine g_load ?_); first | refine lx_load_varA (r := (.t (.agg _))) rfl rfl rfl rfl rfl rfl rfl rfl rfl ?_) | ((with_reducible refine g_binOp ?_); first | refine lx_str_ne rfl rfl rfl rfl rfl rfl ?_) | ((with_reducible refine g_assign ?_); first | refine lx_assign (r := (.t _)) rfl rfl rfl rfl rfl ?_) | ((with_reducible refine g_alloc ?_); first | refine lx_alloc rfl rfl rfl rfl rfl rfl rfl ?_) | ((with_reducible refine g_store ?_); first | refine lx_store_var (r := (.t (.agg _))) rfl rfl rfl rfl rfl rfl rfl rfl rfl rfl ?_) | ((with_reducible refine g_indexAddr ?_); first | refine lx_indexAddr_map rfl rfl rfl rfl rfl rfl ?_ ?_ ?_) | ((with_reducible refine g_extract ?_); first | refine lx_extract rfl rfl rfl rfl rfl rfl ?_) | ((with_reducible refine g_call ?_); first | refine lx_call (r' := .tup [.t (.str w1), .t (.int .i64 w2)]) [] rfl rfl hC1 (ArgsLE.refl _) rfl ⟨rfl, rfl, rfl, trivial⟩ rfl rfl rfl rfl rfl rfl rfl rfl rfl rfl ?_ | refine lx_call (r' := .tup [.t (.str w1), .t (.int .i64 w2)]) [] rfl rfl hC2 (ArgsLE.refl _) rfl ⟨rfl, rfl, rfl, trivial⟩ rfl rfl rfl rfl rfl rfl rfl rfl rfl rfl ?_))
          · omega
          · omega
          refine lx_splitN rfl (fun hx => ?_) (fun hx => absurd rfl hx)
          repeat' (first | (with_reducible refine lx_nil ?_) | (with_reducible refine q_then ?_) | ((with_reducible refine g_move ?_); first | refine lx_move (r := (.t _)) rfl rfl rfl rfl rfl ?_) | ((with_reducible refine g_binOp ?_); first | refine lx_arith rfl rfl rfl rfl rfl rfl rfl ?_) | ((with_reducible refine g_pick ?_); first | refine lx_pickF (r := (.t _)) rfl rfl rfl rfl rfl rfl ?_))
          refine c_condN rfl (fun hx => ?_) (fun hx => absurd rfl hx)
          repeat' (first | (with_reducible refine codeT_skip ?_) | (with_reducible refine codeT_regionL ?_) | (with_reducible refine lx_nil ?_) | (with_reducible refine q_then ?_) | (with_reducible refine q_block ?_) | ((with_reducible refine g_move ?_); first | refine lx_move (r := (.t _)) rfl rfl rfl rfl rfl ?_) | ((with_reducible refine g_binOp ?_); first | refine lx_arith rfl rfl rfl rfl rfl rfl rfl ?_))
          exact q_loop (n' := 4 - (j + 1)) (by omega) (ghost_keep2 [56, 57, 58] [.par 100, .par 101, .par 102] rfl rfl) ⟨j + 1, by omega, rfl, by rw [wrap64 (by omega) (by omega)]; rfl, rfl⟩
        · repeat' (first | (with_reducible refine codeT_seq ?_) | (with_reducible refine codeT_regionL ?_) | (with_reducible refine lx_nil ?_) | (with_reducible refine q_then ?_) | ((with_reducible refine g_binOp ?_); first | refine lx_arith rfl rfl rfl rfl rfl rfl rfl ?_))
          refine c_condP rfl (fun hc => absurd hc (by omega)) (fun hc => ?_)
          repeat' (first | (with_reducible refine codeT_seq ?_) | (with_reducible refine codeT_ret ?_) | (with_reducible refine codeT_exit ?_) | (with_reducible refine codeT_regionL ?_) | (with_reducible refine lx_nil ?_) | (with_reducible refine q_then ?_) | (with_reducible refine q_then_exit ?_) | ((with_reducible refine q_block_same ?_ ?_); · rfl) | (with_reducible refine q_loop_exit ?_) | ((with_reducible refine g_assign ?_); first | refine lx_assign (r := (.t _)) rfl rfl rfl rfl rfl ?_) | ((with_reducible refine g_call ?_); first | refine lx_call (r' := .t (.bool true)) [] rfl rfl hA (ArgsLE.refl _) rfl ⟨rfl, rfl, rfl, trivial⟩ rfl rfl rfl rfl rfl rfl rfl rfl rfl rfl ?_))
          exact q_ret (resT_oneE rfl rfl rfl) (stHas_spec ⟨rfl, rfl, rfl, trivial⟩)
    · refine spec_intro (env0 := [(0, _), (1, _)]) (st0 := [(_, some _), (_, some _), (_, some _)]) Tryd.func3 rfl rfl rfl rfl ?_
      repeat' (first | (with_reducible refine codeT_seq ?_) | (with_reducible refine codeT_block ?_) | (with_reducible refine codeT_skip ?_) | (with_reducible refine codeT_ret ?_) | (with_reducible refine codeT_regionL ?_) | (with_reducible refine lx_nil ?_) | (with_reducible refine q_then ?_) | (with_reducible refine q_then_ret ?_) | refine c_condT rfl ?_ | ((with_reducible refine g_guard ?_); first | refine lx_skip rfl rfl rfl ?_) | ((with_reducible refine g_move ?_); first | refine lx_move (r := (.t _)) rfl rfl rfl rfl rfl ?_) | ((with_reducible refine g_load ?_); first | refine lx_load_var rfl rfl rfl rfl rfl rfl rfl rfl ?_) | ((with_reducible refine g_fieldAddr ?_); first | refine lx_fieldAddr rfl rfl rfl rfl rfl rfl rfl ?_) | ((with_reducible refine g_binOp ?_); first | refine lx_arith rfl rfl rfl rfl rfl rfl rfl ?_) | ((with_reducible refine g_assign ?_); first | refine lx_assign (r := (.t _)) rfl rfl rfl rfl rfl ?_) | ((with_reducible refine g_pick ?_); first | refine lx_pickT (r := (.t _)) rfl rfl rfl rfl rfl rfl ?_ | refine lx_pickF (r := (.t _)) rfl rfl rfl rfl rfl rfl ?_) | ((with_reducible refine g_box ?_); first | refine lx_box (r := (.t (.agg _))) (cs := (List.map .t _)) rfl rfl rfl rfl rfl rfl rfl rfl rfl ?_) | ((with_reducible refine g_unOp ?_); first | refine lx_not rfl rfl rfl rfl rfl ?_) | ((with_reducible refine g_len ?_); first | refine lx_len_map rfl rfl rfl rfl rfl ?_ | refine lx_len_str rfl rfl rfl rfl rfl ?_) | ((with_reducible refine g_call ?_); first | refine lx_callT rfl rfl hL rfl rfl (ArgsLE.refl _) rfl rfl rfl rfl rfl ?_ | refine lx_call (r' := .t (.bool true)) [] rfl rfl hA (ArgsLE.refl _) rfl ⟨rfl, rfl, rfl, trivial⟩ rfl rfl rfl rfl rfl rfl rfl rfl rfl rfl ?_) | refine c_condP rfl (fun hc => ?_) (fun hc => ?_) | refine lx_splitP rfl (fun hc => ?_) (fun hc => ?_))
      all_goals try (exfalso; omega)
      all_goals exact q_ret (resT_oneE rfl rfl rfl) (stHas_spec ⟨rfl, rfl, rfl, trivial⟩)
  · rw [decide_eq_false hl] at hL
    have rT := raw.toT_full
    rw [rT]
    refine spec_intro (env0 := [(0, _), (1, _)]) (st0 := [(_, some _), (_, some _), (_, some _)]) Tryd.func3 rfl rfl rfl rfl ?_
    repeat' (first | (with_reducible refine codeT_seq ?_) | (with_reducible refine codeT_ret ?_) | (with_reducible refine codeT_regionL ?_) | (with_reducible refine lx_nil ?_) | (with_reducible refine q_then ?_) | (with_reducible refine q_then_ret ?_) | refine c_condT rfl ?_ | ((with_reducible refine g_guard ?_); first | refine lx_skip rfl rfl rfl ?_) | ((with_reducible refine g_move ?_); first | refine lx_move (r := (.t _)) rfl rfl rfl rfl rfl ?_) | ((with_reducible refine g_assign ?_); first | refine lx_assign (r := (.t _)) rfl rfl rfl rfl rfl ?_) | ((with_reducible refine g_pick ?_); first | refine lx_pickT (r := (.t _)) rfl rfl rfl rfl rfl rfl ?_) | ((with_reducible refine g_box ?_); first | refine lx_box (r := (.t (.agg _))) (cs := (List.map .t _)) rfl rfl rfl rfl rfl rfl rfl rfl rfl ?_) | ((with_reducible refine g_unOp ?_); first | refine lx_not rfl rfl rfl rfl rfl ?_) | ((with_reducible refine g_call ?_); first | refine lx_callT rfl rfl hL rfl rfl (ArgsLE.refl _) rfl rfl rfl rfl rfl ?_ | refine lx_call (r' := .t (.bool true)) [] rfl rfl hA (ArgsLE.refl _) rfl ⟨rfl, rfl, rfl, trivial⟩ rfl rfl rfl rfl rfl rfl rfl rfl rfl rfl ?_))
    exact q_ret (resT_oneE rfl rfl rfl) (stHas_spec ⟨rfl, rfl, rfl, trivial⟩)
end Go.AL
/- What the laws of this seat ask of their arguments and of the laid variables. -/
set_option linter.unusedVariables false
namespace Go.AL
open Go Go.Proofs Go.RowKit

mutual
theorem Nd.noG : ∀ x : Nd, x.toT.noG = true
  | .mk k b n t ns is => by simp [Nd.toT, T.noG, T.noGL, noG_strs, Nd.noGs is]
theorem Nd.noGs : ∀ l : List Nd, T.noGL (Nd.toTs l) = true
  | [] => rfl
  | x :: xs => by simp [Nd.toTs, T.noGL, Nd.noG x, Nd.noGs xs]
end
def powL : List Int := [1, 10, 100, 1000, 10000, 100000, 1000000, 10000000, 100000000, 1000000000, 10000000000, 100000000000, 1000000000000, 10000000000000, 100000000000000, 1000000000000000, 10000000000000000, 100000000000000000, 1000000000000000000, 10000000000000000000]
theorem powL_eq : powL = Lib.pow10Tab := by decide
theorem pow_ok {oP : Obj} (h : isTabOf .u64 powL oP) : isTabOf .u64 Lib.pow10Tab oP := by rw [← powL_eq]; exact h
end Go.AL
