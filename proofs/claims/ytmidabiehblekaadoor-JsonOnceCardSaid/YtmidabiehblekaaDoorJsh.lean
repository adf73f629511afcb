/- That the law JsonBack is true, as a contract. -/
import Derived.Test.YtmidabiehblekaaDoorJsg
import Derived.Test.YtmidabiehblekaaDoorJsd
import Derived.Test.YtmidabiehblekaaDoorNod2
import Derived.Test.YtmidabiehblekaaDoorJnc
import Derived.Test.YtmidabiehblekaaDoorJne
set_option linter.unusedVariables false
namespace Go.AL
open Go Go.Proofs Go.RowKit

end Go.AL
/- That the law JsonOnce is true, as a contract. -/
set_option linter.unusedVariables false
namespace Go.AL
open Go Go.Proofs Go.RowKit

/-- What a reader of the bytes makes: nothing, or a valid node with these bytes. -/
theorem jDec_two {V : ByteArray → Bool} (s : ByteArray) : gDec jsC V s = (Nd.zero, 4) ∨ ∃ x : Nd, gDec jsC V s = (x, 0) ∧ x.validB V 8 = true ∧ x.In ∧ x.Ok ∧ (jsC.E x).length ≤ 65536 ∧ s = ofL (jsC.E x) := by
  by_cases h : gGood jsC V s
  · obtain ⟨x, h1, h2, h3, rfl⟩ := gDec_iff (C := jsC).1 h
    exact .inr ⟨x, gDec_back (C := jsC) h1 h2 h3, h1, h2, Nd.ok_of_valid x 8 h1, h3, rfl⟩
  · exact .inl (gDec_zero (C := jsC) h)
set_option maxHeartbeats 16000000 in
theorem JsonOnce_spec {oF oA oP oS oR : Obj} {V : ByteArray → Bool} (hS : VSpec oF oA V) (hPw : isTabOf .u64 Lib.pow10Tab oP) (G : EOk oS oR) (hV : VOk V) (l : List Int) (at_ by_ : Int) (s : ByteArray) : Spec Tryd.prog 5 [.t (.sl 1 (l.map (T.int .i64))), .t (.int .i64 at_), .t (.int .i64 by_), .t (.str s)] [(.par 100, .dat (.fix 0 oF)), (.par 101, .dat (.fix 1 oA)), (.par 102, .dat (.fix 2 oP)), (.par 103, .dat (.fix 3 oS)), (.par 104, .dat (.fix 4 oR))] (.t (.bool true)) [(.par 100, .dat (.fix 0 oF)), (.par 101, .dat (.fix 1 oA)), (.par 102, .dat (.fix 2 oP)), (.par 103, .dat (.fix 3 oS)), (.par 104, .dat (.fix 4 oR))] := by
  have hA := awake6_spec hS hPw hV
  have hL := Light_spec l
  by_cases hl : (l.length : Int) ≤ 500
  · rw [decide_eq_true hl] at hL
    by_cases hs : 500 < (s.size : Int)
    · refine spec_intro (env0 := [(0, _), (1, _), (2, _), (3, _)]) (st0 := [(_, some _), (_, some _), (_, some _), (_, some _), (_, some _)]) Tryd.func5 rfl rfl rfl rfl ?_
      repeat' (first | (with_reducible refine codeT_seq ?_) | (with_reducible refine codeT_skip ?_) | (with_reducible refine codeT_ret ?_) | (with_reducible refine codeT_regionL ?_) | (with_reducible refine lx_nil ?_) | (with_reducible refine q_then ?_) | (with_reducible refine q_then_ret ?_) | ((with_reducible refine g_move ?_); first | refine lx_move (r := (.t _)) rfl rfl rfl rfl rfl ?_) | ((with_reducible refine g_binOp ?_); first | refine lx_arith rfl rfl rfl rfl rfl rfl rfl ?_) | ((with_reducible refine g_assign ?_); first | refine lx_assign (r := (.t _)) rfl rfl rfl rfl rfl ?_) | ((with_reducible refine g_pick ?_); first | refine lx_pickF (r := (.t _)) rfl rfl rfl rfl rfl rfl ?_) | ((with_reducible refine g_unOp ?_); first | refine lx_not rfl rfl rfl rfl rfl ?_) | ((with_reducible refine g_len ?_); first | refine lx_len_str rfl rfl rfl rfl rfl ?_) | ((with_reducible refine g_call ?_); first | refine lx_callT rfl rfl hL rfl rfl (ArgsLE.refl _) rfl rfl rfl rfl rfl ?_ | refine lx_call (r' := .t (.bool true)) [] rfl rfl hA (ArgsLE.refl _) rfl ⟨rfl, rfl, rfl, trivial⟩ rfl rfl rfl rfl rfl rfl rfl rfl rfl rfl ?_ | exact absurd hs ‹_›) | refine c_condP rfl (fun hc => ?_) (fun hc => ?_))
      all_goals try (exact absurd hs hc)
      all_goals exact q_ret (resT_oneE rfl rfl rfl) (stHas_spec ⟨rfl, rfl, rfl, rfl, rfl, trivial⟩)
    · have hR := Roll_spec l
      have hd0 : (Dc.mk l 0).l = l := rfl
      have hX2 := kMap_spec 3 (by omega) (Dc.mk l 0) (by rw [hd0]; omega)
      have vX2 := kMap_ok hV 3 (Dc.mk l 0) 8 (by omega) (by omega)
      have cX2 : _ ∧ _ := ⟨kMap_jb 3 (Dc.mk l 0), (kMap_cb 3 (Dc.mk l 0)).2⟩
      generalize kMap 3 (Dc.mk l 0) = q2 at hX2 vX2 cX2
      obtain ⟨x2, d2⟩ := q2
      simp only at hX2 vX2 cX2
      have o2 := Nd.ok_of_valid x2 8 vX2
      have z2 : (jsC.E x2).length ≤ 65536 := Nat.le_trans cX2.1 (by decide)
      have hC2 := jEnc_spec hS hPw x2 o2 cX2.2 (fun _ => by have : x2.jb.length ≤ 65536 := z2; omega)
      rw [jEnc_gEnc, gEnc_ok (C := jsC) vX2 z2] at hC2
      have hP := Spoil_spec (ofL (jsC.E x2)) at_ by_ (by rw [ofL_size]; omega)
      have zP := spoil_size (ofL (jsC.E x2)) at_ by_
      have zO : (ofL (jsC.E x2)).size ≤ 65536 := by rw [ofL_size]; omega
      have t2 := x2.toT_full
      generalize ofL (jsC.E x2) = good at *
      generalize spoil good at_ by_ = sp at *
      simp only at hC2
      rw [t2] at hX2 hC2
      clear vX2 cX2 o2 z2 t2
      refine spec_intro (env0 := [(0, _), (1, _), (2, _), (3, _)]) (st0 := [(_, some _), (_, some _), (_, some _), (_, some _), (_, some _)]) Tryd.func5 rfl rfl rfl rfl ?_
      repeat' (first | (with_reducible refine codeT_seq ?_) | (with_reducible refine codeT_block ?_) | (with_reducible refine codeT_skip ?_) | (with_reducible refine codeT_regionL ?_) | (with_reducible refine lx_nil ?_) | (with_reducible refine q_then ?_) | ((with_reducible refine g_move ?_); first | refine lx_move (r := (.t _)) rfl rfl rfl rfl rfl ?_ | refine lx_move (r := (.tup _)) rfl rfl rfl rfl rfl ?_) | ((with_reducible refine g_binOp ?_); first | refine lx_arith rfl rfl rfl rfl rfl rfl rfl ?_) | ((with_reducible refine g_assign ?_); first | refine lx_assign (r := (.t _)) rfl rfl rfl rfl rfl ?_) | ((with_reducible refine g_pick ?_); first | refine lx_pickF (r := (.t _)) rfl rfl rfl rfl rfl rfl ?_) | ((with_reducible refine g_unOp ?_); first | refine lx_not rfl rfl rfl rfl rfl ?_) | ((with_reducible refine g_extract ?_); first | refine lx_extract rfl rfl rfl rfl rfl rfl ?_) | ((with_reducible refine g_buildSlice ?_); first | refine lx_buildSlice rfl rfl rfl rfl rfl rfl rfl ?_) | ((with_reducible refine g_len ?_); first | refine lx_len_str rfl rfl rfl rfl rfl ?_ | refine lx_len_row rfl rfl rfl rfl rfl rfl ?_) | ((with_reducible refine g_call ?_); first | refine lx_callT rfl rfl hL rfl rfl (ArgsLE.refl _) rfl rfl rfl rfl rfl ?_ | refine lx_call (r' := .ref (.loc 900) 0 0 0) [(.res 0, .loc 900)] rfl rfl hR (ArgsLE.refl _) rfl trivial rfl rfl rfl rfl rfl rfl rfl rfl rfl rfl ?_ | refine lx_call (r' := .t (.agg [_, _, _, _, _, _])) [(.par 0, .loc 900)] rfl rfl hX2 (ArgsLE.refl _) rfl ⟨rfl, trivial⟩ rfl rfl rfl rfl rfl rfl rfl rfl rfl rfl ?_ | refine lx_call (r' := .tup [.t (.str good), .t (.int .i64 0)]) [] rfl rfl hC2 (ArgsLE.refl _) rfl ⟨rfl, rfl, rfl, trivial⟩ rfl rfl rfl rfl rfl rfl rfl rfl rfl rfl ?_ | refine lx_callT rfl rfl hP rfl rfl (ArgsLE.refl _) rfl rfl rfl rfl rfl ?_) | refine c_condP rfl (fun hc => ?_) (fun hc => ?_))
      all_goals try (exact absurd hc hs)
      refine codeT_ghost (ghost_keep2 [39, 40, 41] [.loc 39, .par 100, .par 101, .par 102, .par 103, .par 104] rfl rfl) ?_
      refine codeT_ghost (ghost_freezeL (id := .loc 39) rfl rfl rfl) ?_
      have hLx : ∀ x ∈ [sp, s, good], x.size ≤ 100000 := by
        intro x hx
        simp only [List.mem_cons, List.not_mem_nil, or_false] at hx
        rcases hx with rfl | rfl | rfl <;> omega
      have hZ : Spec Tryd.prog 18 [.t (.agg [.int .i64 0, .bool false, .int .i64 0, .str ⟨#[]⟩, .sl 1 [], .sl 6 []]), .t (.agg [.int .i64 0, .bool false, .int .i64 0, .str ⟨#[]⟩, .sl 1 [], .sl 6 []])] [] (.t (.bool true)) [] := by
        have := rSame_spec Nd.zero zero_ok Nd.zero
        rw [Nd.same_refl, zero_toT] at this
        exact this
      have hZA : ArgsLE [.t (.agg [.int .i64 0, .bool false, .int .i64 0, .str ⟨#[]⟩, .sl 1 [], .sl 6 []]), .t (.agg [.int .i64 0, .bool false, .int .i64 0, .str ⟨#[]⟩, .nilsl, .nilsl])] [.t (.agg [.int .i64 0, .bool false, .int .i64 0, .str ⟨#[]⟩, .sl 1 [], .sl 6 []]), .t (.agg [.int .i64 0, .bool false, .int .i64 0, .str ⟨#[]⟩, .sl 1 [], .sl 6 []])] := (by repeat first | exact ArgsLE.nil | refine ArgsLE.cons (AVLE.refl _) ?_ | refine ArgsLE.t (by repeat first | exact TLe.refl _ | exact TLe.slq _ _ | exact TLe.nil _ | exact TLe.esl _ | refine TLe.agg ?_ | refine TLs.cons ?_ ?_ | exact TLs.nil) ?_)
      refine codeT_ghost (ghost_le 39 (y := .sl 1 ([sp, s, good].map .str)) rfl (.refl _) rfl) ?_
      obtain ⟨L, hLe⟩ : ∃ L, L = [sp, s, good] := ⟨_, rfl⟩
      have hL3 : L.length = 3 := by rw [hLe]; rfl
      rw [← hLe] at hLx ⊢
      clear hX2 hC2 hP hR hLe hd0
      refine codeT_ghost (ghost_keep2 [39, 40, 41] [.par 100, .par 101, .par 102, .par 103, .par 104] rfl rfl) ?_
      refine codeT_loop (fun p env st => ∃ (j : Nat), j ≤ 3 ∧ p = 3 - j ∧
          env = EnvL.get [(39, .t (.sl 1 (L.map .str))), (40, .t (.int .i64 3)), (41, .t (.int .i64 (j : Int)))] ∧ st = StO.get [(.par 100, some (.dat (.fix 0 oF))), (.par 101, some (.dat (.fix 1 oA))), (.par 102, some (.dat (.fix 2 oP))), (.par 103, some (.dat (.fix 3 oS))), (.par 104, some (.dat (.fix 4 oR)))])
        ?_ (n := 3) ⟨0, by omega, rfl, rfl, rfl⟩
      rintro p env st ⟨j, hj, rfl, rfl, rfl⟩
      by_cases hlt : j < 3
      · have hm : L.getD (j : Int).toNat default ∈ L := by
          rw [List.getD_eq_getElem?_getD, List.getElem?_eq_getElem (by omega)]; exact List.getElem_mem _
        have hx := hLx _ hm
        have hD := jDec_spec hS hPw G (L.getD (j : Int).toNat default) (by omega)
        rcases jDec_two (V := V) (L.getD (j : Int).toNat default) with e | ⟨x, e, vx, ix, ox, zx, ex⟩
        · rw [e] at hD
          simp only at hD
          rw [zero_toT] at hD
          repeat' (first | (with_reducible refine codeT_seq ?_) | (with_reducible refine codeT_block ?_) | (with_reducible refine codeT_skip ?_) | (with_reducible refine codeT_exit ?_) | (with_reducible refine codeT_regionL ?_) | (with_reducible refine lx_nil ?_) | (with_reducible refine q_then ?_) | (with_reducible refine q_then_exit ?_) | ((with_reducible refine q_block_same ?_ ?_); · rfl) | (with_reducible refine q_loop_exit ?_) | refine c_condT rfl ?_ | refine c_condF rfl ?_ | ((with_reducible refine g_move ?_); first | refine lx_move (r := (.t _)) rfl rfl rfl rfl rfl ?_ | refine lx_move (r := (.tup _)) rfl rfl rfl rfl rfl ?_) | ((with_reducible refine g_load ?_); first | refine lx_load_varA (r := (.t (.agg _))) rfl rfl rfl rfl rfl rfl rfl rfl rfl ?_ | refine lx_load_tp rfl rfl rfl rfl rfl rfl rfl ?_) | ((with_reducible refine g_binOp ?_); first | refine lx_arith rfl rfl rfl rfl rfl rfl rfl ?_) | ((with_reducible refine g_assign ?_); first | refine lx_assign (r := (.t _)) rfl rfl rfl rfl rfl ?_) | ((with_reducible refine g_pick ?_); first | refine lx_pickF (r := (.t _)) rfl rfl rfl rfl rfl rfl ?_) | ((with_reducible refine g_alloc ?_); first | refine lx_alloc rfl rfl rfl rfl rfl rfl rfl ?_) | ((with_reducible refine g_store ?_); first | refine lx_store_var (r := (.t (.agg _))) rfl rfl rfl rfl rfl rfl rfl rfl rfl rfl ?_) | ((with_reducible refine g_indexAddr ?_); first | refine lx_indexAddr_map rfl rfl rfl rfl rfl rfl ?_ ?_ ?_) | ((with_reducible refine g_unOp ?_); first | refine lx_not rfl rfl rfl rfl rfl ?_) | ((with_reducible refine g_extract ?_); first | refine lx_extract rfl rfl rfl rfl rfl rfl ?_) | ((with_reducible refine g_build ?_); first | refine lx_build (r := (.t (.agg _))) rfl rfl rfl rfl rfl rfl rfl ?_) | ((with_reducible refine g_call ?_); first | refine lx_call (r' := .tup [.t (.agg [_, _, _, _, _, _]), .t (.int .i64 4)]) [] rfl rfl hD (ArgsLE.refl _) rfl ⟨rfl, rfl, rfl, rfl, rfl, trivial⟩ rfl rfl rfl rfl rfl rfl rfl rfl rfl rfl ?_ | refine lx_callT rfl rfl hZ rfl rfl hZA rfl rfl rfl rfl rfl ?_) | refine c_condP rfl (fun hc => ?_) (fun hc => ?_))
          all_goals try omega
          all_goals try (exact absurd hc (by decide))
          exact q_loop (n' := 3 - (j + 1)) (by omega) (ghost_keep2 [39, 40, 41] [.par 100, .par 101, .par 102, .par 103, .par 104] rfl rfl) ⟨j + 1, by omega, rfl, by rw [wrap64 (by omega) (by omega)]; rfl, rfl⟩
        · have hC := jEnc_spec hS hPw x ox ix (fun _ => by have : x.jb.length ≤ 65536 := zx; omega)
          rw [jEnc_gEnc, gEnc_ok (C := jsC) vx zx, ← ex] at hC
          have hv := rValid_spec hS x ox
          rw [vx] at hv
          rw [e] at hD
          simp only at hD hC
          have tx := x.toT_full
          rw [tx] at hD hC hv
          repeat' (first | (with_reducible refine codeT_seq ?_) | (with_reducible refine codeT_block ?_) | (with_reducible refine codeT_skip ?_) | (with_reducible refine codeT_ret ?_) | (with_reducible refine codeT_exit ?_) | (with_reducible refine codeT_regionL ?_) | (with_reducible refine lx_nil ?_) | (with_reducible refine q_then ?_) | (with_reducible refine q_then_exit ?_) | (with_reducible refine q_then_ret ?_) | (with_reducible refine q_block ?_) | (with_reducible refine q_block_ret ?_) | ((with_reducible refine q_block_same ?_ ?_); · rfl) | (with_reducible refine q_loop_exit ?_) | (with_reducible refine q_loop_ret ?_) | refine c_condT rfl ?_ | refine c_condF rfl ?_ | ((with_reducible refine g_guard ?_); first | refine lx_skip rfl rfl rfl ?_) | ((with_reducible refine g_move ?_); first | refine lx_move (r := (.t _)) rfl rfl rfl rfl rfl ?_ | refine lx_move (r := (.tup _)) rfl rfl rfl rfl rfl ?_) | ((with_reducible refine g_load ?_); first | refine lx_load_varA (r := (.t (.agg _))) rfl rfl rfl rfl rfl rfl rfl rfl rfl ?_ | refine lx_load_tp rfl rfl rfl rfl rfl rfl rfl ?_) | ((with_reducible refine g_binOp ?_); first | refine lx_arith rfl rfl rfl rfl rfl rfl rfl ?_ | refine lx_str_ne rfl rfl rfl rfl rfl rfl ?_) | ((with_reducible refine g_assign ?_); first | refine lx_assign (r := (.t _)) rfl rfl rfl rfl rfl ?_) | ((with_reducible refine g_pick ?_); first | refine lx_pickT (r := (.t _)) rfl rfl rfl rfl rfl rfl ?_ | refine lx_pickF (r := (.t _)) rfl rfl rfl rfl rfl rfl ?_) | ((with_reducible refine g_alloc ?_); first | refine lx_alloc rfl rfl rfl rfl rfl rfl rfl ?_) | ((with_reducible refine g_store ?_); first | refine lx_store_var (r := (.t (.agg _))) rfl rfl rfl rfl rfl rfl rfl rfl rfl rfl ?_) | ((with_reducible refine g_indexAddr ?_); first | refine lx_indexAddr_map rfl rfl rfl rfl rfl rfl ?_ ?_ ?_) | ((with_reducible refine g_unOp ?_); first | refine lx_not rfl rfl rfl rfl rfl ?_) | ((with_reducible refine g_extract ?_); first | refine lx_extract rfl rfl rfl rfl rfl rfl ?_) | ((with_reducible refine g_call ?_); first | refine lx_call (r' := .tup [.t (.agg [_, _, _, _, _, _]), .t (.int .i64 0)]) [] rfl rfl hD (ArgsLE.refl _) rfl ⟨rfl, rfl, rfl, rfl, rfl, trivial⟩ rfl rfl rfl rfl rfl rfl rfl rfl rfl rfl ?_ | refine lx_call (r' := .tup [.t (.str _), .t (.int .i64 0)]) [] rfl rfl hC (ArgsLE.refl _) rfl ⟨rfl, rfl, rfl, trivial⟩ rfl rfl rfl rfl rfl rfl rfl rfl rfl rfl ?_ | refine lx_call (r' := .t (.bool true)) [] rfl rfl hv (ArgsLE.refl _) rfl ⟨rfl, rfl, trivial⟩ rfl rfl rfl rfl rfl rfl rfl rfl rfl rfl ?_) | refine c_condP rfl (fun hc => ?_) (fun hc => ?_) | refine lx_splitN rfl (fun hc => ?_) (fun hc => ?_))
          all_goals try omega
          · exact q_loop (n' := 3 - (j + 1)) (by omega) (ghost_keep2 [39, 40, 41] [.par 100, .par 101, .par 102, .par 103, .par 104] rfl rfl) ⟨j + 1, by omega, rfl, by rw [wrap64 (by omega) (by omega)]; rfl, rfl⟩
          · exact absurd rfl hc
      · repeat' (first | (with_reducible refine codeT_seq ?_) | (with_reducible refine codeT_regionL ?_) | (with_reducible refine lx_nil ?_) | (with_reducible refine q_then ?_) | ((with_reducible refine g_binOp ?_); first | refine lx_arith rfl rfl rfl rfl rfl rfl rfl ?_))
        refine c_condP rfl (fun hc => absurd hc (by omega)) (fun hc => ?_)
        repeat' (first | (with_reducible refine codeT_seq ?_) | (with_reducible refine codeT_ret ?_) | (with_reducible refine codeT_exit ?_) | (with_reducible refine codeT_regionL ?_) | (with_reducible refine lx_nil ?_) | (with_reducible refine q_then ?_) | (with_reducible refine q_then_exit ?_) | ((with_reducible refine q_block_same ?_ ?_); · rfl) | (with_reducible refine q_loop_exit ?_) | ((with_reducible refine g_assign ?_); first | refine lx_assign (r := (.t _)) rfl rfl rfl rfl rfl ?_) | ((with_reducible refine g_call ?_); first | refine lx_call (r' := .t (.bool true)) [] rfl rfl hA (ArgsLE.refl _) rfl ⟨rfl, rfl, rfl, trivial⟩ rfl rfl rfl rfl rfl rfl rfl rfl rfl rfl ?_))
        exact q_ret (resT_oneE rfl rfl rfl) (stHas_spec ⟨rfl, rfl, rfl, rfl, rfl, trivial⟩)
  · rw [decide_eq_false hl] at hL
    refine spec_intro (env0 := [(0, _), (1, _), (2, _), (3, _)]) (st0 := [(_, some _), (_, some _), (_, some _), (_, some _), (_, some _)]) Tryd.func5 rfl rfl rfl rfl ?_
    repeat' (first | (with_reducible refine codeT_seq ?_) | (with_reducible refine codeT_ret ?_) | (with_reducible refine codeT_regionL ?_) | (with_reducible refine lx_nil ?_) | (with_reducible refine q_then ?_) | (with_reducible refine q_then_ret ?_) | refine c_condT rfl ?_ | ((with_reducible refine g_guard ?_); first | refine lx_skip rfl rfl rfl ?_) | ((with_reducible refine g_move ?_); first | refine lx_move (r := (.t _)) rfl rfl rfl rfl rfl ?_) | ((with_reducible refine g_assign ?_); first | refine lx_assign (r := (.t _)) rfl rfl rfl rfl rfl ?_) | ((with_reducible refine g_pick ?_); first | refine lx_pickT (r := (.t _)) rfl rfl rfl rfl rfl rfl ?_) | ((with_reducible refine g_unOp ?_); first | refine lx_not rfl rfl rfl rfl rfl ?_) | ((with_reducible refine g_call ?_); first | refine lx_callT rfl rfl hL rfl rfl (ArgsLE.refl _) rfl rfl rfl rfl rfl ?_ | refine lx_call (r' := .t (.bool true)) [] rfl rfl hA (ArgsLE.refl _) rfl ⟨rfl, rfl, rfl, trivial⟩ rfl rfl rfl rfl rfl rfl rfl rfl rfl rfl ?_))
    exact q_ret (resT_oneE rfl rfl rfl) (stHas_spec ⟨rfl, rfl, rfl, rfl, rfl, trivial⟩)
end Go.AL
