/- That the law JsonBack is true, as a contract. -/
import Derived.Test.YtmidabiehblekaaDoorJsg
import Derived.Test.YtmidabiehblekaaDoorJsd
import Derived.Test.YtmidabiehblekaaDoorNod2
import Derived.Test.YtmidabiehblekaaDoorJnc
import Derived.Test.YtmidabiehblekaaDoorJne
set_option linter.unusedVariables false
namespace Go.AL
open Go Go.Proofs Go.RowKit

end Go.AL
/- That the law JsonOnce is true, as a contract. -/
set_option linter.unusedVariables false
namespace Go.AL
open Go Go.Proofs Go.RowKit

end Go.AL
/- That the law JsonQuotes is true, as a contract. -/
set_option linter.unusedVariables false
namespace Go.AL
open Go Go.Proofs Go.RowKit

set_option maxHeartbeats 4000000 in
theorem rQuote_spec {oF oA : Obj} {V : ByteArray → Bool} (hS : VSpec oF oA V) (s : ByteArray) (hs : s.size ≤ 65536) : Spec Tryd.prog 21 [.t (.str s)] [(.par 100, .dat (.fix 0 oF)), (.par 101, .dat (.fix 1 oA))] (.tup [.t (.str (jQuote V s).1), .t (.int .i64 (jQuote V s).2)]) [(.par 100, .dat (.fix 0 oF)), (.par 101, .dat (.fix 1 oA))] := by
  have hV := hS s hs
  have hQ := rquote_spec s (by omega)
  unfold jQuote
  cases hv : V s with
  | true =>
    rw [hv] at hV
    rw [if_pos rfl]
    refine spec_intro (env0 := [(0, _)]) (st0 := [(_, some _), (_, some _)]) Tryd.func21 rfl rfl rfl rfl ?_
    repeat' (first | (with_reducible refine codeT_seq ?_) | (with_reducible refine codeT_skip ?_) | (with_reducible refine codeT_ret ?_) | (with_reducible refine codeT_regionL ?_) | (with_reducible refine lx_nil ?_) | (with_reducible refine q_then ?_) | refine c_condF rfl ?_ | ((with_reducible refine g_move ?_); first | refine lx_move (r := (.t _)) rfl rfl rfl rfl rfl ?_) | ((with_reducible refine g_assign ?_); first | refine lx_assign (r := (.t _)) rfl rfl rfl rfl rfl ?_) | ((with_reducible refine g_unOp ?_); first | refine lx_not rfl rfl rfl rfl rfl ?_) | ((with_reducible refine g_call ?_); first | refine lx_call (r' := .t (.bool true)) [] rfl rfl hV (ArgsLE.refl _) rfl ⟨rfl, rfl, trivial⟩ rfl rfl rfl rfl rfl rfl rfl rfl rfl rfl ?_ | refine lx_callT rfl rfl hQ rfl rfl (ArgsLE.refl _) rfl rfl rfl rfl rfl ?_))
    exact q_ret (resT_twoE rfl rfl rfl rfl rfl) (stHas_spec ⟨rfl, rfl, trivial⟩)
  | false =>
    rw [hv] at hV
    rw [if_neg (by simp)]
    refine spec_intro (env0 := [(0, _)]) (st0 := [(_, some _), (_, some _)]) Tryd.func21 rfl rfl rfl rfl ?_
    repeat' (first | (with_reducible refine codeT_seq ?_) | (with_reducible refine codeT_ret ?_) | (with_reducible refine codeT_regionL ?_) | (with_reducible refine lx_nil ?_) | (with_reducible refine q_then ?_) | (with_reducible refine q_then_ret ?_) | refine c_condT rfl ?_ | ((with_reducible refine g_move ?_); first | refine lx_move (r := (.t _)) rfl rfl rfl rfl rfl ?_) | ((with_reducible refine g_assign ?_); first | refine lx_assign (r := (.t _)) rfl rfl rfl rfl rfl ?_) | ((with_reducible refine g_unOp ?_); first | refine lx_not rfl rfl rfl rfl rfl ?_) | ((with_reducible refine g_call ?_); first | refine lx_call (r' := .t (.bool false)) [] rfl rfl hV (ArgsLE.refl _) rfl ⟨rfl, rfl, trivial⟩ rfl rfl rfl rfl rfl rfl rfl rfl rfl rfl ?_))
    exact q_ret (resT_twoE rfl rfl rfl rfl rfl) (stHas_spec ⟨rfl, rfl, trivial⟩)
theorem hexB_ge (n : Nat) (h : n < 16) : 32 ≤ (hexB n).toNat := by
  have key : ∀ n : Fin 16, 32 ≤ (hexB n.val).toNat := by decide
  exact key ⟨n, h⟩
theorem jEsc_ge (c : UInt8) : ∀ b ∈ jEsc c, 32 ≤ b.toNat := by
  have key : ∀ x ∈ escL, 32 ≤ x.2.toNat := by decide
  have hc := c.toNat_lt
  unfold jEsc
  split
  · rename_i l h
    have hm : (c, l) ∈ escL := by
      obtain ⟨x, hx⟩ : ∃ x, x = escL := ⟨_, rfl⟩
      unfold escO at h
      rw [← hx] at h ⊢
      clear hx key
      induction x with
      | nil => simp at h
      | cons x L ih =>
        obtain ⟨a, b⟩ := x
        simp only [List.lookup] at h
        split at h
        · rename_i he
          have : c = a := by simpa using he
          cases h; subst this; simp
        · exact List.mem_cons_of_mem _ (ih h)
    intro b hb
    simp only [List.mem_cons, List.not_mem_nil, or_false] at hb
    rcases hb with rfl | rfl
    · decide
    · exact key _ hm
  · split
    · have h1 := hexB_ge (c.toNat / 16) (by omega)
      have h2 := hexB_ge (c.toNat % 16) (by omega)
      intro b hb
      simp only [List.mem_cons, List.not_mem_nil, or_false] at hb
      rcases hb with rfl | rfl | rfl | rfl | rfl | rfl
      · decide
      · decide
      · decide
      · decide
      · exact h1
      · exact h2
    · intro b hb
      rw [List.mem_singleton.1 hb]; omega
theorem jEscs_ge : ∀ l : List UInt8, ∀ b ∈ jEscs l, 32 ≤ b.toNat
  | [], b, h => by simp [jEscs] at h
  | c :: l, b, h => by
    simp only [jEscs, List.mem_append] at h
    rcases h with h | h
    · exact jEsc_ge c b h
    · exact jEscs_ge l b h
theorem jQ_ge (s : ByteArray) : ∀ b ∈ jQ s, 32 ≤ b.toNat := by
  intro b h
  simp only [jQ, List.mem_cons, List.mem_append, List.not_mem_nil, or_false] at h
  rcases h with rfl | h | rfl
  · decide
  · exact jEscs_ge _ b h
  · decide
theorem bAt_jQ (s : ByteArray) (i : Nat) (h : i < (jQ s).length) : 32 ≤ bAt (ofL (jQ s)) (i : Int) := by
  have h1 : bAt (ofL (jQ s)) (i : Int) = (((jQ s).getD i default).toNat : Int) := rfl
  rw [h1]
  have := jQ_ge s ((jQ s).getD i default) (by rw [List.getD_eq_getElem?_getD, List.getElem?_eq_getElem h]; exact List.getElem_mem _)
  omega
theorem textN_valid {V : ByteArray → Bool} {t : ByteArray} (h : V t = true) (hs : t.size ≤ 65536) : (Nd.mk 3 false 0 t [] []).validB V 8 = true := by
  have h2 : (t.size : Int) ≤ 65536 := by omega
  simp [Nd.validB, Nd.fieldsOK, textB, Nd.anyBad, h, h2]
theorem textN_in (t : ByteArray) : (Nd.mk 3 false 0 t [] []).In := .mk (by decide) (by decide) (by simp)
theorem jDec_quote {V : ByteArray → Bool} {t : ByteArray} (h : V t = true) (hs : t.size ≤ 10000) : gDec jsC V (ofL (jQ t)) = (.mk 3 false 0 t [] [], 0) := by
  have e : jsC.E (.mk 3 false 0 t [] []) = jQ t := by show Nd.jb _ = _; simp [Nd.jb]
  have := (jQ_len t).2
  rw [← e]
  exact gDec_back (C := jsC) (textN_valid h (by omega)) (textN_in t) (by rw [e]; omega)
end Go.AL
/- That the law JsonQuotes is true, as a contract. -/
set_option linter.unusedVariables false
namespace Go.AL
open Go Go.Proofs Go.RowKit

set_option maxHeartbeats 16000000 in
theorem JsonQuotes_spec {oF oA oP oS oR : Obj} {V : ByteArray → Bool} (hS : VSpec oF oA V) (hPw : isTabOf .u64 Lib.pow10Tab oP) (G : EOk oS oR) (hV : VOk V) (s : ByteArray) (c : Int) : Spec Tryd.prog 6 [.t (.str s), .t (.int .u8 c)] [(.par 100, .dat (.fix 0 oF)), (.par 101, .dat (.fix 1 oA)), (.par 102, .dat (.fix 2 oP)), (.par 103, .dat (.fix 3 oS)), (.par 104, .dat (.fix 4 oR))] (.t (.bool true)) [(.par 100, .dat (.fix 0 oF)), (.par 101, .dat (.fix 1 oA)), (.par 102, .dat (.fix 2 oP)), (.par 103, .dat (.fix 3 oS)), (.par 104, .dat (.fix 4 oR))] := by
  have hA := awake6_spec hS hPw hV
  by_cases hs : 300 < (s.size : Int)
  · refine spec_intro (env0 := [(0, _), (1, _)]) (st0 := [(_, some _), (_, some _), (_, some _), (_, some _), (_, some _)]) Tryd.func6 rfl rfl rfl rfl ?_
    repeat' (first | (with_reducible refine codeT_seq ?_) | (with_reducible refine codeT_skip ?_) | (with_reducible refine codeT_ret ?_) | (with_reducible refine codeT_regionL ?_) | (with_reducible refine lx_nil ?_) | (with_reducible refine q_then ?_) | (with_reducible refine q_then_ret ?_) | (exfalso; omega) | ((with_reducible refine g_move ?_); first | refine lx_move (r := (.t _)) rfl rfl rfl rfl rfl ?_) | ((with_reducible refine g_binOp ?_); first | refine lx_arith rfl rfl rfl rfl rfl rfl rfl ?_) | ((with_reducible refine g_assign ?_); first | refine lx_assign (r := (.t _)) rfl rfl rfl rfl rfl ?_) | ((with_reducible refine g_len ?_); first | refine lx_len_str rfl rfl rfl rfl rfl ?_) | ((with_reducible refine g_call ?_); first | refine lx_call (r' := .t (.bool true)) [] rfl rfl hA (ArgsLE.refl _) rfl ⟨rfl, rfl, rfl, trivial⟩ rfl rfl rfl rfl rfl rfl rfl rfl rfl rfl ?_) | refine c_condP rfl (fun hc => ?_) (fun hc => ?_))
    all_goals try (exfalso; omega)
    all_goals exact q_ret (resT_oneE rfl rfl rfl) (stHas_spec ⟨rfl, rfl, rfl, rfl, rfl, trivial⟩)
  · refine spec_intro (env0 := [(0, _), (1, _)]) (st0 := [(_, some _), (_, some _), (_, some _), (_, some _), (_, some _)]) Tryd.func6 rfl rfl rfl rfl ?_
    repeat' (first | (with_reducible refine codeT_seq ?_) | (with_reducible refine codeT_block ?_) | (with_reducible refine codeT_skip ?_) | (with_reducible refine codeT_regionL ?_) | (with_reducible refine lx_nil ?_) | (with_reducible refine q_then ?_) | (exfalso; omega) | ((with_reducible refine g_move ?_); first | refine lx_move (r := (.t _)) rfl rfl rfl rfl rfl ?_) | ((with_reducible refine g_binOp ?_); first | refine lx_arith rfl rfl rfl rfl rfl rfl rfl ?_ | refine lx_concat rfl rfl rfl rfl rfl rfl ?_ ?_ | refine lx_rem rfl rfl rfl rfl rfl rfl (by decide) ?_) | ((with_reducible refine g_assign ?_); first | refine lx_assign (r := (.t _)) rfl rfl rfl rfl rfl ?_) | ((with_reducible refine g_convert ?_); first | refine lx_ofBytes_row rfl rfl rfl rfl rfl rfl ?_ ?_) | ((with_reducible refine g_buildSlice ?_); first | refine lx_buildSlice rfl rfl rfl rfl rfl rfl rfl ?_) | ((with_reducible refine g_len ?_); first | refine lx_len_str rfl rfl rfl rfl rfl ?_ | refine lx_len_row rfl rfl rfl rfl rfl rfl ?_) | refine c_condP rfl (fun hc => ?_) (fun hc => ?_))
    all_goals try (exfalso; omega)
    all_goals try (intro e he; simp only [List.mem_cons, List.not_mem_nil, or_false] at he; rcases he with rfl | rfl | rfl <;> rfl; done)
    all_goals try (intro e he; simp only [List.mem_cons, List.not_mem_nil, or_false] at he; rcases he with rfl <;> rfl; done)
    · rw [strT_len]; simp only [List.length_cons, List.length_nil]; omega
    obtain ⟨y1, hy1⟩ : ∃ y1, y1 = s ++ strT [T.int IntKind.u8 (c.tmod 128)] := ⟨_, rfl⟩
    obtain ⟨y2, hy2⟩ : ∃ y2, y2 = strT [T.int IntKind.u8 c] := ⟨_, rfl⟩
    obtain ⟨y3, hy3⟩ : ∃ y3, y3 = strT [T.int IntKind.u8 (c.tmod 32), T.int IntKind.u8 34, T.int IntKind.u8 92] := ⟨_, rfl⟩
    have z1 : y1.size ≤ 301 := by rw [hy1, ByteArray.size_append, strT_len]; simp only [List.length_cons, List.length_nil]; omega
    have z2 : y2.size ≤ 301 := by rw [hy2, strT_len]; simp
    have z3 : y3.size ≤ 301 := by rw [hy3, strT_len]; simp
    rw [← hy1, ← hy2, ← hy3]
    clear hy1 hy2 hy3
    refine codeT_ghost (ghost_keep2 [32, 33, 34] [.loc 32, .par 100, .par 101, .par 102, .par 103, .par 104] rfl rfl) ?_
    refine codeT_ghost (ghost_freezeL (id := .loc 32) rfl rfl rfl) ?_
    have hLx : ∀ x ∈ [s, y1, y2, y3], x.size ≤ 301 := by
      intro x hx
      simp only [List.mem_cons, List.not_mem_nil, or_false] at hx
      rcases hx with rfl | rfl | rfl | rfl <;> omega
    refine codeT_ghost (ghost_le 32 (y := .sl 1 ([s, y1, y2, y3].map .str)) rfl (.refl _) rfl) ?_
    obtain ⟨L, hLe⟩ : ∃ L, L = [s, y1, y2, y3] := ⟨_, rfl⟩
    have hL4 : L.length = 4 := by rw [hLe]; rfl
    rw [← hLe] at hLx ⊢
    clear hLe z1 z2 z3
    refine codeT_ghost (ghost_keep2 [32, 33, 34] [.par 100, .par 101, .par 102, .par 103, .par 104] rfl rfl) ?_
    refine codeT_loop (fun p env st => ∃ (j : Nat), j ≤ 4 ∧ p = 4 - j ∧
        env = EnvL.get [(32, .t (.sl 1 (L.map .str))), (33, .t (.int .i64 4)), (34, .t (.int .i64 (j : Int)))] ∧ st = StO.get [(.par 100, some (.dat (.fix 0 oF))), (.par 101, some (.dat (.fix 1 oA))), (.par 102, some (.dat (.fix 2 oP))), (.par 103, some (.dat (.fix 3 oS))), (.par 104, some (.dat (.fix 4 oR)))])
      ?_ (n := 4) ⟨0, by omega, rfl, rfl, rfl⟩
    rintro p env st ⟨j, hj, rfl, rfl, rfl⟩
    by_cases hlt : j < 4
    · have hm : L.getD (j : Int).toNat default ∈ L := by
        rw [List.getD_eq_getElem?_getD, List.getElem?_eq_getElem (by omega)]; exact List.getElem_mem _
      have hx := hLx _ hm
      have hq1 := jQuote_spec hS (L.getD (j : Int).toNat default) (by omega)
      have hq2 := rQuote_spec hS (L.getD (j : Int).toNat default) (by omega)
      obtain ⟨x, hxe⟩ : ∃ x, x = L.getD (j : Int).toNat default := ⟨_, rfl⟩
      cases hv : V x with
      | false =>
        have e : jQuote V x = (eS, 4) := by unfold jQuote; rw [hv]; rfl
        rw [← hxe, e] at hq1 hq2
        rw [hxe] at hq1 hq2
        simp only at hq1 hq2
        repeat' (first | (with_reducible refine codeT_seq ?_) | (with_reducible refine codeT_block ?_) | (with_reducible refine codeT_skip ?_) | (with_reducible refine codeT_exit ?_) | (with_reducible refine codeT_regionL ?_) | (with_reducible refine lx_nil ?_) | (with_reducible refine q_then ?_) | (with_reducible refine q_then_exit ?_) | ((with_reducible refine q_block_same ?_ ?_); · rfl) | (with_reducible refine q_loop_exit ?_) | refine c_condT rfl ?_ | refine c_condF rfl ?_ | ((with_reducible refine g_move ?_); first | refine lx_move (r := (.t _)) rfl rfl rfl rfl rfl ?_ | refine lx_move (r := (.tup _)) rfl rfl rfl rfl rfl ?_) | ((with_reducible refine g_load ?_); first | refine lx_load_tp rfl rfl rfl rfl rfl rfl rfl ?_) | ((with_reducible refine g_binOp ?_); first | refine lx_arith rfl rfl rfl rfl rfl rfl rfl ?_ | refine lx_str_ne rfl rfl rfl rfl rfl rfl ?_) | ((with_reducible refine g_assign ?_); first | refine lx_assign (r := (.t _)) rfl rfl rfl rfl rfl ?_) | ((with_reducible refine g_pick ?_); first | refine lx_pickF (r := (.t _)) rfl rfl rfl rfl rfl rfl ?_) | ((with_reducible refine g_indexAddr ?_); first | refine lx_indexAddr_map rfl rfl rfl rfl rfl rfl ?_ ?_ ?_) | ((with_reducible refine g_extract ?_); first | refine lx_extract rfl rfl rfl rfl rfl rfl ?_) | ((with_reducible refine g_call ?_); first | refine lx_call (r' := .tup [.t (.str eS), .t (.int .i64 4)]) [] rfl rfl hq1 (ArgsLE.refl _) rfl ⟨rfl, rfl, trivial⟩ rfl rfl rfl rfl rfl rfl rfl rfl rfl rfl ?_ | refine lx_call (r' := .tup [.t (.str eS), .t (.int .i64 4)]) [] rfl rfl hq2 (ArgsLE.refl _) rfl ⟨rfl, rfl, trivial⟩ rfl rfl rfl rfl rfl rfl rfl rfl rfl rfl ?_) | refine c_condP rfl (fun hc => ?_) (fun hc => ?_))
        all_goals try omega
        all_goals try (exact absurd rfl ‹_›)
        all_goals exact q_loop (n' := 4 - (j + 1)) (by omega) (ghost_keep2 [32, 33, 34] [.par 100, .par 101, .par 102, .par 103, .par 104] rfl rfl) ⟨j + 1, by omega, rfl, by rw [wrap64 (by omega) (by omega)]; rfl, rfl⟩
      | true =>
        have e : jQuote V x = (ofL (jQ x), 0) := by unfold jQuote; rw [hv]; rfl
        rw [← hxe] at hx
        have hql := (jQ_len x).2
        have hD := jDec_spec hS hPw G (ofL (jQ x)) (by rw [ofL_size]; omega)
        rw [jDec_quote hv (by omega)] at hD
        simp only at hD
        rw [show (Nd.mk 3 false 0 x [] []).toT = .agg [.int .i64 3, .bool false, .int .i64 0, .str x, .sl 1 [], .sl 6 []] from (Nd.mk 3 false 0 x [] []).toT_full] at hD
        have hb := bAt_jQ x
        have hsz : (ofL (jQ x)).size = (jQ x).length := ofL_size _
        rw [← hxe, e] at hq1 hq2
        simp only at hq1 hq2
        generalize ofL (jQ x) = a at hq1 hq2 hD hb hsz
        rw [← hsz] at hb hql
        rw [hxe] at hq1 hq2 hD
        clear hxe e hv hsz hm hLx
        repeat' (first | (with_reducible refine codeT_seq ?_) | (with_reducible refine codeT_block ?_) | (with_reducible refine codeT_skip ?_) | (with_reducible refine codeT_ret ?_) | (with_reducible refine codeT_exit ?_) | (with_reducible refine codeT_regionL ?_) | (with_reducible refine lx_nil ?_) | (with_reducible refine q_then ?_) | (with_reducible refine q_then_exit ?_) | (with_reducible refine q_then_ret ?_) | (with_reducible refine q_block_ret ?_) | ((with_reducible refine q_block_same ?_ ?_); · rfl) | (with_reducible refine q_loop_exit ?_) | (with_reducible refine q_loop_ret ?_) | refine c_condT rfl ?_ | refine c_condF rfl ?_ | ((with_reducible refine g_guard ?_); first | refine lx_skip rfl rfl rfl ?_) | ((with_reducible refine g_move ?_); first | refine lx_move (r := (.t _)) rfl rfl rfl rfl rfl ?_ | refine lx_move (r := (.tup _)) rfl rfl rfl rfl rfl ?_) | ((with_reducible refine g_load ?_); first | refine lx_load_tp rfl rfl rfl rfl rfl rfl rfl ?_) | ((with_reducible refine g_binOp ?_); first | refine lx_arith rfl rfl rfl rfl rfl rfl rfl ?_ | refine lx_str_ne rfl rfl rfl rfl rfl rfl ?_) | ((with_reducible refine g_assign ?_); first | refine lx_assign (r := (.t _)) rfl rfl rfl rfl rfl ?_) | ((with_reducible refine g_pick ?_); first | refine lx_pickT (r := (.t _)) rfl rfl rfl rfl rfl rfl ?_ | refine lx_pickF (r := (.t _)) rfl rfl rfl rfl rfl rfl ?_) | ((with_reducible refine g_indexAddr ?_); first | refine lx_indexAddr_map rfl rfl rfl rfl rfl rfl ?_ ?_ ?_) | ((with_reducible refine g_extract ?_); first | refine lx_extract rfl rfl rfl rfl rfl rfl ?_) | ((with_reducible refine g_len ?_); first | refine lx_len_str rfl rfl rfl rfl rfl ?_) | ((with_reducible refine g_call ?_); first | refine lx_call (r' := .tup [.t (.str a), .t (.int .i64 0)]) [] rfl rfl hq1 (ArgsLE.refl _) rfl ⟨rfl, rfl, trivial⟩ rfl rfl rfl rfl rfl rfl rfl rfl rfl rfl ?_ | refine lx_call (r' := .tup [.t (.str a), .t (.int .i64 0)]) [] rfl rfl hq2 (ArgsLE.refl _) rfl ⟨rfl, rfl, trivial⟩ rfl rfl rfl rfl rfl rfl rfl rfl rfl rfl ?_) | refine c_condP rfl (fun hc => ?_) (fun hc => ?_) | refine lx_splitN rfl (fun hc => ?_) (fun hc => ?_))
        all_goals try omega
        all_goals try (exact absurd rfl ‹_›)
        refine codeT_ghost (ghost_keep2 [6, 7, 32, 33, 34, 59, 60] [.par 100, .par 101, .par 102, .par 103, .par 104] rfl rfl) ?_
        refine codeT_loop (fun p env st => ∃ (i : Nat), i ≤ a.size ∧ p = a.size - i ∧
            env = EnvL.get [(6, .t (.str (L.getD (j : Int).toNat default))), (7, .t (.str a)), (32, .t (.sl 1 (L.map .str))), (33, .t (.int .i64 4)), (34, .t (.int .i64 (j : Int))), (59, .t (.int .i64 (a.size : Int))), (60, .t (.int .i64 (i : Int)))] ∧ st = StO.get [(.par 100, some (.dat (.fix 0 oF))), (.par 101, some (.dat (.fix 1 oA))), (.par 102, some (.dat (.fix 2 oP))), (.par 103, some (.dat (.fix 3 oS))), (.par 104, some (.dat (.fix 4 oR)))])
          ?_ (n := a.size) ⟨0, by omega, rfl, rfl, rfl⟩
        rintro p env st ⟨i, hi, rfl, rfl, rfl⟩
        by_cases hia : i < a.size
        · have hbi := hb i hia
          repeat' (first | (with_reducible refine codeT_seq ?_) | (with_reducible refine codeT_block ?_) | (with_reducible refine codeT_skip ?_) | (with_reducible refine codeT_exit ?_) | (with_reducible refine codeT_regionL ?_) | (with_reducible refine lx_nil ?_) | (with_reducible refine q_then ?_) | (with_reducible refine q_then_exit ?_) | (with_reducible refine q_block ?_) | ((with_reducible refine q_block_same ?_ ?_); · rfl) | (with_reducible refine q_loop_exit ?_) | (exfalso; omega) | ((with_reducible refine g_move ?_); first | refine lx_move (r := (.t _)) rfl rfl rfl rfl rfl ?_) | ((with_reducible refine g_binOp ?_); first | refine lx_arith rfl rfl rfl rfl rfl rfl rfl ?_) | ((with_reducible refine g_assign ?_); first | refine lx_assign (r := (.t _)) rfl rfl rfl rfl rfl ?_) | ((with_reducible refine g_index ?_); first | refine lx_index_str rfl rfl rfl rfl rfl rfl ?_ ?_ ?_) | refine c_condP rfl (fun hc => ?_) (fun hc => ?_))
          all_goals try omega
          exact q_loop (n' := a.size - (i + 1)) (by omega) (ghost_keep2 [6, 7, 32, 33, 34, 59, 60] [.par 100, .par 101, .par 102, .par 103, .par 104] rfl rfl) ⟨i + 1, by omega, rfl, by rw [wrap64 (by omega) (by omega)]; rfl, rfl⟩
        · repeat' (first | (with_reducible refine codeT_seq ?_) | (with_reducible refine codeT_block ?_) | (with_reducible refine codeT_skip ?_) | (with_reducible refine codeT_exit ?_) | (with_reducible refine codeT_regionL ?_) | (with_reducible refine lx_nil ?_) | (with_reducible refine q_then ?_) | (with_reducible refine q_then_exit ?_) | (with_reducible refine q_block ?_) | ((with_reducible refine q_block_same ?_ ?_); · rfl) | (with_reducible refine q_loop_exit ?_) | (exfalso; omega) | exact absurd rfl ‹_› | ((with_reducible refine g_move ?_); first | refine lx_move (r := (.t _)) rfl rfl rfl rfl rfl ?_ | refine lx_move (r := (.tup _)) rfl rfl rfl rfl rfl ?_) | ((with_reducible refine g_load ?_); first | refine lx_load_var rfl rfl rfl rfl rfl rfl rfl rfl ?_) | ((with_reducible refine g_fieldAddr ?_); first | refine lx_fieldAddr rfl rfl rfl rfl rfl rfl rfl ?_) | ((with_reducible refine g_binOp ?_); first | refine lx_arith rfl rfl rfl rfl rfl rfl rfl ?_ | refine lx_str_ne rfl rfl rfl rfl rfl rfl ?_) | ((with_reducible refine g_assign ?_); first | refine lx_assign (r := (.t _)) rfl rfl rfl rfl rfl ?_) | ((with_reducible refine g_pick ?_); first | refine lx_pickF (r := (.t _)) rfl rfl rfl rfl rfl rfl ?_) | ((with_reducible refine g_alloc ?_); first | refine lx_alloc rfl rfl rfl rfl rfl rfl rfl ?_) | ((with_reducible refine g_store ?_); first | refine lx_store_var (r := (.t (.agg _))) rfl rfl rfl rfl rfl rfl rfl rfl rfl rfl ?_) | ((with_reducible refine g_extract ?_); first | refine lx_extract rfl rfl rfl rfl rfl rfl ?_) | ((with_reducible refine g_call ?_); first | refine lx_call (r' := .tup [.t (.agg [_, _, _, _, _, _]), .t (.int .i64 0)]) [] rfl rfl hD (ArgsLE.refl _) rfl ⟨rfl, rfl, rfl, rfl, rfl, trivial⟩ rfl rfl rfl rfl rfl rfl rfl rfl rfl rfl ?_) | refine c_condP rfl (fun hc => ?_) (fun hc => ?_) | refine c_condN rfl (fun hc => ?_) (fun hc => ?_))
          all_goals try omega
          all_goals exact q_loop (n' := 4 - (j + 1)) (by omega) (ghost_keep2 [32, 33, 34] [.par 100, .par 101, .par 102, .par 103, .par 104] rfl rfl) ⟨j + 1, by omega, rfl, by rw [wrap64 (by omega) (by omega)]; rfl, rfl⟩
    · repeat' (first | (with_reducible refine codeT_seq ?_) | (with_reducible refine codeT_regionL ?_) | (with_reducible refine lx_nil ?_) | (with_reducible refine q_then ?_) | ((with_reducible refine g_binOp ?_); first | refine lx_arith rfl rfl rfl rfl rfl rfl rfl ?_))
      refine c_condP rfl (fun hc => absurd hc (by omega)) (fun hc => ?_)
      repeat' (first | (with_reducible refine codeT_seq ?_) | (with_reducible refine codeT_ret ?_) | (with_reducible refine codeT_exit ?_) | (with_reducible refine codeT_regionL ?_) | (with_reducible refine lx_nil ?_) | (with_reducible refine q_then ?_) | (with_reducible refine q_then_exit ?_) | ((with_reducible refine q_block_same ?_ ?_); · rfl) | (with_reducible refine q_loop_exit ?_) | ((with_reducible refine g_assign ?_); first | refine lx_assign (r := (.t _)) rfl rfl rfl rfl rfl ?_) | ((with_reducible refine g_call ?_); first | refine lx_call (r' := .t (.bool true)) [] rfl rfl hA (ArgsLE.refl _) rfl ⟨rfl, rfl, rfl, trivial⟩ rfl rfl rfl rfl rfl rfl rfl rfl rfl rfl ?_))
      exact q_ret (resT_oneE rfl rfl rfl) (stHas_spec ⟨rfl, rfl, rfl, rfl, rfl, trivial⟩)
end Go.AL
