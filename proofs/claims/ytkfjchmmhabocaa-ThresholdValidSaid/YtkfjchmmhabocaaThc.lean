/- Which sets of keys are enough, as both sides answer. -/
import Derived.Test.YtkfjchmmhabocaaThb
import Derived.Test.YtkfjchmmhabocaaThp
import Derived.Test.YtkfjchmmhabocaaAl4
set_option linter.unusedVariables false
namespace Go.AL
open Go Go.Proofs Go.RowKit

/-- The keys of a set, as the map holds them. -/
def ksT (ks : List Int) : List (T × T) := ks.map fun x => (T.int .i64 x, T.bool true)
theorem ksT_get (ks : List Int) (k : Nat) : (mget (ksT ks) (.int .i64 (k : Int))).getD (.bool false) = .bool (inK ks k) := mget_ks ks k
theorem ksT_set (s : List Int) (j : Nat) (h : j < s.length) (x : Int) (hx : x = s.getD j default) (h0 : 0 ≤ x) (h8 : x < 8) : mset (ksT (ksF (s.take j))) (.int .i64 x) (.bool true) = ksT (ksF (s.take (j + 1))) := by
  rw [ks_take s j h, ← hx]
  refine (mset_ks _ _).trans ?_
  unfold insK ksT
  split
  · rw [if_neg (fun h => h.2 (by assumption))]
  · rw [if_pos ⟨⟨h0, h8⟩, by assumption⟩]
theorem ks_skip (s : List Int) (j : Nat) (h : j < s.length) (hx : ¬ (0 ≤ s.getD j default ∧ s.getD j default < 8)) : ksF (s.take (j + 1)) = ksF (s.take j) := by
  rw [ks_take s j h]; unfold insK
  rw [if_neg (fun h => hx h.1)]
theorem enough_drop {p : Nat → Bool} {w : List (List Fr)} {i : Nat} (h : i < w.length) (k : Nat) : enoughW p (w.drop i) k = (wholeF (haveF p (w.getD i default) k) && enoughW p (w.drop (i + 1)) (k + (w.getD i default).length)) := by
  rw [drop_getD w i h, enoughW]
theorem lens_le (w : List (List Fr)) : ∀ i, lensT (w.take i) ≤ lensT w := by
  induction w with
  | nil => intro i; simp [lensT]
  | cons x r ih =>
    intro i
    cases i with
    | zero => simp [lensT]
    | succ i => have := ih i; simp only [List.take_succ_cons, lensT]; omega
set_option maxHeartbeats 8000000 in
theorem Enough_spec (t : Th) (s : List Int) (ht : t.Fit) (hs : s.length ≤ 1000000) : Spec Try.prog 13 [.t t.toT, .t (.sl 1 (s.map (T.int .i64)))] [] (.t (.bool (enoughP t s))) [] := by
  obtain ⟨V, hV⟩ : ∃ V, V = enoughP t s := ⟨_, rfl⟩
  rw [← hV]
  obtain ⟨hf1, hf2, hf3, hf4⟩ := ht
  obtain ⟨tn, w⟩ := t
  unfold enoughP at hV
  unfold Th.toT
  simp only at *
  refine spec_intro (env0 := [(0, _), (1, _)]) (st0 := []) Try.func13 rfl rfl rfl rfl ?_
  repeat' (first | (with_reducible refine codeT_seq ?_) | (with_reducible refine codeT_block ?_) | (with_reducible refine codeT_regionL ?_) | (with_reducible refine lx_nil ?_) | (with_reducible refine q_then ?_) | ((with_reducible refine g_move ?_); first | refine lx_move (r := (.t _)) rfl rfl rfl rfl rfl ?_) | ((with_reducible refine g_assign ?_); first | refine lx_assign (r := (.t _)) rfl rfl rfl rfl rfl ?_ | refine lx_assign (r := (.row _)) rfl rfl rfl rfl rfl ?_) | ((with_reducible refine g_box ?_); first | refine lx_box (r := (.t (.agg _))) (cs := (List.map .t _)) rfl rfl rfl rfl rfl rfl rfl rfl rfl ?_) | ((with_reducible refine g_len ?_); first | refine lx_len_map rfl rfl rfl rfl rfl ?_) | ((with_reducible refine g_makeMap ?_); first | refine lx_makeMap rfl rfl rfl rfl rfl ?_))
  refine codeT_ghost (ghost_keep2 [2, 4, 5, 15, 16, 17] [.loc 2, .loc 14] rfl rfl) ?_
  refine codeT_loop (fun q env st => ∃ (j : Nat), j ≤ s.length ∧ q = s.length - j ∧ env = EnvL.get [(2, .ref (.loc 2) 0 0 0), (4, .t (.bool false)), (5, .row (.loc 14)), (15, .t (.sl 1 (s.map (T.int .i64)))), (16, .t (.int .i64 (s.length : Int))), (17, .t (.int .i64 (j : Int)))] ∧
      st = StO.get [(.loc 2, some (.var 30 [.t (.int .i64 tn), .t (.sl 1 (w.map frs))])), (.loc 14, some (.dat (.map (ksT (ksF (s.take j))))))])
    ?_ (n := s.length) ⟨0, by omega, rfl, rfl, rfl⟩
  rintro q env st ⟨j, hj, rfl, rfl, rfl⟩
  have wj : IntKind.i64.wrap ((j : Int) + 1) = ((j + 1 : Nat) : Int) := by rw [wrap64 (by omega) (by omega)]; omega
  by_cases hlt : j < s.length
  · have hok : keysOK (.int .i64) (ksT (ksF (s.take j))) = true := keysOK_ks (ksF (s.take j))
    by_cases hb : 0 ≤ s.getD (j : Int).toNat default ∧ s.getD (j : Int).toNat default < 8
    · have hb1 := hb.1
      have hb2 := hb.2
      have hset := ksT_set s j hlt (s.getD (j : Int).toNat default) rfl hb1 hb2
      repeat' (first | (with_reducible refine codeT_seq ?_) | (with_reducible refine codeT_block ?_) | (with_reducible refine codeT_skip ?_) | (with_reducible refine codeT_exit ?_) | (with_reducible refine codeT_regionL ?_) | (with_reducible refine lx_nil ?_) | (with_reducible refine q_then ?_) | (with_reducible refine q_then_exit ?_) | (with_reducible refine q_block ?_) | ((with_reducible refine q_block_same ?_ ?_); · rfl) | (with_reducible refine q_loop_exit ?_) | (exfalso; omega) | ((with_reducible refine g_move ?_); first | refine lx_move (r := (.t _)) rfl rfl rfl rfl rfl ?_ | refine lx_move (r := (.row _)) rfl rfl rfl rfl rfl ?_) | ((with_reducible refine g_load ?_); first | refine lx_load_tp rfl rfl rfl rfl rfl rfl rfl ?_) | ((with_reducible refine g_binOp ?_); first | refine lx_arith rfl rfl rfl rfl rfl rfl rfl ?_) | ((with_reducible refine g_assign ?_); first | refine lx_assign (r := (.t _)) rfl rfl rfl rfl rfl ?_) | ((with_reducible refine g_pick ?_); first | refine lx_pickT (r := (.t _)) rfl rfl rfl rfl rfl rfl ?_) | ((with_reducible refine g_indexAddr ?_); first | refine lx_indexAddr_map rfl rfl rfl rfl rfl rfl ?_ ?_ ?_) | ((with_reducible refine g_mapUpdate ?_); first | refine lx_mapUpdate rfl rfl rfl rfl rfl rfl rfl rfl ?_ ?_) | refine c_condP rfl (fun hc => ?_) (fun hc => ?_) | refine lx_splitP rfl (fun hc => ?_) (fun hc => ?_))
      all_goals try omega
      all_goals try exact hok
      exact q_loop (n' := s.length - (j + 1)) (by omega) (ghost_keep2 [2, 4, 5, 15, 16, 17] [.loc 2, .loc 14] rfl rfl) ⟨j + 1, by omega, rfl, by rw [wj]; rfl, by rw [hset]; rfl⟩
    · have hskip := ks_skip s j hlt hb
      repeat' (first | (with_reducible refine codeT_seq ?_) | (with_reducible refine codeT_block ?_) | (with_reducible refine codeT_skip ?_) | (with_reducible refine codeT_exit ?_) | (with_reducible refine codeT_regionL ?_) | (with_reducible refine lx_nil ?_) | (with_reducible refine q_then ?_) | (with_reducible refine q_then_exit ?_) | (with_reducible refine q_block ?_) | ((with_reducible refine q_block_same ?_ ?_); · rfl) | (with_reducible refine q_loop_exit ?_) | refine c_condF rfl ?_ | (exfalso; omega) | ((with_reducible refine g_guard ?_); first | refine lx_skip rfl rfl rfl ?_) | ((with_reducible refine g_move ?_); first | refine lx_move (r := (.t _)) rfl rfl rfl rfl rfl ?_) | ((with_reducible refine g_load ?_); first | refine lx_load_tp rfl rfl rfl rfl rfl rfl rfl ?_) | ((with_reducible refine g_binOp ?_); first | refine lx_arith rfl rfl rfl rfl rfl rfl rfl ?_) | ((with_reducible refine g_assign ?_); first | refine lx_assign (r := (.t _)) rfl rfl rfl rfl rfl ?_) | ((with_reducible refine g_pick ?_); first | refine lx_pickT (r := (.t _)) rfl rfl rfl rfl rfl rfl ?_ | refine lx_pickF (r := (.t _)) rfl rfl rfl rfl rfl rfl ?_) | ((with_reducible refine g_indexAddr ?_); first | refine lx_indexAddr_map rfl rfl rfl rfl rfl rfl ?_ ?_ ?_) | refine c_condP rfl (fun hc => ?_) (fun hc => ?_) | refine lx_splitP rfl (fun hc => ?_) (fun hc => ?_))
      all_goals try omega
      all_goals exact q_loop (n' := s.length - (j + 1)) (by omega) (ghost_keep2 [2, 4, 5, 15, 16, 17] [.loc 2, .loc 14] rfl rfl) ⟨j + 1, by omega, rfl, by rw [wj]; rfl, by rw [hskip]; rfl⟩
  · obtain rfl : j = s.length := by omega
    rw [List.take_length]
    have hr := ks_range s
    have hok : keysOK (.int .i64) (ksT (ksF s)) = true := keysOK_ks (ksF s)
    have hlen : ((ksT (ksF s)).length : Int) = ((ksF s).length : Int) := by unfold ksT; rw [List.length_map]
    generalize ksF s = KS at *
    by_cases hn : tn = 0
    · rw [if_neg (by simp [hn])] at hV
      repeat' (first | (with_reducible refine codeT_seq ?_) | (with_reducible refine codeT_block ?_) | (with_reducible refine codeT_skip ?_) | (with_reducible refine codeT_exit ?_) | (with_reducible refine codeT_regionL ?_) | (with_reducible refine lx_nil ?_) | (with_reducible refine q_then ?_) | (with_reducible refine q_then_exit ?_) | ((with_reducible refine q_block_same ?_ ?_); · rfl) | (with_reducible refine q_loop_exit ?_) | (exfalso; omega) | ((with_reducible refine g_move ?_); first | refine lx_move (r := (.t _)) rfl rfl rfl rfl rfl ?_) | ((with_reducible refine g_load ?_); first | refine lx_load_var rfl rfl rfl rfl rfl rfl rfl rfl ?_) | ((with_reducible refine g_fieldAddr ?_); first | refine lx_fieldAddr rfl rfl rfl rfl rfl rfl rfl ?_) | ((with_reducible refine g_binOp ?_); first | refine lx_arith rfl rfl rfl rfl rfl rfl rfl ?_) | ((with_reducible refine g_assign ?_); first | refine lx_assign (r := (.t _)) rfl rfl rfl rfl rfl ?_) | ((with_reducible refine g_len ?_); first | refine lx_len_map rfl rfl rfl rfl rfl ?_) | refine c_condP rfl (fun hc => ?_) (fun hc => ?_) | refine c_condN rfl (fun hc => ?_) (fun hc => ?_))
      refine codeT_ghost (ghost_keep2 [4, 5, 8, 39, 40, 41] [.loc 14] rfl rfl) ?_
      refine codeT_loop (fun q env st => ∃ (j : Nat), j ≤ w.length ∧ q = w.length - j ∧ V = enoughW (inK KS) (w.drop j) (lensT (w.take j)) ∧ env = EnvL.get [(4, .t (.bool false)), (5, .row (.loc 14)), (8, .t (.int .i64 (lensT (w.take j) : Int))), (39, .t (.sl 1 (w.map frs))), (40, .t (.int .i64 (w.length : Int))), (41, .t (.int .i64 (j : Int)))] ∧
          st = StO.get [(.loc 14, some (.dat (.map (ksT KS))))])
        ?_ (n := w.length) ⟨0, by omega, rfl, hV, rfl, rfl⟩
      rintro q env st ⟨j, hj, rfl, hE, rfl, rfl⟩
      have wj : IntKind.i64.wrap ((j : Int) + 1) = ((j + 1 : Nat) : Int) := by rw [wrap64 (by omega) (by omega)]; omega
      by_cases hlt : j < w.length
      · have hm := getD_mem hlt
        rw [enough_drop hlt] at hE
        have hL := lens_take w j hlt
        have hL2 := lens_le w (j + 1)
        have hwt := hf3 _ hm
        have hjj : w.getD (j : Int).toNat default = w.getD j default := rfl
        rw [← hL] at hE
        generalize hl : w.getD (j : Int).toNat default = l at *
        rw [← hjj] at hE hL
        generalize hk0 : lensT (w.take j) = k0 at *
        generalize hk2 : lensT (w.take (j + 1)) = k2 at *
        repeat' (first | (with_reducible refine codeT_seq ?_) | (with_reducible refine codeT_block ?_) | (with_reducible refine codeT_skip ?_) | (with_reducible refine codeT_exit ?_) | (with_reducible refine codeT_regionL ?_) | (with_reducible refine lx_nil ?_) | (with_reducible refine q_then ?_) | (with_reducible refine q_then_exit ?_) | ((with_reducible refine q_block_same ?_ ?_); · rfl) | (with_reducible refine q_loop_exit ?_) | (exfalso; omega) | ((with_reducible refine g_move ?_); first | refine lx_move (r := (.t _)) rfl rfl rfl rfl rfl ?_) | ((with_reducible refine g_load ?_); first | refine lx_load_tp rfl rfl rfl rfl rfl rfl rfl ?_) | ((with_reducible refine g_binOp ?_); first | refine lx_arith rfl rfl rfl rfl rfl rfl rfl ?_) | ((with_reducible refine g_assign ?_); first | refine lx_assign (r := (.t _)) rfl rfl rfl rfl rfl ?_) | ((with_reducible refine g_indexAddr ?_); first | refine lx_indexAddr_map rfl rfl rfl rfl rfl rfl ?_ ?_ ?_) | ((with_reducible refine g_len ?_); first | refine lx_len_map rfl rfl rfl rfl rfl ?_) | refine c_condP rfl (fun hc => ?_) (fun hc => ?_))
        · omega
        · omega
        refine codeT_ghost (ghost_nilL 11 (.loc 900) 38 2 rfl rfl rfl) ?_
        refine codeT_ghost (ghost_keep2 [4, 5, 8, 11, 39, 40, 41, 45, 46, 47] [.loc 14, .loc 900] rfl rfl) ?_
        refine codeT_loop (fun q env st => ∃ (u : Nat), u ≤ l.length ∧ q = l.length - u ∧ env = EnvL.get [(4, .t (.bool false)), (5, .row (.loc 14)), (8, .t (.int .i64 ((k0 + u : Nat) : Int))), (11, .row (.loc 900)), (39, .t (.sl 1 (w.map frs))), (40, .t (.int .i64 (w.length : Int))), (41, .t (.int .i64 (j : Int))), (45, .t (.sl 2 (l.map Fr.toT))), (46, .t (.int .i64 (l.length : Int))), (47, .t (.int .i64 (u : Int)))] ∧
            st = StO.get [(.loc 14, some (.dat (.map (ksT KS)))), (.loc 900, some (.slt 38 2 ((haveF (inK KS) (l.take u) k0).map Fr.toT)))])
          ?_ (n := l.length) ⟨0, by omega, rfl, by rw [hl]; rfl, rfl⟩
        rintro q env st ⟨u, hu, rfl, rfl, rfl⟩
        have wu : IntKind.i64.wrap ((u : Int) + 1) = ((u + 1 : Nat) : Int) := by rw [wrap64 (by omega) (by omega)]; omega
        have wk : IntKind.i64.wrap (((k0 + u : Nat) : Int) + 1) = ((k0 + (u + 1) : Nat) : Int) := by rw [wrap64 (by omega) (by omega)]; omega
        by_cases hlu : u < l.length
        · have hG := ksT_get KS (k0 + u)
          have hH := have_take (inK KS) l k0 u hlu
          have hLn := (have_sub (inK KS) (l.take u) k0).1
          rw [List.length_take] at hLn
          cases hin : inK KS (k0 + u) with
          | true =>
            rw [hin] at hG hH
            simp only [if_true] at hH
            repeat' (first | (with_reducible refine codeT_seq ?_) | (with_reducible refine codeT_block ?_) | (with_reducible refine codeT_skip ?_) | (with_reducible refine codeT_exit ?_) | (with_reducible refine codeT_regionL ?_) | (with_reducible refine lx_nil ?_) | (with_reducible refine q_then ?_) | (with_reducible refine q_then_exit ?_) | (with_reducible refine q_block ?_) | ((with_reducible refine q_block_same ?_ ?_); · rfl) | (with_reducible refine q_loop_exit ?_) | refine c_condT rfl ?_ | (exfalso; omega) | refine lx_lookup_as rfl rfl rfl rfl hG (fun _ => rfl) rfl rfl rfl rfl ?_ ?_ | ((with_reducible refine g_move ?_); first | refine lx_move (r := (.t _)) rfl rfl rfl rfl rfl ?_ | refine lx_move (r := (.row _)) rfl rfl rfl rfl rfl ?_) | ((with_reducible refine g_load ?_); first | refine lx_load_varA (r := (.t (.agg _))) rfl rfl rfl rfl rfl rfl rfl rfl rfl ?_ | refine lx_load_tpA rfl rfl rfl rfl rfl rfl rfl rfl ?_) | ((with_reducible refine g_binOp ?_); first | refine lx_arith rfl rfl rfl rfl rfl rfl rfl ?_) | ((with_reducible refine g_assign ?_); first | refine lx_assign (r := (.t _)) rfl rfl rfl rfl rfl ?_ | refine lx_assign (r := (.row _)) rfl rfl rfl rfl rfl ?_) | ((with_reducible refine g_alloc ?_); first | refine lx_alloc rfl rfl rfl rfl rfl rfl rfl ?_) | ((with_reducible refine g_store ?_); first | refine lx_store_var (r := (.t (.agg _))) rfl rfl rfl rfl rfl rfl rfl rfl rfl rfl ?_) | ((with_reducible refine g_indexAddr ?_); first | refine lx_indexAddr_map rfl rfl rfl rfl rfl rfl ?_ ?_ ?_) | ((with_reducible refine g_buildSlice ?_); first | refine lx_buildSlice rfl rfl rfl rfl rfl rfl rfl ?_) | ((with_reducible refine g_append ?_); first | refine lx_append_row rfl rfl rfl rfl rfl rfl rfl rfl rfl rfl ?_ ?_ ?_) | refine c_condP rfl (fun hc => ?_) (fun hc => ?_))
            all_goals try (simp only [List.length_map, List.length_singleton]; omega)
            all_goals try omega
            all_goals try exact hok
            exact q_loop (n' := l.length - (u + 1)) (by omega) ((ghost_keep2 [4, 5, 8, 11, 39, 40, 41, 45, 46, 47] [.loc 14, .loc 57] rfl rfl).trans (ghost_renL2 (.loc 57) (.loc 900) rfl rfl rfl rfl)) ⟨u + 1, by omega, rfl, by rw [wu, wk]; rfl, by rw [hH]; simp only [List.map_append]; rfl⟩
          | false =>
            rw [hin] at hG hH
            simp only [Bool.false_eq_true, if_false, List.append_nil] at hH
            repeat' (first | (with_reducible refine codeT_seq ?_) | (with_reducible refine codeT_block ?_) | (with_reducible refine codeT_skip ?_) | (with_reducible refine codeT_exit ?_) | (with_reducible refine codeT_regionL ?_) | (with_reducible refine lx_nil ?_) | (with_reducible refine q_then ?_) | (with_reducible refine q_then_exit ?_) | (with_reducible refine q_block ?_) | ((with_reducible refine q_block_same ?_ ?_); · rfl) | (with_reducible refine q_loop_exit ?_) | refine c_condF rfl ?_ | (exfalso; omega) | refine lx_lookup_as rfl rfl rfl rfl hG (fun _ => rfl) rfl rfl rfl rfl ?_ ?_ | ((with_reducible refine g_move ?_); first | refine lx_move (r := (.t _)) rfl rfl rfl rfl rfl ?_ | refine lx_move (r := (.row _)) rfl rfl rfl rfl rfl ?_) | ((with_reducible refine g_load ?_); first | refine lx_load_tpA rfl rfl rfl rfl rfl rfl rfl rfl ?_) | ((with_reducible refine g_binOp ?_); first | refine lx_arith rfl rfl rfl rfl rfl rfl rfl ?_) | ((with_reducible refine g_assign ?_); first | refine lx_assign (r := (.t _)) rfl rfl rfl rfl rfl ?_) | ((with_reducible refine g_alloc ?_); first | refine lx_alloc rfl rfl rfl rfl rfl rfl rfl ?_) | ((with_reducible refine g_store ?_); first | refine lx_store_var (r := (.t (.agg _))) rfl rfl rfl rfl rfl rfl rfl rfl rfl rfl ?_) | ((with_reducible refine g_indexAddr ?_); first | refine lx_indexAddr_map rfl rfl rfl rfl rfl rfl ?_ ?_ ?_) | refine c_condP rfl (fun hc => ?_) (fun hc => ?_))
            all_goals try (simp only [List.length_map, List.length_singleton]; omega)
            all_goals try omega
            all_goals try exact hok
            exact q_loop (n' := l.length - (u + 1)) (by omega) (ghost_keep2 [4, 5, 8, 11, 39, 40, 41, 45, 46, 47] [.loc 14, .loc 900] rfl rfl) ⟨u + 1, by omega, rfl, by rw [wu, wk]; rfl, by rw [hH]; rfl⟩
        · obtain rfl : u = l.length := by omega
          rw [List.take_length]
          have hsub := have_sub (inK KS) l k0
          have hW := whole_spec (haveF (inK KS) l k0) (fun f hf => hwt f (hsub.2 f hf)) (by omega)
          generalize haveF (inK KS) l k0 = H at *
          refine codeT_ghost (ghost_freezeL (id := .loc 900) rfl rfl rfl) ?_
          generalize wholeF H = W at *
          cases W with
          | true =>
            rw [Bool.true_and] at hE
            repeat' (first | (with_reducible refine codeT_seq ?_) | (with_reducible refine codeT_block ?_) | (with_reducible refine codeT_skip ?_) | (with_reducible refine codeT_exit ?_) | (with_reducible refine codeT_regionL ?_) | (with_reducible refine lx_nil ?_) | (with_reducible refine q_then ?_) | (with_reducible refine q_then_exit ?_) | (with_reducible refine q_block ?_) | ((with_reducible refine q_block_same ?_ ?_); · rfl) | (with_reducible refine q_loop_exit ?_) | refine c_condF rfl ?_ | (exfalso; omega) | ((with_reducible refine g_move ?_); first | refine lx_move (r := (.t _)) rfl rfl rfl rfl rfl ?_) | ((with_reducible refine g_binOp ?_); first | refine lx_arith rfl rfl rfl rfl rfl rfl rfl ?_) | ((with_reducible refine g_unOp ?_); first | refine lx_not rfl rfl rfl rfl rfl ?_) | ((with_reducible refine g_call ?_); first | refine lx_callT rfl rfl hW rfl rfl (ArgsLE.refl _) rfl rfl rfl rfl rfl ?_) | refine c_condP rfl (fun hc => ?_) (fun hc => ?_))
            exact q_loop (n' := w.length - (j + 1)) (by omega) (ghost_keep2 [4, 5, 8, 39, 40, 41] [.loc 14] rfl rfl) ⟨j + 1, by omega, rfl, by rw [hk2]; exact hE, by rw [wj, hk2, hL]; rfl, rfl⟩
          | false =>
            rw [Bool.false_and] at hE
            repeat' (first | (with_reducible refine codeT_seq ?_) | (with_reducible refine codeT_block ?_) | (with_reducible refine codeT_skip ?_) | (with_reducible refine codeT_ret ?_) | (with_reducible refine codeT_exit ?_) | (with_reducible refine codeT_regionL ?_) | (with_reducible refine lx_nil ?_) | (with_reducible refine q_then ?_) | (with_reducible refine q_then_exit ?_) | (with_reducible refine q_then_ret ?_) | (with_reducible refine q_block_ret ?_) | ((with_reducible refine q_block_same ?_ ?_); · rfl) | (with_reducible refine q_loop_exit ?_) | (with_reducible refine q_loop_ret ?_) | refine c_condT rfl ?_ | (exfalso; omega) | ((with_reducible refine g_move ?_); first | refine lx_move (r := (.t _)) rfl rfl rfl rfl rfl ?_) | ((with_reducible refine g_binOp ?_); first | refine lx_arith rfl rfl rfl rfl rfl rfl rfl ?_) | ((with_reducible refine g_assign ?_); first | refine lx_assign (r := (.t _)) rfl rfl rfl rfl rfl ?_) | ((with_reducible refine g_unOp ?_); first | refine lx_not rfl rfl rfl rfl rfl ?_) | ((with_reducible refine g_call ?_); first | refine lx_callT rfl rfl hW rfl rfl (ArgsLE.refl _) rfl rfl rfl rfl rfl ?_) | refine c_condP rfl (fun hc => ?_) (fun hc => ?_))
            exact q_ret (resT_oneE rfl rfl (congrArg T.bool hE.symm)) (by simp)
      · obtain rfl : j = w.length := by omega
        rw [List.drop_length, enoughW] at hE
        repeat' (first | (with_reducible refine codeT_seq ?_) | (with_reducible refine codeT_block ?_) | (with_reducible refine codeT_skip ?_) | (with_reducible refine codeT_ret ?_) | (with_reducible refine codeT_exit ?_) | (with_reducible refine codeT_regionL ?_) | (with_reducible refine lx_nil ?_) | (with_reducible refine q_then ?_) | (with_reducible refine q_then_exit ?_) | ((with_reducible refine q_block_same ?_ ?_); · rfl) | (with_reducible refine q_loop_exit ?_) | (exfalso; omega) | ((with_reducible refine g_binOp ?_); first | refine lx_arith rfl rfl rfl rfl rfl rfl rfl ?_) | ((with_reducible refine g_assign ?_); first | refine lx_assign (r := (.t _)) rfl rfl rfl rfl rfl ?_) | refine c_condP rfl (fun hc => ?_) (fun hc => ?_))
        exact q_ret (resT_oneE rfl rfl (congrArg T.bool hE.symm)) (by simp)
    · rw [if_pos hn, ← hlen] at hV
      repeat' (first | (with_reducible refine codeT_seq ?_) | (with_reducible refine codeT_block ?_) | (with_reducible refine codeT_skip ?_) | (with_reducible refine codeT_ret ?_) | (with_reducible refine codeT_exit ?_) | (with_reducible refine codeT_regionL ?_) | (with_reducible refine lx_nil ?_) | (with_reducible refine q_then ?_) | (with_reducible refine q_then_exit ?_) | (with_reducible refine q_then_ret ?_) | ((with_reducible refine q_block_same ?_ ?_); · rfl) | (with_reducible refine q_loop_exit ?_) | (exfalso; omega) | refine lx_len_maprow rfl rfl rfl rfl rfl rfl ?_ | ((with_reducible refine g_move ?_); first | refine lx_move (r := (.row _)) rfl rfl rfl rfl rfl ?_) | ((with_reducible refine g_load ?_); first | refine lx_load_var rfl rfl rfl rfl rfl rfl rfl rfl ?_) | ((with_reducible refine g_fieldAddr ?_); first | refine lx_fieldAddr rfl rfl rfl rfl rfl rfl rfl ?_) | ((with_reducible refine g_binOp ?_); first | refine lx_arith rfl rfl rfl rfl rfl rfl rfl ?_) | ((with_reducible refine g_assign ?_); first | refine lx_assign (r := (.t _)) rfl rfl rfl rfl rfl ?_) | refine c_condP rfl (fun hc => ?_) (fun hc => ?_) | refine c_condN rfl (fun hc => ?_) (fun hc => ?_))
      exact q_ret (resT_oneE rfl rfl (congrArg T.bool hV.symm)) (by simp)
end Go.AL
/- Which sets of keys are enough, as the document answers. -/
set_option linter.unusedVariables false
namespace Go.AL
open Go Go.Proofs Go.RowKit

/-- The keys of a set, as an array of bools holds them. -/
def inL (ks : List Int) : List Bool := (List.range 8).map (inK ks)
theorem inL_len (ks : List Int) : (inL ks).length = 8 := by simp [inL]
theorem inL_get (ks : List Int) (k : Nat) (h : k < 8) : (inL ks).getD k default = inK ks k := by
  unfold inL
  rw [List.getD_eq_getElem?_getD, List.getElem?_map, List.getElem?_range h]; rfl
theorem inL_set (ks : List Int) (x : Int) (h0 : 0 ≤ x) (h8 : x < 8) : (inL ks).set x.toNat true = inL (ks ++ [x]) := by
  refine List.ext_getElem (by simp [inL]) fun i h1 h2 => ?_
  simp only [inL, List.getElem_set, List.getElem_map, List.getElem_range, inK, List.mem_append, List.mem_singleton]
  by_cases h : x.toNat = i
  · rw [if_pos h, decide_eq_true (.inr (by omega))]
  · rw [if_neg h]
    exact decide_eq_decide.2 ⟨.inl, fun h3 => h3.resolve_right (by omega)⟩
theorem ks_new (s : List Int) (j : Nat) (h : j < s.length) (hx : 0 ≤ s.getD j default ∧ s.getD j default < 8) (hn : inK (ksF (s.take j)) (s.getD j default).toNat = false) : ksF (s.take (j + 1)) = ksF (s.take j) ++ [s.getD j default] := by
  rw [ks_take s j h]; unfold insK
  rw [if_pos ⟨hx, by
    have := of_decide_eq_false hn
    rwa [Int.toNat_of_nonneg hx.1] at this⟩]
theorem ks_old (s : List Int) (j : Nat) (h : j < s.length) (hx : 0 ≤ s.getD j default ∧ s.getD j default < 8) (hn : inK (ksF (s.take j)) (s.getD j default).toNat = true) : ksF (s.take (j + 1)) = ksF (s.take j) := by
  rw [ks_take s j h]; unfold insK
  rw [if_neg fun h2 => h2.2 (by
    have := of_decide_eq_true hn
    rwa [Int.toNat_of_nonneg hx.1] at this)]
theorem ks_len (s : List Int) (j : Nat) : (ksF (s.take j)).length ≤ j := by
  induction j with
  | zero => simp [ksF]
  | succ j ih =>
    rcases Nat.lt_or_ge j s.length with h | h
    · rw [ks_take s j h]; unfold insK
      split
      · simp only [List.length_append, List.length_singleton]; omega
      · omega
    · rw [List.take_of_length_le (by omega)]
      rw [List.take_of_length_le (by omega)] at ih
      omega
set_option maxHeartbeats 8000000 in
theorem REnough_spec (t : Th) (s : List Int) (ht : t.Fit) (hs : s.length ≤ 1000000) : Spec Try.prog 14 [.t t.toT, .t (.sl 1 (s.map (T.int .i64)))] [] (.t (.bool (enoughR t s))) [] := by
  obtain ⟨V, hV⟩ : ∃ V, V = enoughR t s := ⟨_, rfl⟩
  rw [← hV]
  obtain ⟨hf1, hf2, hf3, hf4⟩ := ht
  obtain ⟨tn, w⟩ := t
  unfold enoughR at hV
  unfold Th.toT
  simp only at *
  refine spec_intro (env0 := [(0, _), (1, _)]) (st0 := []) Try.func14 rfl rfl rfl rfl ?_
  repeat' (first | (with_reducible refine codeT_seq ?_) | (with_reducible refine codeT_block ?_) | (with_reducible refine codeT_regionL ?_) | (with_reducible refine lx_nil ?_) | (with_reducible refine q_then ?_) | ((with_reducible refine g_move ?_); first | refine lx_move (r := (.t _)) rfl rfl rfl rfl rfl ?_) | ((with_reducible refine g_assign ?_); first | refine lx_assign (r := (.t _)) rfl rfl rfl rfl rfl ?_) | ((with_reducible refine g_box ?_); first | refine lx_box (r := (.t (.agg _))) (cs := (List.map .t _)) rfl rfl rfl rfl rfl rfl rfl rfl rfl ?_) | ((with_reducible refine g_alloc ?_); first | refine lx_alloc rfl rfl rfl rfl rfl rfl rfl ?_) | ((with_reducible refine g_len ?_); first | refine lx_len_map rfl rfl rfl rfl rfl ?_))
  refine codeT_ghost (ghost_rowL (id := .loc 5) rfl (RowLE.arr (es := (inL []).map T.bool) rfl (by decide)) rfl) ?_
  refine codeT_ghost (ghost_keep2 [2, 4, 5, 6, 15, 16, 17] [.loc 2, .loc 5] rfl rfl) ?_
  refine codeT_loop (fun q env st => ∃ (j : Nat), j ≤ s.length ∧ q = s.length - j ∧ env = EnvL.get [(2, .ref (.loc 2) 0 0 0), (4, .t (.bool false)), (5, .ref (.loc 5) 0 0 0), (6, .t (.int .i64 ((ksF (s.take j)).length : Int))), (15, .t (.sl 1 (s.map (T.int .i64)))), (16, .t (.int .i64 (s.length : Int))), (17, .t (.int .i64 (j : Int)))] ∧
      st = StO.get [(.loc 2, some (.var 30 [.t (.int .i64 tn), .t (.sl 1 (w.map frs))])), (.loc 5, some (.arr 53 1 ((inL (ksF (s.take j))).map T.bool)))])
    ?_ (n := s.length) ⟨0, by omega, rfl, rfl, rfl⟩
  rintro q env st ⟨j, hj, rfl, rfl, rfl⟩
  have wj : IntKind.i64.wrap ((j : Int) + 1) = ((j + 1 : Nat) : Int) := by rw [wrap64 (by omega) (by omega)]; omega
  have hkl := ks_len s j
  have wl : IntKind.i64.wrap (((ksF (s.take j)).length : Int) + 1) = (((ksF (s.take j)).length + 1 : Nat) : Int) := by rw [wrap64 (by omega) (by omega)]; omega
  by_cases hlt : j < s.length
  · have hll := inL_len (ksF (s.take j))
    by_cases hb : 0 ≤ s.getD (j : Int).toNat default ∧ s.getD (j : Int).toNat default < 8
    · have hb1 := hb.1
      have hb2 := hb.2
      have hget := inL_get (ksF (s.take j)) (s.getD (j : Int).toNat default).toNat (by omega)
      repeat' (first | (with_reducible refine codeT_seq ?_) | (with_reducible refine codeT_block ?_) | (with_reducible refine codeT_skip ?_) | (with_reducible refine codeT_exit ?_) | (with_reducible refine codeT_regionL ?_) | (with_reducible refine lx_nil ?_) | (with_reducible refine q_then ?_) | (with_reducible refine q_then_exit ?_) | (with_reducible refine q_block ?_) | ((with_reducible refine q_block_same ?_ ?_); · rfl) | (with_reducible refine q_loop_exit ?_) | (exfalso; omega) | ((with_reducible refine g_move ?_); first | refine lx_move (r := (.t _)) rfl rfl rfl rfl rfl ?_) | ((with_reducible refine g_load ?_); first | refine lx_load_tp rfl rfl rfl rfl rfl rfl rfl ?_) | ((with_reducible refine g_binOp ?_); first | refine lx_arith rfl rfl rfl rfl rfl rfl rfl ?_) | ((with_reducible refine g_assign ?_); first | refine lx_assign (r := (.t _)) rfl rfl rfl rfl rfl ?_) | ((with_reducible refine g_pick ?_); first | refine lx_pickT (r := (.t _)) rfl rfl rfl rfl rfl rfl ?_) | ((with_reducible refine g_indexAddr ?_); first | refine lx_indexAddr_map rfl rfl rfl rfl rfl rfl ?_ ?_ ?_ | refine lx_indexAddr_arr rfl rfl rfl rfl rfl rfl ?_ ?_ ?_) | ((with_reducible refine g_unOp ?_); first | refine lx_not rfl rfl rfl rfl rfl ?_) | ((with_reducible refine g_load ?_); first | refine lx_load_arrM rfl rfl rfl rfl rfl rfl rfl rfl ?_ ?_) | ((with_reducible refine g_store ?_); first | refine lx_store_arrM rfl rfl rfl rfl rfl rfl rfl ?_ ?_) | refine c_condP rfl (fun hc => ?_) (fun hc => ?_) | refine c_condB rfl (fun hc => ?_) (fun hc => ?_) | refine lx_splitP rfl (fun hc => ?_) (fun hc => ?_))
      all_goals try omega
      · have hin : inK (ksF (s.take j)) (s.getD j default).toNat = false := hget.symm.trans (by simpa using hc)
        have hnew := ks_new s j hlt hb hin
        have hset := inL_set (ksF (s.take j)) (s.getD j default) hb1 hb2
        exact q_loop (n' := s.length - (j + 1)) (by omega) (ghost_keep2 [2, 4, 5, 6, 15, 16, 17] [.loc 2, .loc 5] rfl rfl) ⟨j + 1, by omega, rfl, by rw [wj, hnew, List.length_append, wl]; rfl, by rw [hnew, ← hset]; rfl⟩
      · have hin : inK (ksF (s.take j)) (s.getD j default).toNat = true := hget.symm.trans (by simpa using hc)
        have hold := ks_old s j hlt hb hin
        exact q_loop (n' := s.length - (j + 1)) (by omega) (ghost_keep2 [2, 4, 5, 6, 15, 16, 17] [.loc 2, .loc 5] rfl rfl) ⟨j + 1, by omega, rfl, by rw [wj, hold]; rfl, by rw [hold]; rfl⟩
    · have hskip := ks_skip s j hlt hb
      repeat' (first | (with_reducible refine codeT_seq ?_) | (with_reducible refine codeT_block ?_) | (with_reducible refine codeT_skip ?_) | (with_reducible refine codeT_exit ?_) | (with_reducible refine codeT_regionL ?_) | (with_reducible refine lx_nil ?_) | (with_reducible refine q_then ?_) | (with_reducible refine q_then_exit ?_) | (with_reducible refine q_block ?_) | ((with_reducible refine q_block_same ?_ ?_); · rfl) | (with_reducible refine q_loop_exit ?_) | refine c_condF rfl ?_ | (exfalso; omega) | ((with_reducible refine g_guard ?_); first | refine lx_skip rfl rfl rfl ?_) | ((with_reducible refine g_move ?_); first | refine lx_move (r := (.t _)) rfl rfl rfl rfl rfl ?_) | ((with_reducible refine g_load ?_); first | refine lx_load_tp rfl rfl rfl rfl rfl rfl rfl ?_) | ((with_reducible refine g_binOp ?_); first | refine lx_arith rfl rfl rfl rfl rfl rfl rfl ?_) | ((with_reducible refine g_assign ?_); first | refine lx_assign (r := (.t _)) rfl rfl rfl rfl rfl ?_) | ((with_reducible refine g_pick ?_); first | refine lx_pickT (r := (.t _)) rfl rfl rfl rfl rfl rfl ?_ | refine lx_pickF (r := (.t _)) rfl rfl rfl rfl rfl rfl ?_) | ((with_reducible refine g_indexAddr ?_); first | refine lx_indexAddr_map rfl rfl rfl rfl rfl rfl ?_ ?_ ?_) | refine c_condP rfl (fun hc => ?_) (fun hc => ?_) | refine lx_splitP rfl (fun hc => ?_) (fun hc => ?_))
      all_goals try omega
      all_goals exact q_loop (n' := s.length - (j + 1)) (by omega) (ghost_keep2 [2, 4, 5, 6, 15, 16, 17] [.loc 2, .loc 5] rfl rfl) ⟨j + 1, by omega, rfl, by rw [wj, hskip]; rfl, by rw [hskip]; rfl⟩
  · obtain rfl : j = s.length := by omega
    rw [List.take_length]
    rw [List.take_length] at hkl wl
    have hr := ks_range s
    have hll := inL_len (ksF s)
    have hget := inL_get (ksF s)
    generalize ksF s = KS at *
    by_cases hn : w.length = 0
    · rw [if_pos hn] at hV
      repeat' (first | (with_reducible refine codeT_seq ?_) | (with_reducible refine codeT_block ?_) | (with_reducible refine codeT_skip ?_) | (with_reducible refine codeT_ret ?_) | (with_reducible refine codeT_exit ?_) | (with_reducible refine codeT_regionL ?_) | (with_reducible refine lx_nil ?_) | (with_reducible refine q_then ?_) | (with_reducible refine q_then_exit ?_) | (with_reducible refine q_then_ret ?_) | ((with_reducible refine q_block_same ?_ ?_); · rfl) | (with_reducible refine q_loop_exit ?_) | (exfalso; omega) | ((with_reducible refine g_move ?_); first | refine lx_move (r := (.t _)) rfl rfl rfl rfl rfl ?_) | ((with_reducible refine g_load ?_); first | refine lx_load_var rfl rfl rfl rfl rfl rfl rfl rfl ?_) | ((with_reducible refine g_fieldAddr ?_); first | refine lx_fieldAddr rfl rfl rfl rfl rfl rfl rfl ?_) | ((with_reducible refine g_binOp ?_); first | refine lx_arith rfl rfl rfl rfl rfl rfl rfl ?_) | ((with_reducible refine g_assign ?_); first | refine lx_assign (r := (.t _)) rfl rfl rfl rfl rfl ?_) | ((with_reducible refine g_len ?_); first | refine lx_len_map rfl rfl rfl rfl rfl ?_) | refine c_condP rfl (fun hc => ?_) (fun hc => ?_))
      exact q_ret (resT_oneE rfl rfl (congrArg T.bool hV.symm)) (by simp)
    · rw [if_neg hn] at hV
      repeat' (first | (with_reducible refine codeT_seq ?_) | (with_reducible refine codeT_block ?_) | (with_reducible refine codeT_skip ?_) | (with_reducible refine codeT_exit ?_) | (with_reducible refine codeT_regionL ?_) | (with_reducible refine lx_nil ?_) | (with_reducible refine q_then ?_) | (with_reducible refine q_then_exit ?_) | ((with_reducible refine q_block_same ?_ ?_); · rfl) | (with_reducible refine q_loop_exit ?_) | (exfalso; omega) | ((with_reducible refine g_move ?_); first | refine lx_move (r := (.t _)) rfl rfl rfl rfl rfl ?_) | ((with_reducible refine g_load ?_); first | refine lx_load_var rfl rfl rfl rfl rfl rfl rfl rfl ?_) | ((with_reducible refine g_fieldAddr ?_); first | refine lx_fieldAddr rfl rfl rfl rfl rfl rfl rfl ?_) | ((with_reducible refine g_binOp ?_); first | refine lx_arith rfl rfl rfl rfl rfl rfl rfl ?_) | ((with_reducible refine g_assign ?_); first | refine lx_assign (r := (.t _)) rfl rfl rfl rfl rfl ?_) | ((with_reducible refine g_len ?_); first | refine lx_len_map rfl rfl rfl rfl rfl ?_) | refine c_condP rfl (fun hc => ?_) (fun hc => ?_))
      refine codeT_ghost (ghost_keep2 [4, 5, 9, 47, 48, 49] [.loc 5] rfl rfl) ?_
      refine codeT_loop (fun q env st => ∃ (j : Nat), j ≤ w.length ∧ q = w.length - j ∧ V = enoughW (inK KS) (w.drop j) (lensT (w.take j)) ∧ env = EnvL.get [(4, .t (.bool false)), (5, .ref (.loc 5) 0 0 0), (9, .t (.int .i64 (lensT (w.take j) : Int))), (47, .t (.sl 1 (w.map frs))), (48, .t (.int .i64 (w.length : Int))), (49, .t (.int .i64 (j : Int)))] ∧
          st = StO.get [(.loc 5, some (.arr 53 1 ((inL KS).map T.bool)))])
        ?_ (n := w.length) ⟨0, by omega, rfl, hV, rfl, rfl⟩
      rintro q env st ⟨j, hj, rfl, hE, rfl, rfl⟩
      have wj : IntKind.i64.wrap ((j : Int) + 1) = ((j + 1 : Nat) : Int) := by rw [wrap64 (by omega) (by omega)]; omega
      by_cases hlt : j < w.length
      · have hm := getD_mem hlt
        rw [enough_drop hlt] at hE
        have hL := lens_take w j hlt
        have hL2 := lens_le w (j + 1)
        have hwt := hf3 _ hm
        have hjj : w.getD (j : Int).toNat default = w.getD j default := rfl
        rw [← hL] at hE
        generalize hl : w.getD (j : Int).toNat default = l at *
        rw [← hjj] at hE hL
        generalize hk0 : lensT (w.take j) = k0 at *
        generalize hk2 : lensT (w.take (j + 1)) = k2 at *
        repeat' (first | (with_reducible refine codeT_seq ?_) | (with_reducible refine codeT_block ?_) | (with_reducible refine codeT_skip ?_) | (with_reducible refine codeT_exit ?_) | (with_reducible refine codeT_regionL ?_) | (with_reducible refine lx_nil ?_) | (with_reducible refine q_then ?_) | (with_reducible refine q_then_exit ?_) | ((with_reducible refine q_block_same ?_ ?_); · rfl) | (with_reducible refine q_loop_exit ?_) | (exfalso; omega) | ((with_reducible refine g_move ?_); first | refine lx_move (r := (.t _)) rfl rfl rfl rfl rfl ?_) | ((with_reducible refine g_load ?_); first | refine lx_load_tp rfl rfl rfl rfl rfl rfl rfl ?_) | ((with_reducible refine g_binOp ?_); first | refine lx_arith rfl rfl rfl rfl rfl rfl rfl ?_) | ((with_reducible refine g_assign ?_); first | refine lx_assign (r := (.t _)) rfl rfl rfl rfl rfl ?_) | ((with_reducible refine g_indexAddr ?_); first | refine lx_indexAddr_map rfl rfl rfl rfl rfl rfl ?_ ?_ ?_) | ((with_reducible refine g_len ?_); first | refine lx_len_map rfl rfl rfl rfl rfl ?_) | refine c_condP rfl (fun hc => ?_) (fun hc => ?_))
        · omega
        · omega
        refine codeT_ghost (ghost_nilL 12 (.loc 900) 38 2 rfl rfl rfl) ?_
        refine codeT_ghost (ghost_keep2 [4, 5, 9, 12, 47, 48, 49, 53, 54, 55] [.loc 5, .loc 900] rfl rfl) ?_
        refine codeT_loop (fun q env st => ∃ (u : Nat), u ≤ l.length ∧ q = l.length - u ∧ env = EnvL.get [(4, .t (.bool false)), (5, .ref (.loc 5) 0 0 0), (9, .t (.int .i64 ((k0 + u : Nat) : Int))), (12, .row (.loc 900)), (47, .t (.sl 1 (w.map frs))), (48, .t (.int .i64 (w.length : Int))), (49, .t (.int .i64 (j : Int))), (53, .t (.sl 2 (l.map Fr.toT))), (54, .t (.int .i64 (l.length : Int))), (55, .t (.int .i64 (u : Int)))] ∧
            st = StO.get [(.loc 5, some (.arr 53 1 ((inL KS).map T.bool))), (.loc 900, some (.slt 38 2 ((haveF (inK KS) (l.take u) k0).map Fr.toT)))])
          ?_ (n := l.length) ⟨0, by omega, rfl, by rw [hl]; rfl, rfl⟩
        rintro q env st ⟨u, hu, rfl, rfl, rfl⟩
        have wu : IntKind.i64.wrap ((u : Int) + 1) = ((u + 1 : Nat) : Int) := by rw [wrap64 (by omega) (by omega)]; omega
        have wk : IntKind.i64.wrap (((k0 + u : Nat) : Int) + 1) = ((k0 + (u + 1) : Nat) : Int) := by rw [wrap64 (by omega) (by omega)]; omega
        by_cases hlu : u < l.length
        · have hG := hget (k0 + u) (by omega)
          have hH := have_take (inK KS) l k0 u hlu
          have hLn := (have_sub (inK KS) (l.take u) k0).1
          rw [List.length_take] at hLn
          cases hin : inK KS (k0 + u) with
          | true =>
            rw [hin] at hG hH
            simp only [if_true] at hH
            repeat' (first | (with_reducible refine codeT_seq ?_) | (with_reducible refine codeT_block ?_) | (with_reducible refine codeT_skip ?_) | (with_reducible refine codeT_exit ?_) | (with_reducible refine codeT_regionL ?_) | (with_reducible refine lx_nil ?_) | (with_reducible refine q_then ?_) | (with_reducible refine q_then_exit ?_) | (with_reducible refine q_block ?_) | ((with_reducible refine q_block_same ?_ ?_); · rfl) | (with_reducible refine q_loop_exit ?_) | (exfalso; omega) | ((with_reducible refine g_move ?_); first | refine lx_move (r := (.t _)) rfl rfl rfl rfl rfl ?_ | refine lx_move (r := (.row _)) rfl rfl rfl rfl rfl ?_) | ((with_reducible refine g_load ?_); first | refine lx_load_varA (r := (.t (.agg _))) rfl rfl rfl rfl rfl rfl rfl rfl rfl ?_ | refine lx_load_tpA rfl rfl rfl rfl rfl rfl rfl rfl ?_) | ((with_reducible refine g_binOp ?_); first | refine lx_arith rfl rfl rfl rfl rfl rfl rfl ?_) | ((with_reducible refine g_assign ?_); first | refine lx_assign (r := (.t _)) rfl rfl rfl rfl rfl ?_ | refine lx_assign (r := (.row _)) rfl rfl rfl rfl rfl ?_) | ((with_reducible refine g_alloc ?_); first | refine lx_alloc rfl rfl rfl rfl rfl rfl rfl ?_) | ((with_reducible refine g_store ?_); first | refine lx_store_var (r := (.t (.agg _))) rfl rfl rfl rfl rfl rfl rfl rfl rfl rfl ?_) | ((with_reducible refine g_indexAddr ?_); first | refine lx_indexAddr_map rfl rfl rfl rfl rfl rfl ?_ ?_ ?_ | refine lx_indexAddr_arr rfl rfl rfl rfl rfl rfl ?_ ?_ ?_) | ((with_reducible refine g_buildSlice ?_); first | refine lx_buildSlice rfl rfl rfl rfl rfl rfl rfl ?_) | ((with_reducible refine g_append ?_); first | refine lx_append_row rfl rfl rfl rfl rfl rfl rfl rfl rfl rfl ?_ ?_ ?_) | ((with_reducible refine g_load ?_); first | refine lx_load_arrM rfl rfl rfl rfl rfl rfl rfl rfl ?_ ?_) | refine c_condP rfl (fun hc => ?_) (fun hc => ?_) | refine c_condB rfl (fun hc => ?_) (fun hc => ?_))
            all_goals try (simp only [List.length_map, List.length_singleton]; omega)
            all_goals try omega
            all_goals try (exfalso; revert hc; rw [show ((k0 + u : Nat) : Int).toNat = k0 + u from rfl, hG]; decide)
            exact q_loop (n' := l.length - (u + 1)) (by omega) ((ghost_keep2 [4, 5, 9, 12, 47, 48, 49, 53, 54, 55] [.loc 5, .loc 65] rfl rfl).trans (ghost_renL2 (.loc 65) (.loc 900) rfl rfl rfl rfl)) ⟨u + 1, by omega, rfl, by rw [wu, wk]; rfl, by rw [hH]; simp only [List.map_append]; rfl⟩
          | false =>
            rw [hin] at hG hH
            simp only [Bool.false_eq_true, if_false, List.append_nil] at hH
            repeat' (first | (with_reducible refine codeT_seq ?_) | (with_reducible refine codeT_block ?_) | (with_reducible refine codeT_skip ?_) | (with_reducible refine codeT_exit ?_) | (with_reducible refine codeT_regionL ?_) | (with_reducible refine lx_nil ?_) | (with_reducible refine q_then ?_) | (with_reducible refine q_then_exit ?_) | (with_reducible refine q_block ?_) | ((with_reducible refine q_block_same ?_ ?_); · rfl) | (with_reducible refine q_loop_exit ?_) | (exfalso; omega) | ((with_reducible refine g_move ?_); first | refine lx_move (r := (.t _)) rfl rfl rfl rfl rfl ?_ | refine lx_move (r := (.row _)) rfl rfl rfl rfl rfl ?_) | ((with_reducible refine g_load ?_); first | refine lx_load_varA (r := (.t (.agg _))) rfl rfl rfl rfl rfl rfl rfl rfl rfl ?_ | refine lx_load_tpA rfl rfl rfl rfl rfl rfl rfl rfl ?_) | ((with_reducible refine g_binOp ?_); first | refine lx_arith rfl rfl rfl rfl rfl rfl rfl ?_) | ((with_reducible refine g_assign ?_); first | refine lx_assign (r := (.t _)) rfl rfl rfl rfl rfl ?_ | refine lx_assign (r := (.row _)) rfl rfl rfl rfl rfl ?_) | ((with_reducible refine g_alloc ?_); first | refine lx_alloc rfl rfl rfl rfl rfl rfl rfl ?_) | ((with_reducible refine g_store ?_); first | refine lx_store_var (r := (.t (.agg _))) rfl rfl rfl rfl rfl rfl rfl rfl rfl rfl ?_) | ((with_reducible refine g_indexAddr ?_); first | refine lx_indexAddr_map rfl rfl rfl rfl rfl rfl ?_ ?_ ?_ | refine lx_indexAddr_arr rfl rfl rfl rfl rfl rfl ?_ ?_ ?_) | ((with_reducible refine g_buildSlice ?_); first | refine lx_buildSlice rfl rfl rfl rfl rfl rfl rfl ?_) | ((with_reducible refine g_append ?_); first | refine lx_append_row rfl rfl rfl rfl rfl rfl rfl rfl rfl rfl ?_ ?_ ?_) | ((with_reducible refine g_load ?_); first | refine lx_load_arrM rfl rfl rfl rfl rfl rfl rfl rfl ?_ ?_) | refine c_condP rfl (fun hc => ?_) (fun hc => ?_) | refine c_condB rfl (fun hc => ?_) (fun hc => ?_))
            all_goals try (simp only [List.length_map, List.length_singleton]; omega)
            all_goals try omega
            all_goals try (exfalso; revert hc; rw [show ((k0 + u : Nat) : Int).toNat = k0 + u from rfl, hG]; decide)
            exact q_loop (n' := l.length - (u + 1)) (by omega) (ghost_keep2 [4, 5, 9, 12, 47, 48, 49, 53, 54, 55] [.loc 5, .loc 900] rfl rfl) ⟨u + 1, by omega, rfl, by rw [wu, wk]; rfl, by rw [hH]; rfl⟩
        · obtain rfl : u = l.length := by omega
          rw [List.take_length]
          have hsub := have_sub (inK KS) l k0
          have hW := one_spec (haveF (inK KS) l k0) (by omega)
          rw [one_whole (sumE_ok.2 ⟨by omega, fun f hf => hwt f (hsub.2 f hf)⟩)] at hW
          generalize haveF (inK KS) l k0 = H at *
          refine codeT_ghost (ghost_freezeL (id := .loc 900) rfl rfl rfl) ?_
          generalize wholeF H = W at *
          cases W with
          | true =>
            rw [Bool.true_and] at hE
            repeat' (first | (with_reducible refine codeT_seq ?_) | (with_reducible refine codeT_block ?_) | (with_reducible refine codeT_skip ?_) | (with_reducible refine codeT_exit ?_) | (with_reducible refine codeT_regionL ?_) | (with_reducible refine lx_nil ?_) | (with_reducible refine q_then ?_) | (with_reducible refine q_then_exit ?_) | (with_reducible refine q_block ?_) | ((with_reducible refine q_block_same ?_ ?_); · rfl) | (with_reducible refine q_loop_exit ?_) | refine c_condF rfl ?_ | (exfalso; omega) | ((with_reducible refine g_move ?_); first | refine lx_move (r := (.t _)) rfl rfl rfl rfl rfl ?_) | ((with_reducible refine g_binOp ?_); first | refine lx_arith rfl rfl rfl rfl rfl rfl rfl ?_) | ((with_reducible refine g_unOp ?_); first | refine lx_not rfl rfl rfl rfl rfl ?_) | ((with_reducible refine g_call ?_); first | refine lx_callT rfl rfl hW rfl rfl (ArgsLE.refl _) rfl rfl rfl rfl rfl ?_) | refine c_condP rfl (fun hc => ?_) (fun hc => ?_))
            exact q_loop (n' := w.length - (j + 1)) (by omega) (ghost_keep2 [4, 5, 9, 47, 48, 49] [.loc 5] rfl rfl) ⟨j + 1, by omega, rfl, by rw [hk2]; exact hE, by rw [wj, hk2, hL]; rfl, rfl⟩
          | false =>
            rw [Bool.false_and] at hE
            repeat' (first | (with_reducible refine codeT_seq ?_) | (with_reducible refine codeT_block ?_) | (with_reducible refine codeT_skip ?_) | (with_reducible refine codeT_ret ?_) | (with_reducible refine codeT_exit ?_) | (with_reducible refine codeT_regionL ?_) | (with_reducible refine lx_nil ?_) | (with_reducible refine q_then ?_) | (with_reducible refine q_then_exit ?_) | (with_reducible refine q_then_ret ?_) | (with_reducible refine q_block_ret ?_) | ((with_reducible refine q_block_same ?_ ?_); · rfl) | (with_reducible refine q_loop_exit ?_) | (with_reducible refine q_loop_ret ?_) | refine c_condT rfl ?_ | (exfalso; omega) | ((with_reducible refine g_move ?_); first | refine lx_move (r := (.t _)) rfl rfl rfl rfl rfl ?_) | ((with_reducible refine g_binOp ?_); first | refine lx_arith rfl rfl rfl rfl rfl rfl rfl ?_) | ((with_reducible refine g_assign ?_); first | refine lx_assign (r := (.t _)) rfl rfl rfl rfl rfl ?_) | ((with_reducible refine g_unOp ?_); first | refine lx_not rfl rfl rfl rfl rfl ?_) | ((with_reducible refine g_call ?_); first | refine lx_callT rfl rfl hW rfl rfl (ArgsLE.refl _) rfl rfl rfl rfl rfl ?_) | refine c_condP rfl (fun hc => ?_) (fun hc => ?_))
            exact q_ret (resT_oneE rfl rfl (congrArg T.bool hE.symm)) (by simp)
      · obtain rfl : j = w.length := by omega
        rw [List.drop_length, enoughW] at hE
        repeat' (first | (with_reducible refine codeT_seq ?_) | (with_reducible refine codeT_block ?_) | (with_reducible refine codeT_skip ?_) | (with_reducible refine codeT_ret ?_) | (with_reducible refine codeT_exit ?_) | (with_reducible refine codeT_regionL ?_) | (with_reducible refine lx_nil ?_) | (with_reducible refine q_then ?_) | (with_reducible refine q_then_exit ?_) | ((with_reducible refine q_block_same ?_ ?_); · rfl) | (with_reducible refine q_loop_exit ?_) | (exfalso; omega) | ((with_reducible refine g_binOp ?_); first | refine lx_arith rfl rfl rfl rfl rfl rfl rfl ?_) | ((with_reducible refine g_assign ?_); first | refine lx_assign (r := (.t _)) rfl rfl rfl rfl rfl ?_) | refine c_condP rfl (fun hc => ?_) (fun hc => ?_))
        exact q_ret (resT_oneE rfl rfl (congrArg T.bool hE.symm)) (by simp)
end Go.AL
