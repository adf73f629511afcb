/- What json.put answers: the text of a valid node. -/
import Derived.Test.YtmidabiehblekaaDoorJsa
import Derived.Test.YtmidabiehblekaaDoorNod1
import Derived.Test.YtmidabiehblekaaDoorAl4
import Derived.Test.YtmidabiehblekaaDoorJnc
set_option linter.unusedVariables false
namespace Go.AL
open Go Go.Proofs Go.RowKit

set_option maxHeartbeats 16000000 in
theorem jput_list {oP : Obj} (b : Bool) (n : Int) (t : ByteArray) (ns : List ByteArray) (is : List Nd) (hlen : is.length ≤ 256) (es : List T) (hb : es.length + (preJ 4 ns is is.length).length + 2 ≤ 50000000)
    (IH : ∀ i, i < is.length → ∀ es' : List T, es'.length + (is.getD i default).jb.length ≤ 50000000 → Spec Tryd.prog 27 [.row (.par 0), .t (is.getD i default).toT] [(.par 0, .slt 5 1 es'), (.par 102, .dat (.fix 2 oP))] (.row (.res 0)) [(.res 0, .slt 5 1 (es' ++ u8L (is.getD i default).jb)), (.par 102, .dat (.fix 2 oP))]) :
    Spec Tryd.prog 27 [.row (.par 0), .t (.agg [.int .i64 4, .bool b, .int .i64 n, .str t, .sl 1 (ns.map .str), .sl 6 (is.map Nd.toT)])] [(.par 0, .slt 5 1 es), (.par 102, .dat (.fix 2 oP))] (.row (.res 0)) [(.res 0, .slt 5 1 (es ++ u8L (91 :: (preJ 4 ns is is.length ++ [93])))), (.par 102, .dat (.fix 2 oP))] := by
  refine spec_introG (env0 := [(0, _), (1, _)]) (st0 := [(_, some _), (_, some _)]) Tryd.func27 rfl rfl rfl rfl ?_
  repeat' (first | (with_reducible refine codeT_seq ?_) | (with_reducible refine codeT_block ?_) | (with_reducible refine codeT_skip ?_) | (with_reducible refine codeT_regionL ?_) | (with_reducible refine lx_nil ?_) | (with_reducible refine q_then ?_) | (with_reducible refine q_block ?_) | refine c_condF rfl ?_ | ((with_reducible refine g_move ?_); first | refine lx_move (r := (.t _)) rfl rfl rfl rfl rfl ?_ | refine lx_move (r := (.row _)) rfl rfl rfl rfl rfl ?_) | ((with_reducible refine g_load ?_); first | refine lx_load_var rfl rfl rfl rfl rfl rfl rfl rfl ?_) | ((with_reducible refine g_fieldAddr ?_); first | refine lx_fieldAddr rfl rfl rfl rfl rfl rfl rfl ?_) | ((with_reducible refine g_binOp ?_); first | refine lx_arith rfl rfl rfl rfl rfl rfl rfl ?_) | ((with_reducible refine g_assign ?_); first | refine lx_assign (r := (.t _)) rfl rfl rfl rfl rfl ?_ | refine lx_assign (r := (.row _)) rfl rfl rfl rfl rfl ?_) | ((with_reducible refine g_box ?_); first | refine lx_box (r := (.t (.agg _))) (cs := (List.map .t _)) rfl rfl rfl rfl rfl rfl rfl rfl rfl ?_) | ((with_reducible refine g_index ?_); first | refine lx_index_str rfl rfl rfl rfl rfl rfl ?_ ?_ ?_) | ((with_reducible refine g_buildSlice ?_); first | refine lx_buildSlice rfl rfl rfl rfl rfl rfl rfl ?_) | ((with_reducible refine g_len ?_); first | refine lx_len_map rfl rfl rfl rfl rfl ?_) | ((with_reducible refine g_append ?_); first | refine lx_append_row rfl rfl rfl rfl rfl rfl rfl rfl rfl rfl ?_ ?_ ?_))
  all_goals try (simp only [List.length_singleton]; omega)
  all_goals try decide
  refine codeT_ghost ((ghost_keep2 [0, 3, 5, 41, 42, 43] [.loc 3, .par 102, .loc 39] rfl rfl).trans (ghost_renL2 (.loc 39) (.loc 900) rfl rfl rfl rfl)) ?_
  refine codeT_loop (fun p env st => ∃ (i : Nat), i ≤ is.length ∧ p = is.length - i ∧
      env = EnvL.get [(0, .row (.loc 900)), (3, .ref (.loc 3) 0 0 0), (5, .t (.str ⟨#[91, 93]⟩)), (41, .t (.sl 6 (is.map Nd.toT))), (42, .t (.int .i64 (is.length : Int))), (43, .t (.int .i64 (i : Int)))] ∧
      st = StO.get [(.loc 3, some (.var 26 [.t (.int .i64 4), .t (.bool b), .t (.int .i64 n), .t (.str t), .t (.sl 1 (ns.map .str)), .t (.sl 6 (is.map Nd.toT))])), (.par 102, some (.dat (.fix 2 oP))), (.loc 900, some (.slt 5 1 (es ++ u8L (91 :: preJ 4 ns is i))))])
    ?_ (n := is.length) ⟨0, by omega, rfl, rfl, rfl⟩
  rintro p env st ⟨i, hi, rfl, rfl, rfl⟩
  have wi : IntKind.i64.wrap ((i : Int) + 1) = ((i + 1 : Nat) : Int) := by rw [wrap64 (by omega) (by omega)]; omega
  have hle0 : (preJ 4 ns is i).length ≤ (preJ 4 ns is is.length).length := preJ_mono (fun h => by omega) (by omega) (by omega)
  by_cases hlt : i < is.length
  · have hle : (preJ 4 ns is (i + 1)).length ≤ (preJ 4 ns is is.length).length := preJ_mono (fun h => by omega) (by omega) (by omega)
    have hT := (is.getD i default).toT_full
    have hIH := IH i hlt
    have hT2 : (is.getD (i : Int).toNat default).toT = _ := hT
    rw [hT] at hIH
    rw [preJ_list (by decide) hlt] at hle
    obtain ⟨X, hX⟩ : ∃ X, X = es ++ u8L (91 :: preJ 4 ns is i) := ⟨_, rfl⟩
    have hXl : X.length = es.length + 1 + (preJ 4 ns is i).length := by rw [hX, List.length_append, u8L_len, List.length_cons]; omega
    have hnext : es ++ u8L (91 :: preJ 4 ns is (i + 1)) = X ++ u8L ((if i = 0 then [] else [44]) ++ (is.getD i default).jb) := by
      rw [hX, preJ_list (by decide) hlt, List.append_assoc, ← u8L_append]; rfl
    rw [← hX]
    clear hX
    simp only [List.length_append] at hle
    generalize is.getD i default = x at *
    by_cases h0 : i = 0
    · rw [if_pos h0] at hnext hle
      rw [List.nil_append] at hnext
      have hP2 := hIH (X) (by simp only [List.length_append, List.length_singleton, List.length_nil] at hle ⊢; omega)
      repeat' (first | (with_reducible refine codeT_seq ?_) | (with_reducible refine codeT_block ?_) | (with_reducible refine codeT_skip ?_) | (with_reducible refine codeT_exit ?_) | (with_reducible refine codeT_regionL ?_) | (with_reducible refine lx_nil ?_) | (with_reducible refine q_then ?_) | (with_reducible refine q_then_exit ?_) | (with_reducible refine q_block ?_) | ((with_reducible refine q_block_same ?_ ?_); · rfl) | (with_reducible refine q_loop_exit ?_) | refine c_condF rfl ?_ | (exfalso; omega) | refine lx_load_tpAE rfl rfl hT2 rfl rfl rfl rfl rfl rfl ?_ | ((with_reducible refine g_move ?_); first | refine lx_move (r := (.t _)) rfl rfl rfl rfl rfl ?_ | refine lx_move (r := (.row _)) rfl rfl rfl rfl rfl ?_) | ((with_reducible refine g_load ?_); first | refine lx_load_var rfl rfl rfl rfl rfl rfl rfl rfl ?_ | refine lx_load_varA (r := (.t (.agg _))) rfl rfl rfl rfl rfl rfl rfl rfl rfl ?_) | ((with_reducible refine g_fieldAddr ?_); first | refine lx_fieldAddr rfl rfl rfl rfl rfl rfl rfl ?_) | ((with_reducible refine g_binOp ?_); first | refine lx_arith rfl rfl rfl rfl rfl rfl rfl ?_) | ((with_reducible refine g_assign ?_); first | refine lx_assign (r := (.t _)) rfl rfl rfl rfl rfl ?_ | refine lx_assign (r := (.row _)) rfl rfl rfl rfl rfl ?_) | ((with_reducible refine g_alloc ?_); first | refine lx_alloc rfl rfl rfl rfl rfl rfl rfl ?_) | ((with_reducible refine g_store ?_); first | refine lx_store_var (r := (.t (.agg _))) rfl rfl rfl rfl rfl rfl rfl rfl rfl rfl ?_) | ((with_reducible refine g_indexAddr ?_); first | refine lx_indexAddr_map rfl rfl rfl rfl rfl rfl ?_ ?_ ?_) | ((with_reducible refine g_call ?_); first | refine lx_call (r' := .row (.loc 906)) [(.par 0, .loc 900), (.res 0, .loc 906)] rfl rfl hP2 (ArgsLE.refl _) rfl ⟨rfl, rfl, trivial⟩ rfl rfl rfl rfl rfl rfl rfl rfl rfl rfl ?_) | refine c_condP rfl (fun hc => ?_) (fun hc => ?_))
      all_goals try (simp only [List.length_append, List.length_singleton]; omega)
      all_goals try (simp only [List.length_map]; omega)
      all_goals try omega
      exact q_loop (n' := is.length - (i + 1)) (by omega) ((ghost_keep2 [0, 3, 5, 41, 42, 43] [.loc 3, .par 102, .loc 906] rfl rfl).trans (ghost_renL2 (.loc 906) (.loc 900) rfl rfl rfl rfl)) ⟨i + 1, by omega, rfl, by rw [wi]; rfl, by rw [hnext]; rfl⟩
    · rw [if_neg h0] at hnext hle
      have hP2 := hIH (X ++ [T.int .u8 44]) (by simp only [List.length_append, List.length_singleton, List.length_nil] at hle ⊢; omega)
      rw [u8L_append, ← List.append_assoc] at hnext
      repeat' (first | (with_reducible refine codeT_seq ?_) | (with_reducible refine codeT_block ?_) | (with_reducible refine codeT_skip ?_) | (with_reducible refine codeT_exit ?_) | (with_reducible refine codeT_regionL ?_) | (with_reducible refine lx_nil ?_) | (with_reducible refine q_then ?_) | (with_reducible refine q_then_exit ?_) | (with_reducible refine q_block ?_) | ((with_reducible refine q_block_same ?_ ?_); · rfl) | (with_reducible refine q_loop_exit ?_) | refine c_condF rfl ?_ | (exfalso; omega) | refine lx_load_tpAE rfl rfl hT2 rfl rfl rfl rfl rfl rfl ?_ | ((with_reducible refine g_move ?_); first | refine lx_move (r := (.t _)) rfl rfl rfl rfl rfl ?_ | refine lx_move (r := (.row _)) rfl rfl rfl rfl rfl ?_) | ((with_reducible refine g_load ?_); first | refine lx_load_var rfl rfl rfl rfl rfl rfl rfl rfl ?_ | refine lx_load_varA (r := (.t (.agg _))) rfl rfl rfl rfl rfl rfl rfl rfl rfl ?_) | ((with_reducible refine g_fieldAddr ?_); first | refine lx_fieldAddr rfl rfl rfl rfl rfl rfl rfl ?_) | ((with_reducible refine g_binOp ?_); first | refine lx_arith rfl rfl rfl rfl rfl rfl rfl ?_) | ((with_reducible refine g_assign ?_); first | refine lx_assign (r := (.t _)) rfl rfl rfl rfl rfl ?_ | refine lx_assign (r := (.row _)) rfl rfl rfl rfl rfl ?_) | ((with_reducible refine g_alloc ?_); first | refine lx_alloc rfl rfl rfl rfl rfl rfl rfl ?_) | ((with_reducible refine g_store ?_); first | refine lx_store_var (r := (.t (.agg _))) rfl rfl rfl rfl rfl rfl rfl rfl rfl rfl ?_) | ((with_reducible refine g_indexAddr ?_); first | refine lx_indexAddr_map rfl rfl rfl rfl rfl rfl ?_ ?_ ?_) | ((with_reducible refine g_buildSlice ?_); first | refine lx_buildSlice rfl rfl rfl rfl rfl rfl rfl ?_) | ((with_reducible refine g_append ?_); first | refine lx_append_row rfl rfl rfl rfl rfl rfl rfl rfl rfl rfl ?_ ?_ ?_) | ((with_reducible refine g_call ?_); first | refine lx_call (r' := .row (.loc 906)) [(.par 0, .loc 52), (.res 0, .loc 906)] rfl rfl hP2 (ArgsLE.refl _) rfl ⟨rfl, rfl, trivial⟩ rfl rfl rfl rfl rfl rfl rfl rfl rfl rfl ?_) | refine c_condP rfl (fun hc => ?_) (fun hc => ?_))
      all_goals try (simp only [List.length_append, List.length_singleton]; omega)
      all_goals try (simp only [List.length_map]; omega)
      all_goals try omega
      exact q_loop (n' := is.length - (i + 1)) (by omega) ((ghost_keep2 [0, 3, 5, 41, 42, 43] [.loc 3, .par 102, .loc 906] rfl rfl).trans (ghost_renL2 (.loc 906) (.loc 900) rfl rfl rfl rfl)) ⟨i + 1, by omega, rfl, by rw [wi]; rfl, by rw [hnext]; rfl⟩
  · obtain rfl : i = is.length := by omega
    have e : es ++ u8L (91 :: preJ 4 ns is is.length) ++ [T.int .u8 93] = es ++ u8L (91 :: (preJ 4 ns is is.length ++ [93])) := by
      rw [List.append_assoc]
      congr 1
      show u8L _ ++ u8L [93] = _
      rw [← u8L_append]; rfl
    have hXl : (es ++ u8L (91 :: preJ 4 ns is is.length)).length ≤ 50000000 := by rw [List.length_append, u8L_len, List.length_cons]; omega
    rw [← e]
    generalize es ++ u8L (91 :: preJ 4 ns is is.length) = X at *
    repeat' (first | (with_reducible refine codeT_seq ?_) | (with_reducible refine codeT_block ?_) | (with_reducible refine codeT_skip ?_) | (with_reducible refine codeT_ret ?_) | (with_reducible refine codeT_exit ?_) | (with_reducible refine codeT_regionL ?_) | (with_reducible refine lx_nil ?_) | (with_reducible refine q_then ?_) | (with_reducible refine q_then_exit ?_) | ((with_reducible refine q_block_same ?_ ?_); · rfl) | (with_reducible refine q_loop_exit ?_) | (exfalso; omega) | ((with_reducible refine g_move ?_); first | refine lx_move (r := (.t _)) rfl rfl rfl rfl rfl ?_ | refine lx_move (r := (.row _)) rfl rfl rfl rfl rfl ?_) | ((with_reducible refine g_binOp ?_); first | refine lx_arith rfl rfl rfl rfl rfl rfl rfl ?_) | ((with_reducible refine g_assign ?_); first | refine lx_assign (r := (.row _)) rfl rfl rfl rfl rfl ?_) | ((with_reducible refine g_index ?_); first | refine lx_index_str rfl rfl rfl rfl rfl rfl ?_ ?_ ?_) | ((with_reducible refine g_buildSlice ?_); first | refine lx_buildSlice rfl rfl rfl rfl rfl rfl rfl ?_) | ((with_reducible refine g_append ?_); first | refine lx_append_row rfl rfl rfl rfl rfl rfl rfl rfl rfl rfl ?_ ?_ ?_) | refine c_condP rfl (fun hc => ?_) (fun hc => ?_))
    all_goals try (simp only [List.length_singleton]; omega)
    all_goals try decide
    refine q_ghost ((ghost_keep2 [4] [.par 102, .loc 73] rfl rfl).trans (ghost_renL2 (.loc 73) (.res 0) rfl rfl rfl rfl)) ?_
    exact q_done (q_ret (resT_one rfl (AVLE.of_eq rfl)) (stHas_spec ⟨rfl, rfl, trivial⟩))
set_option maxHeartbeats 16000000 in
theorem jput_map {oP : Obj} (b : Bool) (n : Int) (t : ByteArray) (ns : List ByteArray) (is : List Nd) (hlen : is.length ≤ 256) (hl5 : ns.length = is.length) (hns : ∀ s ∈ ns, s.size ≤ 65536) (es : List T) (hb : es.length + (preJ 5 ns is is.length).length + 2 ≤ 50000000)
    (IH : ∀ i, i < is.length → ∀ es' : List T, es'.length + (is.getD i default).jb.length ≤ 50000000 → Spec Tryd.prog 27 [.row (.par 0), .t (is.getD i default).toT] [(.par 0, .slt 5 1 es'), (.par 102, .dat (.fix 2 oP))] (.row (.res 0)) [(.res 0, .slt 5 1 (es' ++ u8L (is.getD i default).jb)), (.par 102, .dat (.fix 2 oP))]) :
    Spec Tryd.prog 27 [.row (.par 0), .t (.agg [.int .i64 5, .bool b, .int .i64 n, .str t, .sl 1 (ns.map .str), .sl 6 (is.map Nd.toT)])] [(.par 0, .slt 5 1 es), (.par 102, .dat (.fix 2 oP))] (.row (.res 0)) [(.res 0, .slt 5 1 (es ++ u8L (123 :: (preJ 5 ns is is.length ++ [125])))), (.par 102, .dat (.fix 2 oP))] := by
  refine spec_introG (env0 := [(0, _), (1, _)]) (st0 := [(_, some _), (_, some _)]) Tryd.func27 rfl rfl rfl rfl ?_
  repeat' (first | (with_reducible refine codeT_seq ?_) | (with_reducible refine codeT_block ?_) | (with_reducible refine codeT_skip ?_) | (with_reducible refine codeT_regionL ?_) | (with_reducible refine lx_nil ?_) | (with_reducible refine q_then ?_) | (with_reducible refine q_block ?_) | refine c_condT rfl ?_ | refine c_condF rfl ?_ | ((with_reducible refine g_move ?_); first | refine lx_move (r := (.t _)) rfl rfl rfl rfl rfl ?_ | refine lx_move (r := (.row _)) rfl rfl rfl rfl rfl ?_) | ((with_reducible refine g_load ?_); first | refine lx_load_var rfl rfl rfl rfl rfl rfl rfl rfl ?_) | ((with_reducible refine g_fieldAddr ?_); first | refine lx_fieldAddr rfl rfl rfl rfl rfl rfl rfl ?_) | ((with_reducible refine g_binOp ?_); first | refine lx_arith rfl rfl rfl rfl rfl rfl rfl ?_) | ((with_reducible refine g_assign ?_); first | refine lx_assign (r := (.t _)) rfl rfl rfl rfl rfl ?_ | refine lx_assign (r := (.row _)) rfl rfl rfl rfl rfl ?_) | ((with_reducible refine g_box ?_); first | refine lx_box (r := (.t (.agg _))) (cs := (List.map .t _)) rfl rfl rfl rfl rfl rfl rfl rfl rfl ?_) | ((with_reducible refine g_index ?_); first | refine lx_index_str rfl rfl rfl rfl rfl rfl ?_ ?_ ?_) | ((with_reducible refine g_buildSlice ?_); first | refine lx_buildSlice rfl rfl rfl rfl rfl rfl rfl ?_) | ((with_reducible refine g_len ?_); first | refine lx_len_map rfl rfl rfl rfl rfl ?_) | ((with_reducible refine g_append ?_); first | refine lx_append_row rfl rfl rfl rfl rfl rfl rfl rfl rfl rfl ?_ ?_ ?_))
  all_goals try (simp only [List.length_singleton]; omega)
  all_goals try decide
  refine codeT_ghost ((ghost_keep2 [0, 3, 5, 41, 42, 43] [.loc 3, .par 102, .loc 39] rfl rfl).trans (ghost_renL2 (.loc 39) (.loc 900) rfl rfl rfl rfl)) ?_
  refine codeT_loop (fun p env st => ∃ (i : Nat), i ≤ is.length ∧ p = is.length - i ∧
      env = EnvL.get [(0, .row (.loc 900)), (3, .ref (.loc 3) 0 0 0), (5, .t (.str ⟨#[123, 125]⟩)), (41, .t (.sl 6 (is.map Nd.toT))), (42, .t (.int .i64 (is.length : Int))), (43, .t (.int .i64 (i : Int)))] ∧
      st = StO.get [(.loc 3, some (.var 26 [.t (.int .i64 5), .t (.bool b), .t (.int .i64 n), .t (.str t), .t (.sl 1 (ns.map .str)), .t (.sl 6 (is.map Nd.toT))])), (.par 102, some (.dat (.fix 2 oP))), (.loc 900, some (.slt 5 1 (es ++ u8L (123 :: preJ 5 ns is i))))])
    ?_ (n := is.length) ⟨0, by omega, rfl, rfl, rfl⟩
  rintro p env st ⟨i, hi, rfl, rfl, rfl⟩
  have wi : IntKind.i64.wrap ((i : Int) + 1) = ((i + 1 : Nat) : Int) := by rw [wrap64 (by omega) (by omega)]; omega
  have hle0 : (preJ 5 ns is i).length ≤ (preJ 5 ns is is.length).length := preJ_mono (fun _ => hl5) (by omega) (by omega)
  by_cases hlt : i < is.length
  · have hle : (preJ 5 ns is (i + 1)).length ≤ (preJ 5 ns is is.length).length := preJ_mono (fun _ => hl5) (by omega) (by omega)
    have hT := (is.getD i default).toT_full
    have hIH := IH i hlt
    have hT2 : (is.getD (i : Int).toNat default).toT = _ := hT
    rw [hT] at hIH
    rw [preJ_map hl5 hlt] at hle
    obtain ⟨X, hX⟩ : ∃ X, X = es ++ u8L (123 :: preJ 5 ns is i) := ⟨_, rfl⟩
    have hXl : X.length = es.length + 1 + (preJ 5 ns is i).length := by rw [hX, List.length_append, u8L_len, List.length_cons]; omega
    have hnext : es ++ u8L (123 :: preJ 5 ns is (i + 1)) = X ++ u8L ((if i = 0 then [] else [44]) ++ (jQ (ns.getD i default) ++ (58 :: (is.getD i default).jb))) := by
      rw [hX, preJ_map hl5 hlt, List.append_assoc, ← u8L_append]; rfl
    rw [← hX]
    clear hX
    have hsz : (ns.getD i default).size ≤ 65536 := hns _ (by rw [List.getD_eq_getElem?_getD, List.getElem?_eq_getElem (by omega)]; simp)
    have hjl := jQ_len (ns.getD i default)
    have hnn : i < ns.length := by omega
    simp only [List.length_append, List.length_cons] at hle
    generalize hS : ns.getD i default = S at *
    have hS2 : ns.getD (i : Int).toNat default = S := hS
    generalize is.getD i default = x at *
    by_cases h0 : i = 0
    · rw [if_pos h0] at hnext hle
      rw [List.nil_append] at hnext
      have hQ := quoted_spec (X) S (by first | omega | (simp only [List.length_append, List.length_singleton]; omega))
      have hP2 := hIH (X ++ u8L (jQ S) ++ [T.int .u8 58]) (by simp only [List.length_append, List.length_singleton, List.length_cons, List.length_nil, u8L_len] at hle ⊢; omega)
      rw [← hS2] at hQ
      have hN2 : X ++ u8L (jQ S ++ 58 :: x.jb) = X ++ u8L (jQ S) ++ [T.int .u8 58] ++ u8L x.jb := by
        rw [show jQ S ++ 58 :: x.jb = jQ S ++ ([58] ++ x.jb) from rfl]
        simp only [u8L_append, List.append_assoc]; rfl
      rw [hN2] at hnext
      have hlq : (u8L (jQ S)).length ≤ 393300 := by rw [u8L_len]; omega
      rw [← hS2] at hP2 hnext hlq
      generalize u8L (jQ (ns.getD (i : Int).toNat default)) = Q at hQ hP2 hnext hlq
      repeat' (first | (with_reducible refine codeT_seq ?_) | (with_reducible refine codeT_block ?_) | (with_reducible refine codeT_skip ?_) | (with_reducible refine codeT_exit ?_) | (with_reducible refine codeT_regionL ?_) | (with_reducible refine lx_nil ?_) | (with_reducible refine q_then ?_) | (with_reducible refine q_then_exit ?_) | (with_reducible refine q_block ?_) | ((with_reducible refine q_block_same ?_ ?_); · rfl) | (with_reducible refine q_loop_exit ?_) | refine c_condT rfl ?_ | (exfalso; omega) | refine lx_load_tpAE rfl rfl hT2 rfl rfl rfl rfl rfl rfl ?_ | ((with_reducible refine g_move ?_); first | refine lx_move (r := (.t _)) rfl rfl rfl rfl rfl ?_ | refine lx_move (r := (.row _)) rfl rfl rfl rfl rfl ?_) | ((with_reducible refine g_load ?_); first | refine lx_load_var rfl rfl rfl rfl rfl rfl rfl rfl ?_ | refine lx_load_varA (r := (.t (.agg _))) rfl rfl rfl rfl rfl rfl rfl rfl rfl ?_ | refine lx_load_tp rfl rfl rfl rfl rfl rfl rfl ?_) | ((with_reducible refine g_fieldAddr ?_); first | refine lx_fieldAddr rfl rfl rfl rfl rfl rfl rfl ?_) | ((with_reducible refine g_binOp ?_); first | refine lx_arith rfl rfl rfl rfl rfl rfl rfl ?_) | ((with_reducible refine g_assign ?_); first | refine lx_assign (r := (.t _)) rfl rfl rfl rfl rfl ?_ | refine lx_assign (r := (.row _)) rfl rfl rfl rfl rfl ?_) | ((with_reducible refine g_alloc ?_); first | refine lx_alloc rfl rfl rfl rfl rfl rfl rfl ?_) | ((with_reducible refine g_store ?_); first | refine lx_store_var (r := (.t (.agg _))) rfl rfl rfl rfl rfl rfl rfl rfl rfl rfl ?_) | ((with_reducible refine g_indexAddr ?_); first | refine lx_indexAddr_map rfl rfl rfl rfl rfl rfl ?_ ?_ ?_) | ((with_reducible refine g_buildSlice ?_); first | refine lx_buildSlice rfl rfl rfl rfl rfl rfl rfl ?_) | ((with_reducible refine g_append ?_); first | refine lx_append_row rfl rfl rfl rfl rfl rfl rfl rfl rfl rfl ?_ ?_ ?_) | ((with_reducible refine g_call ?_); first | refine lx_call (r' := .row (.loc 905)) [(.par 0, .loc 900), (.res 0, .loc 905)] rfl rfl hQ (ArgsLE.refl _) rfl ⟨rfl, trivial⟩ rfl rfl rfl rfl rfl rfl rfl rfl rfl rfl ?_ | refine lx_call (r' := .row (.loc 906)) [(.par 0, .loc 64), (.res 0, .loc 906)] rfl rfl hP2 (ArgsLE.refl _) rfl ⟨rfl, rfl, trivial⟩ rfl rfl rfl rfl rfl rfl rfl rfl rfl rfl ?_) | refine c_condP rfl (fun hc => ?_) (fun hc => ?_))
      all_goals try (simp only [List.length_append, List.length_singleton]; omega)
      all_goals try (simp only [List.length_map]; omega)
      all_goals try omega
      exact q_loop (n' := is.length - (i + 1)) (by omega) ((ghost_keep2 [0, 3, 5, 41, 42, 43] [.loc 3, .par 102, .loc 906] rfl rfl).trans (ghost_renL2 (.loc 906) (.loc 900) rfl rfl rfl rfl)) ⟨i + 1, by omega, rfl, by rw [wi]; rfl, by rw [hnext]; rfl⟩
    · rw [if_neg h0] at hnext hle
      have hQ := quoted_spec (X ++ [T.int .u8 44]) S (by first | omega | (simp only [List.length_append, List.length_singleton]; omega))
      have hP2 := hIH (X ++ [T.int .u8 44] ++ u8L (jQ S) ++ [T.int .u8 58]) (by simp only [List.length_append, List.length_singleton, List.length_cons, List.length_nil, u8L_len] at hle ⊢; omega)
      rw [← hS2] at hQ
      have hN2 : X ++ u8L ([44] ++ (jQ S ++ 58 :: x.jb)) = X ++ [T.int .u8 44] ++ u8L (jQ S) ++ [T.int .u8 58] ++ u8L x.jb := by
        rw [show [44] ++ (jQ S ++ 58 :: x.jb) = [44] ++ (jQ S ++ ([58] ++ x.jb)) from rfl]
        simp only [u8L_append, List.append_assoc]; rfl
      rw [hN2] at hnext
      have hlq : (u8L (jQ S)).length ≤ 393300 := by rw [u8L_len]; omega
      rw [← hS2] at hP2 hnext hlq
      generalize u8L (jQ (ns.getD (i : Int).toNat default)) = Q at hQ hP2 hnext hlq
      repeat' (first | (with_reducible refine codeT_seq ?_) | (with_reducible refine codeT_block ?_) | (with_reducible refine codeT_skip ?_) | (with_reducible refine codeT_exit ?_) | (with_reducible refine codeT_regionL ?_) | (with_reducible refine lx_nil ?_) | (with_reducible refine q_then ?_) | (with_reducible refine q_then_exit ?_) | (with_reducible refine q_block ?_) | ((with_reducible refine q_block_same ?_ ?_); · rfl) | (with_reducible refine q_loop_exit ?_) | refine c_condT rfl ?_ | (exfalso; omega) | refine lx_load_tpAE rfl rfl hT2 rfl rfl rfl rfl rfl rfl ?_ | ((with_reducible refine g_move ?_); first | refine lx_move (r := (.t _)) rfl rfl rfl rfl rfl ?_ | refine lx_move (r := (.row _)) rfl rfl rfl rfl rfl ?_) | ((with_reducible refine g_load ?_); first | refine lx_load_var rfl rfl rfl rfl rfl rfl rfl rfl ?_ | refine lx_load_varA (r := (.t (.agg _))) rfl rfl rfl rfl rfl rfl rfl rfl rfl ?_ | refine lx_load_tp rfl rfl rfl rfl rfl rfl rfl ?_) | ((with_reducible refine g_fieldAddr ?_); first | refine lx_fieldAddr rfl rfl rfl rfl rfl rfl rfl ?_) | ((with_reducible refine g_binOp ?_); first | refine lx_arith rfl rfl rfl rfl rfl rfl rfl ?_) | ((with_reducible refine g_assign ?_); first | refine lx_assign (r := (.t _)) rfl rfl rfl rfl rfl ?_ | refine lx_assign (r := (.row _)) rfl rfl rfl rfl rfl ?_) | ((with_reducible refine g_alloc ?_); first | refine lx_alloc rfl rfl rfl rfl rfl rfl rfl ?_) | ((with_reducible refine g_store ?_); first | refine lx_store_var (r := (.t (.agg _))) rfl rfl rfl rfl rfl rfl rfl rfl rfl rfl ?_) | ((with_reducible refine g_indexAddr ?_); first | refine lx_indexAddr_map rfl rfl rfl rfl rfl rfl ?_ ?_ ?_) | ((with_reducible refine g_buildSlice ?_); first | refine lx_buildSlice rfl rfl rfl rfl rfl rfl rfl ?_) | ((with_reducible refine g_append ?_); first | refine lx_append_row rfl rfl rfl rfl rfl rfl rfl rfl rfl rfl ?_ ?_ ?_) | ((with_reducible refine g_call ?_); first | refine lx_call (r' := .row (.loc 905)) [(.par 0, .loc 52), (.res 0, .loc 905)] rfl rfl hQ (ArgsLE.refl _) rfl ⟨rfl, trivial⟩ rfl rfl rfl rfl rfl rfl rfl rfl rfl rfl ?_ | refine lx_call (r' := .row (.loc 906)) [(.par 0, .loc 64), (.res 0, .loc 906)] rfl rfl hP2 (ArgsLE.refl _) rfl ⟨rfl, rfl, trivial⟩ rfl rfl rfl rfl rfl rfl rfl rfl rfl rfl ?_) | refine c_condP rfl (fun hc => ?_) (fun hc => ?_))
      all_goals try (simp only [List.length_append, List.length_singleton]; omega)
      all_goals try (simp only [List.length_map]; omega)
      all_goals try omega
      exact q_loop (n' := is.length - (i + 1)) (by omega) ((ghost_keep2 [0, 3, 5, 41, 42, 43] [.loc 3, .par 102, .loc 906] rfl rfl).trans (ghost_renL2 (.loc 906) (.loc 900) rfl rfl rfl rfl)) ⟨i + 1, by omega, rfl, by rw [wi]; rfl, by rw [hnext]; rfl⟩
  · obtain rfl : i = is.length := by omega
    have e : es ++ u8L (123 :: preJ 5 ns is is.length) ++ [T.int .u8 125] = es ++ u8L (123 :: (preJ 5 ns is is.length ++ [125])) := by
      rw [List.append_assoc]
      congr 1
      show u8L _ ++ u8L [125] = _
      rw [← u8L_append]; rfl
    have hXl : (es ++ u8L (123 :: preJ 5 ns is is.length)).length ≤ 50000000 := by rw [List.length_append, u8L_len, List.length_cons]; omega
    rw [← e]
    generalize es ++ u8L (123 :: preJ 5 ns is is.length) = X at *
    repeat' (first | (with_reducible refine codeT_seq ?_) | (with_reducible refine codeT_block ?_) | (with_reducible refine codeT_skip ?_) | (with_reducible refine codeT_ret ?_) | (with_reducible refine codeT_exit ?_) | (with_reducible refine codeT_regionL ?_) | (with_reducible refine lx_nil ?_) | (with_reducible refine q_then ?_) | (with_reducible refine q_then_exit ?_) | ((with_reducible refine q_block_same ?_ ?_); · rfl) | (with_reducible refine q_loop_exit ?_) | (exfalso; omega) | ((with_reducible refine g_move ?_); first | refine lx_move (r := (.t _)) rfl rfl rfl rfl rfl ?_ | refine lx_move (r := (.row _)) rfl rfl rfl rfl rfl ?_) | ((with_reducible refine g_binOp ?_); first | refine lx_arith rfl rfl rfl rfl rfl rfl rfl ?_) | ((with_reducible refine g_assign ?_); first | refine lx_assign (r := (.row _)) rfl rfl rfl rfl rfl ?_) | ((with_reducible refine g_index ?_); first | refine lx_index_str rfl rfl rfl rfl rfl rfl ?_ ?_ ?_) | ((with_reducible refine g_buildSlice ?_); first | refine lx_buildSlice rfl rfl rfl rfl rfl rfl rfl ?_) | ((with_reducible refine g_append ?_); first | refine lx_append_row rfl rfl rfl rfl rfl rfl rfl rfl rfl rfl ?_ ?_ ?_) | refine c_condP rfl (fun hc => ?_) (fun hc => ?_))
    all_goals try (simp only [List.length_singleton]; omega)
    all_goals try decide
    refine q_ghost ((ghost_keep2 [4] [.par 102, .loc 73] rfl rfl).trans (ghost_renL2 (.loc 73) (.res 0) rfl rfl rfl rfl)) ?_
    exact q_done (q_ret (resT_one rfl (AVLE.of_eq rfl)) (stHas_spec ⟨rfl, rfl, trivial⟩))
set_option maxHeartbeats 16000000 in
theorem jput_spec {V : ByteArray → Bool} {oP : Obj} (hP : isTabOf .u64 Lib.pow10Tab oP) : ∀ (x : Nd) (e : Int), x.validB V e = true → x.In → ∀ es : List T, es.length + x.jb.length ≤ 50000000 →
    Spec Tryd.prog 27 [.row (.par 0), .t x.toT] [(.par 0, .slt 5 1 es), (.par 102, .dat (.fix 2 oP))] (.row (.res 0)) [(.res 0, .slt 5 1 (es ++ u8L x.jb)), (.par 102, .dat (.fix 2 oP))]
  | .mk k b n t ns is, e, hv, hin, es, hb => by
    rw [valid_mk] at hv
    obtain ⟨h1, h2, h3, h4, h5, h6, h7, h8⟩ := hv
    cases hin with
    | mk i1 i2 i3 =>
    rw [Nd.toT_eq]
    have hk : k = 0 ∨ k = 1 ∨ k = 2 ∨ k = 3 ∨ (k = 4 ∨ k = 5) := by omega
    rcases hk with rfl | rfl | rfl | rfl | hk
    · have ec : (Nd.mk 0 b n t ns is).jb = jNull := by simp [Nd.jb]
      rw [ec]
      refine spec_introG (env0 := [(0, _), (1, _)]) (st0 := [(_, some _), (_, some _)]) Tryd.func27 rfl rfl rfl rfl ?_
      repeat' (first | (with_reducible refine codeT_seq ?_) | (with_reducible refine codeT_block ?_) | (with_reducible refine codeT_ret ?_) | (with_reducible refine codeT_regionL ?_) | (with_reducible refine lx_nil ?_) | (with_reducible refine q_then ?_) | (with_reducible refine q_then_ret ?_) | (with_reducible refine q_block_ret ?_) | refine c_condT rfl ?_ | ((with_reducible refine g_move ?_); first | refine lx_move (r := (.row _)) rfl rfl rfl rfl rfl ?_) | ((with_reducible refine g_load ?_); first | refine lx_load_var rfl rfl rfl rfl rfl rfl rfl rfl ?_) | ((with_reducible refine g_fieldAddr ?_); first | refine lx_fieldAddr rfl rfl rfl rfl rfl rfl rfl ?_) | ((with_reducible refine g_binOp ?_); first | refine lx_arith rfl rfl rfl rfl rfl rfl rfl ?_) | ((with_reducible refine g_assign ?_); first | refine lx_assign (r := (.t _)) rfl rfl rfl rfl rfl ?_ | refine lx_assign (r := (.row _)) rfl rfl rfl rfl rfl ?_) | ((with_reducible refine g_box ?_); first | refine lx_box (r := (.t (.agg _))) (cs := (List.map .t _)) rfl rfl rfl rfl rfl rfl rfl rfl rfl ?_) | ((with_reducible refine g_append ?_); first | refine lx_append_str rfl rfl rfl rfl rfl rfl rfl rfl rfl ?_ ?_ ?_))
      · show (es.length + 4) * 1 ≤ _; omega
      · show es.length + 4 ≤ _; omega
      refine q_ghost ((ghost_keep2 [4] [.par 102, .loc 13] rfl rfl).trans (ghost_renL2 (.loc 13) (.res 0) rfl rfl rfl rfl)) ?_
      exact q_done (q_ret (resT_one rfl (AVLE.of_eq rfl)) (stHas_spec ⟨rfl, rfl, trivial⟩))
    · have ec : (Nd.mk 1 b n t ns is).jb = if b then jTrue else jFalse := by simp [Nd.jb]
      rw [ec]
      have hB := appendBool_spec es b (by omega)
      generalize u8L (if b then jTrue else jFalse) = D at hB ⊢
      refine spec_introG (env0 := [(0, _), (1, _)]) (st0 := [(_, some _), (_, some _)]) Tryd.func27 rfl rfl rfl rfl ?_
      repeat' (first | (with_reducible refine codeT_seq ?_) | (with_reducible refine codeT_block ?_) | (with_reducible refine codeT_ret ?_) | (with_reducible refine codeT_regionL ?_) | (with_reducible refine lx_nil ?_) | (with_reducible refine q_then ?_) | (with_reducible refine q_then_ret ?_) | (with_reducible refine q_block_ret ?_) | refine c_condT rfl ?_ | refine c_condF rfl ?_ | ((with_reducible refine g_move ?_); first | refine lx_move (r := (.row _)) rfl rfl rfl rfl rfl ?_) | ((with_reducible refine g_load ?_); first | refine lx_load_var rfl rfl rfl rfl rfl rfl rfl rfl ?_) | ((with_reducible refine g_fieldAddr ?_); first | refine lx_fieldAddr rfl rfl rfl rfl rfl rfl rfl ?_) | ((with_reducible refine g_binOp ?_); first | refine lx_arith rfl rfl rfl rfl rfl rfl rfl ?_) | ((with_reducible refine g_assign ?_); first | refine lx_assign (r := (.t _)) rfl rfl rfl rfl rfl ?_ | refine lx_assign (r := (.row _)) rfl rfl rfl rfl rfl ?_) | ((with_reducible refine g_box ?_); first | refine lx_box (r := (.t (.agg _))) (cs := (List.map .t _)) rfl rfl rfl rfl rfl rfl rfl rfl rfl ?_) | ((with_reducible refine g_call ?_); first | refine lx_call (r' := .row (.loc 903)) [(.res 0, .loc 903)] rfl rfl hB (ArgsLE.refl _) rfl ⟨rfl, trivial⟩ rfl rfl rfl rfl rfl rfl rfl rfl rfl rfl ?_))
      refine q_ghost ((ghost_keep2 [4] [.par 102, .loc 903] rfl rfl).trans (ghost_renL2 (.loc 903) (.res 0) rfl rfl rfl rfl)) ?_
      exact q_done (q_ret (resT_one rfl (AVLE.of_eq rfl)) (stHas_spec ⟨rfl, rfl, trivial⟩))
    · have ec : (Nd.mk 2 b n t ns is).jb = Lib.itoa n := by simp [Nd.jb]
      rw [ec]
      have hB := appendInt_spec hP es (by omega) n i1 i2
      generalize u8L (Lib.itoa n) = D at hB ⊢
      refine spec_introG (env0 := [(0, _), (1, _)]) (st0 := [(_, some _), (_, some _)]) Tryd.func27 rfl rfl rfl rfl ?_
      repeat' (first | (with_reducible refine codeT_seq ?_) | (with_reducible refine codeT_block ?_) | (with_reducible refine codeT_ret ?_) | (with_reducible refine codeT_regionL ?_) | (with_reducible refine lx_nil ?_) | (with_reducible refine q_then ?_) | (with_reducible refine q_then_ret ?_) | (with_reducible refine q_block_ret ?_) | refine c_condT rfl ?_ | refine c_condF rfl ?_ | ((with_reducible refine g_move ?_); first | refine lx_move (r := (.row _)) rfl rfl rfl rfl rfl ?_) | ((with_reducible refine g_load ?_); first | refine lx_load_var rfl rfl rfl rfl rfl rfl rfl rfl ?_) | ((with_reducible refine g_fieldAddr ?_); first | refine lx_fieldAddr rfl rfl rfl rfl rfl rfl rfl ?_) | ((with_reducible refine g_binOp ?_); first | refine lx_arith rfl rfl rfl rfl rfl rfl rfl ?_) | ((with_reducible refine g_assign ?_); first | refine lx_assign (r := (.t _)) rfl rfl rfl rfl rfl ?_ | refine lx_assign (r := (.row _)) rfl rfl rfl rfl rfl ?_) | ((with_reducible refine g_box ?_); first | refine lx_box (r := (.t (.agg _))) (cs := (List.map .t _)) rfl rfl rfl rfl rfl rfl rfl rfl rfl ?_) | ((with_reducible refine g_call ?_); first | refine lx_call (r' := .row (.loc 903)) [(.res 0, .loc 903)] rfl rfl hB (ArgsLE.refl _) rfl ⟨rfl, rfl, trivial⟩ rfl rfl rfl rfl rfl rfl rfl rfl rfl rfl ?_))
      refine q_ghost ((ghost_keep2 [4] [.par 102, .loc 903] rfl rfl).trans (ghost_renL2 (.loc 903) (.res 0) rfl rfl rfl rfl)) ?_
      exact q_done (q_ret (resT_one rfl (AVLE.of_eq rfl)) (stHas_spec ⟨rfl, rfl, trivial⟩))
    · have ec : (Nd.mk 3 b n t ns is).jb = jQ t := by simp [Nd.jb]
      have ht : t.size ≤ 65536 := by
        simp only [textB, Bool.and_eq_true, decide_eq_true_eq] at h5; omega
      rw [ec]
      have hB := quoted_spec es t (by omega)
      generalize u8L (jQ t) = D at hB ⊢
      refine spec_introG (env0 := [(0, _), (1, _)]) (st0 := [(_, some _), (_, some _)]) Tryd.func27 rfl rfl rfl rfl ?_
      repeat' (first | (with_reducible refine codeT_seq ?_) | (with_reducible refine codeT_block ?_) | (with_reducible refine codeT_ret ?_) | (with_reducible refine codeT_regionL ?_) | (with_reducible refine lx_nil ?_) | (with_reducible refine q_then ?_) | (with_reducible refine q_then_ret ?_) | (with_reducible refine q_block_ret ?_) | refine c_condT rfl ?_ | refine c_condF rfl ?_ | ((with_reducible refine g_move ?_); first | refine lx_move (r := (.row _)) rfl rfl rfl rfl rfl ?_) | ((with_reducible refine g_load ?_); first | refine lx_load_var rfl rfl rfl rfl rfl rfl rfl rfl ?_) | ((with_reducible refine g_fieldAddr ?_); first | refine lx_fieldAddr rfl rfl rfl rfl rfl rfl rfl ?_) | ((with_reducible refine g_binOp ?_); first | refine lx_arith rfl rfl rfl rfl rfl rfl rfl ?_) | ((with_reducible refine g_assign ?_); first | refine lx_assign (r := (.t _)) rfl rfl rfl rfl rfl ?_ | refine lx_assign (r := (.row _)) rfl rfl rfl rfl rfl ?_) | ((with_reducible refine g_box ?_); first | refine lx_box (r := (.t (.agg _))) (cs := (List.map .t _)) rfl rfl rfl rfl rfl rfl rfl rfl rfl ?_) | ((with_reducible refine g_call ?_); first | refine lx_call (r' := .row (.loc 903)) [(.res 0, .loc 903)] rfl rfl hB (ArgsLE.refl _) rfl ⟨rfl, trivial⟩ rfl rfl rfl rfl rfl rfl rfl rfl rfl rfl ?_))
      refine q_ghost ((ghost_keep2 [4] [.par 102, .loc 903] rfl rfl).trans (ghost_renL2 (.loc 903) (.res 0) rfl rfl rfl rfl)) ?_
      exact q_done (q_ret (resT_one rfl (AVLE.of_eq rfl)) (stHas_spec ⟨rfl, rfl, trivial⟩))
    · have e1 : is.take is.length = is := List.take_length
      rcases hk with rfl | rfl
      · have ec : (Nd.mk 4 b n t ns is).jb = 91 :: (preJ 4 ns is is.length ++ [93]) := by simp [Nd.jb, preJ]
        rw [ec] at hb ⊢
        simp only [List.length_cons, List.length_append, List.length_nil] at hb
        exact jput_list b n t ns is (by omega) es (by omega) fun i hi es' hb' => by
          have hm : is.getD i default ∈ is := by rw [List.getD_eq_getElem?_getD, List.getElem?_eq_getElem hi]; exact List.getElem_mem _
          exact jput_spec hP (is.getD i default) (e - 1) (h8 _ hm) (i3 _ hm) es' hb'
      · have e2 : ns.take is.length = ns := by rw [← (h7 rfl).2]; exact List.take_length
        have ec : (Nd.mk 5 b n t ns is).jb = 123 :: (preJ 5 ns is is.length ++ [125]) := by simp [Nd.jb, preJ, e2]
        rw [ec] at hb ⊢
        simp only [List.length_cons, List.length_append, List.length_nil] at hb
        exact jput_map b n t ns is (by omega) (by have := (h7 rfl).2; omega) (fun s hs => by
          have := ((namesOk_iff (textB V) ns []).1 (h7 rfl).1).2 s hs
          have := this.2
          simp only [textB, Bool.and_eq_true, decide_eq_true_eq] at this; omega) es (by omega) fun i hi es' hb' => by
          have hm : is.getD i default ∈ is := by rw [List.getD_eq_getElem?_getD, List.getElem?_eq_getElem hi]; exact List.getElem_mem _
          exact jput_spec hP (is.getD i default) (e - 1) (h8 _ hm) (i3 _ hm) es' hb'
termination_by x => SizeOf.sizeOf x
decreasing_by
  all_goals
    have := List.sizeOf_lt_of_mem hm
    simp only [Nd.mk.sizeOf_spec]
    omega
end Go.AL
/- What json.Encode and json.Quote answer. -/
set_option linter.unusedVariables false
namespace Go.AL
open Go Go.Proofs Go.RowKit

set_option maxHeartbeats 8000000 in
theorem jEnc_spec {oF oA oP : Obj} {V : ByteArray → Bool} (hS : VSpec oF oA V) (hPw : isTabOf .u64 Lib.pow10Tab oP) (x : Nd) (hx : x.Ok) (hin : x.In) (hsz : x.validB V 8 = true → x.jb.length ≤ 49999999) : Spec Tryd.prog 14 [.t x.toT] [(.par 100, .dat (.fix 0 oF)), (.par 101, .dat (.fix 1 oA)), (.par 102, .dat (.fix 2 oP))] (.tup [.t (.str (jEnc V x).1), .t (.int .i64 (jEnc V x).2)]) [(.par 100, .dat (.fix 0 oF)), (.par 101, .dat (.fix 1 oA)), (.par 102, .dat (.fix 2 oP))] := by
  have hC : Spec Tryd.prog 26 [.t x.toT, .t (.fn 27)] [(.par 100, .dat (.fix 0 oF)), (.par 101, .dat (.fix 1 oA)), (.par 102, .dat (.fix 2 oP))] (.tup [.t (.str (jEnc V x).1), .t (.int .i64 (jEnc V x).2)]) [(.par 100, .dat (.fix 0 oF)), (.par 101, .dat (.fix 1 oA)), (.par 102, .dat (.fix 2 oP))] := by
    have hV := Valid_spec hS x hx
    have hT := x.toT_full
    unfold jEnc
    cases hv : x.validB V 8 with
    | false =>
      rw [hv] at hV
      rw [hT] at hV ⊢
      refine spec_intro (env0 := [(0, _), (1, _)]) (st0 := [(_, some _), (_, some _), (_, some _)]) Tryd.func26 rfl rfl rfl rfl ?_
      repeat' (first | (with_reducible refine codeT_seq ?_) | (with_reducible refine codeT_ret ?_) | (with_reducible refine codeT_regionL ?_) | (with_reducible refine lx_nil ?_) | (with_reducible refine q_then ?_) | (with_reducible refine q_then_ret ?_) | refine c_condT rfl ?_ | ((with_reducible refine g_load ?_); first | refine lx_load_varA (r := (.t (.agg _))) rfl rfl rfl rfl rfl rfl rfl rfl rfl ?_) | ((with_reducible refine g_assign ?_); first | refine lx_assign (r := (.t _)) rfl rfl rfl rfl rfl ?_) | ((with_reducible refine g_box ?_); first | refine lx_box (r := (.t (.agg _))) (cs := (List.map .t _)) rfl rfl rfl rfl rfl rfl rfl rfl rfl ?_) | ((with_reducible refine g_unOp ?_); first | refine lx_not rfl rfl rfl rfl rfl ?_) | ((with_reducible refine g_call ?_); first | refine lx_call (r' := .t (.bool false)) [] rfl rfl hV (ArgsLE.refl _) rfl ⟨rfl, rfl, trivial⟩ rfl rfl rfl rfl rfl rfl rfl rfl rfl rfl ?_))
      exact q_ret (resT_twoE rfl rfl rfl rfl rfl) (stHas_spec ⟨rfl, rfl, rfl, trivial⟩)
    | true =>
      have hP := Spec.nilArgS (jput_spec hPw x 8 hv hin [] (by have := hsz hv; simp; omega)) rfl rfl rfl rfl
      rw [List.nil_append] at hP
      rw [hv] at hV
      rw [hT] at hV hP ⊢
      have hlen : (u8L x.jb).length = x.jb.length := u8L_len _
      have hsz' := hsz hv
      refine spec_intro (env0 := [(0, _), (1, _)]) (st0 := [(_, some _), (_, some _), (_, some _)]) Tryd.func26 rfl rfl rfl rfl ?_
      repeat' (first | (with_reducible refine codeT_seq ?_) | (with_reducible refine codeT_skip ?_) | (with_reducible refine codeT_ret ?_) | (with_reducible refine codeT_regionL ?_) | (with_reducible refine lx_nil ?_) | (with_reducible refine q_then ?_) | (with_reducible refine q_then_ret ?_) | refine c_condF rfl ?_ | ((with_reducible refine g_move ?_); first | refine lx_move (r := (.t _)) rfl rfl rfl rfl rfl ?_ | refine lx_move (r := (.row _)) rfl rfl rfl rfl rfl ?_) | ((with_reducible refine g_load ?_); first | refine lx_load_varA (r := (.t (.agg _))) rfl rfl rfl rfl rfl rfl rfl rfl rfl ?_) | ((with_reducible refine g_binOp ?_); first | refine lx_arith rfl rfl rfl rfl rfl rfl rfl ?_) | ((with_reducible refine g_assign ?_); first | refine lx_assign (r := (.t _)) rfl rfl rfl rfl rfl ?_ | refine lx_assign (r := (.row _)) rfl rfl rfl rfl rfl ?_) | ((with_reducible refine g_box ?_); first | refine lx_box (r := (.t (.agg _))) (cs := (List.map .t _)) rfl rfl rfl rfl rfl rfl rfl rfl rfl ?_) | ((with_reducible refine g_unOp ?_); first | refine lx_not rfl rfl rfl rfl rfl ?_) | ((with_reducible refine g_convert ?_); first | refine lx_ofBytes_row rfl rfl rfl rfl rfl rfl ?_ ?_) | ((with_reducible refine g_len ?_); first | refine lx_len_rowmap rfl rfl rfl rfl rfl rfl ?_) | ((with_reducible refine g_call ?_); first | refine lx_call (r' := .t (.bool true)) [] rfl rfl hV (ArgsLE.refl _) rfl ⟨rfl, rfl, trivial⟩ rfl rfl rfl rfl rfl rfl rfl rfl rfl rfl ?_ | refine lx_call (r' := .row (.loc 903)) [(.res 0, .loc 903)] rfl rfl hP (ArgsLE.refl _) rfl ⟨rfl, trivial⟩ rfl rfl rfl rfl rfl rfl rfl rfl rfl rfl ?_) | refine c_condP rfl (fun hc => ?_) (fun hc => ?_))
      · exact q_ret (resT_twoE rfl rfl rfl (by rw [if_pos rfl, if_pos (by omega)]; rfl) (by rw [if_pos rfl, if_pos (by omega)])) (stHas_spec ⟨rfl, rfl, rfl, trivial⟩)
      · exact u8L_isU8 _
      · exact q_ret (resT_twoE rfl rfl rfl (by rw [if_pos rfl, if_neg (by omega), strT_u8L]) (by rw [if_pos rfl, if_neg (by omega)])) (stHas_spec ⟨rfl, rfl, rfl, trivial⟩)
  generalize (jEnc V x).1 = s1 at hC ⊢
  generalize (jEnc V x).2 = s2 at hC ⊢
  have hT := x.toT_full
  rw [hT] at hC ⊢
  refine spec_intro (env0 := [(0, _)]) (st0 := [(_, some _), (_, some _), (_, some _)]) Tryd.func14 rfl rfl rfl rfl ?_
  repeat' (first | (with_reducible refine codeT_seq ?_) | (with_reducible refine codeT_ret ?_) | (with_reducible refine codeT_regionL ?_) | (with_reducible refine lx_nil ?_) | (with_reducible refine q_then ?_) | ((with_reducible refine g_load ?_); first | refine lx_load_varA (r := (.t (.agg _))) rfl rfl rfl rfl rfl rfl rfl rfl rfl ?_) | ((with_reducible refine g_assign ?_); first | refine lx_assign (r := (.t _)) rfl rfl rfl rfl rfl ?_) | ((with_reducible refine g_box ?_); first | refine lx_box (r := (.t (.agg _))) (cs := (List.map .t _)) rfl rfl rfl rfl rfl rfl rfl rfl rfl ?_) | ((with_reducible refine g_extract ?_); first | refine lx_extract rfl rfl rfl rfl rfl rfl ?_) | ((with_reducible refine g_call ?_); first | refine lx_call (r' := .tup [.t (.str s1), .t (.int .i64 s2)]) [] rfl rfl hC (ArgsLE.refl _) rfl ⟨rfl, rfl, rfl, trivial⟩ rfl rfl rfl rfl rfl rfl rfl rfl rfl rfl ?_))
  exact q_ret (resT_twoE rfl rfl rfl rfl rfl) (stHas_spec ⟨rfl, rfl, rfl, trivial⟩)
/-- What Quote answers. -/
def jQuote (V : ByteArray → Bool) (s : ByteArray) : ByteArray × Int := if V s = true then (ofL (jQ s), 0) else (eS, 4)
end Go.AL
