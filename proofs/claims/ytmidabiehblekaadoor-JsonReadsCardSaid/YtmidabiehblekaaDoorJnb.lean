/- What slices.Index and node.place answer. -/
import Derived.Test.YtmidabiehblekaaDoorJna
import Derived.Test.YtmidabiehblekaaDoorAl3
import Derived.Test.YtmidabiehblekaaDoorNod1
set_option linter.unusedVariables false
namespace Go.AL
open Go Go.Proofs Go.RowKit

end Go.AL

/- What node.Get, node.Set and node.Put answer. -/
set_option linter.unusedVariables false
namespace Go.AL
open Go Go.Proofs Go.RowKit

theorem Spec.res {P : Program} {f : FuncId} {args : List AV} {S S' : StL} {r r' : T} (h : Spec P f args S (.t r) S') (e : r = r') : Spec P f args S (.t r') S' := e ▸ h
end Go.AL

/- What node.Own answers, with the rows that are the caller's own; what node.Set and node.Put answer. -/
set_option linter.unusedVariables false
namespace Go.AL
open Go Go.Proofs Go.RowKit

end Go.AL

/- What node.Set and node.Put answer. -/
set_option linter.unusedVariables false
namespace Go.AL
open Go Go.Proofs Go.RowKit

end Go.AL

/- What node.Put answers. -/
set_option linter.unusedVariables false
namespace Go.AL
open Go Go.Proofs Go.RowKit

theorem zero_toT : Nd.zero.toT = .agg [.int .i64 0, .bool false, .int .i64 0, .str ⟨#[]⟩, .sl 1 [], .sl 6 []] := Nd.toT_eq _ _ _ _ _ _

end Go.AL

/- What slices.Equal answers for texts, and slices.EqualFunc for nodes. -/
set_option linter.unusedVariables false
namespace Go.AL
open Go Go.Proofs Go.RowKit

theorem Nd.toT_full (x : Nd) : x.toT = .agg [.int .i64 x.kind, .bool x.bool, .int .i64 x.num, .str x.text, .sl 1 (x.names.map .str), .sl 6 (x.items.map Nd.toT)] := by
  cases x; exact Nd.toT_eq _ _ _ _ _ _
end Go.AL

/- What node.Texts and node.ReadTexts answer. -/
set_option linter.unusedVariables false
namespace Go.AL
open Go Go.Proofs Go.RowKit

def Nd.ofText (s : ByteArray) : Nd := .mk 3 false 0 s [] []
def Nd.ofTexts (l : List ByteArray) : Nd := .mk 4 false 0 eS [] (l.map Nd.ofText)
end Go.AL

/- What node.ReadTexts answers. -/
set_option linter.unusedVariables false
namespace Go.AL
open Go Go.Proofs Go.RowKit

def Nd.allText (l : List Nd) : Bool := l.all fun x => decide (x.kind = 3)
def Nd.readTexts (n : Nd) : List ByteArray × Bool := if n.kind = 4 ∧ Nd.allText n.items = true then (n.items.map Nd.text, true) else ([], false)
end Go.AL

/- What the kit's functions over dice answer: Light, Roll, Mod, Next, Word. -/
set_option linter.unusedVariables false
namespace Go.AL
open Go Go.Proofs Go.RowKit

/-- Dice in memory. -/
def Dc.row (d : Dc) : Row := .var 49 [.t (.sl 1 (d.l.map (T.int .i64))), .t (.int .i64 d.k)]
set_option maxHeartbeats 1000000 in
theorem Light_spec (l : List Int) : Spec Tryd.prog 8 [.t (.sl 1 (l.map (T.int .i64)))] [] (.t (.bool (decide ((l.length : Int) ≤ 500)))) [] := by
  refine spec_intro (env0 := [(0, _)]) (st0 := []) Tryd.func8 rfl rfl rfl rfl ?_
  repeat' (first | (with_reducible refine codeT_seq ?_) | (with_reducible refine codeT_ret ?_) | (with_reducible refine codeT_regionL ?_) | (with_reducible refine lx_nil ?_) | (with_reducible refine q_then ?_) | ((with_reducible refine g_move ?_); first | refine lx_move (r := (.t _)) rfl rfl rfl rfl rfl ?_) | ((with_reducible refine g_binOp ?_); first | refine lx_arith rfl rfl rfl rfl rfl rfl rfl ?_) | ((with_reducible refine g_assign ?_); first | refine lx_assign (r := (.t _)) rfl rfl rfl rfl rfl ?_) | ((with_reducible refine g_len ?_); first | refine lx_len_map rfl rfl rfl rfl rfl ?_))
  exact q_ret (resT_oneE rfl rfl rfl) (by simp)
set_option maxHeartbeats 1000000 in
theorem Roll_spec (l : List Int) : Spec Tryd.prog 10 [.t (.sl 1 (l.map (T.int .i64)))] [] (.ref (.res 0) 0 0 0) [(.res 0, (Dc.mk l 0).row)] := by
  unfold Dc.row
  refine spec_introG (env0 := [(0, _)]) (st0 := []) Tryd.func10 rfl rfl rfl rfl ?_
  repeat' (first | (with_reducible refine codeT_seq ?_) | (with_reducible refine codeT_ret ?_) | (with_reducible refine codeT_regionL ?_) | (with_reducible refine lx_nil ?_) | (with_reducible refine q_then ?_) | ((with_reducible refine g_move ?_); first | refine lx_move (r := (.t _)) rfl rfl rfl rfl rfl ?_) | ((with_reducible refine g_assign ?_); first | refine lx_assign (r := (.t _)) rfl rfl rfl rfl rfl ?_ | refine lx_assign (r := (.ref _ _ _ _)) rfl rfl rfl rfl rfl ?_) | ((with_reducible refine g_box ?_); first | refine lx_box (r := (.t (.agg _))) (cs := (List.map .t _)) rfl rfl rfl rfl rfl rfl rfl rfl rfl ?_) | ((with_reducible refine g_build ?_); first | refine lx_build (r := (.t (.agg _))) rfl rfl rfl rfl rfl rfl rfl ?_))
  refine q_ghost ((ghost_keep2 [2] [.loc 5] rfl rfl).trans (ghost_renL2 (.loc 5) (.res 0) rfl rfl rfl rfl)) ?_
  exact q_done (q_ret (resT_one rfl (AVLE.refl _)) (stHas_spec ⟨rfl, trivial⟩))
theorem modI_tmod (n m : Int) (h : 1 ≤ m) : (n.tmod m + m).tmod m = modI n m ∧ 0 ≤ n.tmod m + m ∧ n.tmod m + m ≤ 2 * m := by
  have h1 : -m < n.tmod m ∧ n.tmod m < m := by
    have a := Int.tmod_lt_of_pos n (b := m) (by omega)
    have b := Int.lt_tmod_of_pos n (b := m) (by omega)
    exact ⟨b, a⟩
  refine ⟨?_, by omega, by omega⟩
  unfold modI
  rw [if_neg (by omega), Int.tmod_eq_emod_of_nonneg (by omega), Int.tmod_def, show n - m * n.tdiv m + m = n + m * (1 - n.tdiv m) by rw [Int.mul_sub]; omega, Int.add_mul_emod_self_left]
set_option maxHeartbeats 1000000 in
theorem Mod_spec (n m : Int) (h : m ≤ 4611686018427387903) : Spec Tryd.prog 22 [.t (.int .i64 n), .t (.int .i64 m)] [] (.t (.int .i64 (modI n m))) [] := by
  refine spec_intro (env0 := [(0, _), (1, _)]) (st0 := []) Tryd.func22 rfl rfl rfl rfl ?_
  repeat' (first | (with_reducible refine codeT_seq ?_) | (with_reducible refine codeT_skip ?_) | (with_reducible refine codeT_ret ?_) | (with_reducible refine codeT_regionL ?_) | (with_reducible refine lx_nil ?_) | (with_reducible refine q_then ?_) | (with_reducible refine q_then_ret ?_) | ((with_reducible refine g_move ?_); first | refine lx_move (r := (.t _)) rfl rfl rfl rfl rfl ?_) | ((with_reducible refine g_binOp ?_); first | refine lx_arith rfl rfl rfl rfl rfl rfl rfl ?_ | refine lx_rem rfl rfl rfl rfl rfl rfl ?_ ?_) | ((with_reducible refine g_assign ?_); first | refine lx_assign (r := (.t _)) rfl rfl rfl rfl rfl ?_) | refine c_condP rfl (fun hc => ?_) (fun hc => ?_))
  all_goals try omega
  · exact q_ret (resT_oneE rfl rfl (by unfold modI; rw [if_pos hc])) (by simp)
  · have e := modI_tmod n m (by omega)
    refine q_ret (resT_oneE rfl rfl ?_) (by simp)
    rw [wrap64 (by omega) (by omega), e.1]
set_option maxHeartbeats 1000000 in
theorem Next_spec (d : Dc) (n : Int) (h : n ≤ 4611686018427387903) (hd : d.l.length ≤ 1000) : Spec Tryd.prog 13 [.ref (.par 0) 0 0 0, .t (.int .i64 n)] [(.par 0, d.row)] (.t (.int .i64 (d.next n).1)) [(.par 0, (d.next n).2.row)] := by
  have hm := Mod_spec (d.l.getD d.k 0) n h
  unfold Dc.row Dc.next
  generalize modI (d.l.getD d.k 0) n = v at *
  by_cases h0 : (d.l.length : Int) ≤ d.k
  · simp only [if_pos h0]
    refine spec_intro (env0 := [(0, _), (1, _)]) (st0 := [(_, some _)]) Tryd.func13 rfl rfl rfl rfl ?_
    repeat' (first | (with_reducible refine codeT_seq ?_) | (with_reducible refine codeT_skip ?_) | (with_reducible refine codeT_ret ?_) | (with_reducible refine codeT_regionL ?_) | ((with_reducible refine codeT_region_drawL ?_ ?_); · rfl) | (with_reducible refine lx_nil ?_) | (with_reducible refine q_then ?_) | (with_reducible refine q_then_ret ?_) | ((with_reducible refine q_region_draw ?_ ?_); · rfl) | ((with_reducible refine g_move ?_); first | refine lx_move (r := (.t _)) rfl rfl rfl rfl rfl ?_ | refine lx_move (r := (.ref _ _ _ _)) rfl rfl rfl rfl rfl ?_) | ((with_reducible refine g_load ?_); first | refine lx_load_var rfl rfl rfl rfl rfl rfl rfl rfl ?_ | refine lx_load_tp rfl rfl rfl rfl rfl rfl rfl ?_) | ((with_reducible refine g_fieldAddr ?_); first | refine lx_fieldAddr rfl rfl rfl rfl rfl rfl rfl ?_) | ((with_reducible refine g_binOp ?_); first | refine lx_arith rfl rfl rfl rfl rfl rfl rfl ?_) | ((with_reducible refine g_assign ?_); first | refine lx_assign (r := (.t _)) rfl rfl rfl rfl rfl ?_) | ((with_reducible refine g_store ?_); first | refine lx_store_var (r := (.t _)) rfl rfl rfl rfl rfl rfl rfl rfl rfl rfl ?_) | ((with_reducible refine g_nilCheck ?_); first | refine lx_nilCheck (r := (.ref _ _ _ _)) rfl rfl rfl rfl rfl rfl ?_) | ((with_reducible refine g_indexAddr ?_); first | refine lx_indexAddr_map rfl rfl rfl rfl rfl rfl ?_ ?_ ?_) | ((with_reducible refine g_len ?_); first | refine lx_len_map rfl rfl rfl rfl rfl ?_) | ((with_reducible refine g_call ?_); first | exact absurd h0 ‹_›) | refine c_condP rfl (fun hc => ?_) (fun hc => ?_))
    all_goals try (exfalso; omega)
    exact q_ret (resT_oneE rfl rfl rfl) (stHas_spec ⟨rfl, trivial⟩)
  · simp only [if_neg h0]
    have e : (IntKind.i64.wrap (IntKind.i64.wrap ((d.k : Int) + 1) - 1)).toNat = d.k := by
      rw [wrap64 (n := (d.k : Int) + 1) (by omega) (by omega), wrap64 (by omega) (by omega)]; omega
    have e2 : IntKind.i64.wrap (IntKind.i64.wrap ((d.k : Int) + 1) - 1) = d.k := by
      rw [wrap64 (n := (d.k : Int) + 1) (by omega) (by omega), wrap64 (by omega) (by omega)]; omega
    have e3 : IntKind.i64.wrap ((d.k : Int) + 1) = d.k + 1 := wrap64 (by omega) (by omega)
    have e4 : ((d.k + 1 : Nat) : Int) = IntKind.i64.wrap ((d.k : Int) + 1) := by rw [e3]; omega
    rw [← e] at hm
    rw [e4]
    refine spec_intro (env0 := [(0, _), (1, _)]) (st0 := [(_, some _)]) Tryd.func13 rfl rfl rfl rfl ?_
    repeat' (first | (with_reducible refine codeT_seq ?_) | (with_reducible refine codeT_skip ?_) | (with_reducible refine codeT_ret ?_) | (with_reducible refine codeT_regionL ?_) | ((with_reducible refine codeT_region_drawL ?_ ?_); · rfl) | (with_reducible refine lx_nil ?_) | (with_reducible refine q_then ?_) | (with_reducible refine q_then_ret ?_) | ((with_reducible refine q_region_draw ?_ ?_); · rfl) | ((with_reducible refine g_move ?_); first | refine lx_move (r := (.t _)) rfl rfl rfl rfl rfl ?_ | refine lx_move (r := (.ref _ _ _ _)) rfl rfl rfl rfl rfl ?_) | ((with_reducible refine g_load ?_); first | refine lx_load_var rfl rfl rfl rfl rfl rfl rfl rfl ?_ | refine lx_load_tp rfl rfl rfl rfl rfl rfl rfl ?_) | ((with_reducible refine g_fieldAddr ?_); first | refine lx_fieldAddr rfl rfl rfl rfl rfl rfl rfl ?_) | ((with_reducible refine g_binOp ?_); first | refine lx_arith rfl rfl rfl rfl rfl rfl rfl ?_) | ((with_reducible refine g_assign ?_); first | refine lx_assign (r := (.t _)) rfl rfl rfl rfl rfl ?_) | ((with_reducible refine g_store ?_); first | refine lx_store_var (r := (.t _)) rfl rfl rfl rfl rfl rfl rfl rfl rfl rfl ?_) | ((with_reducible refine g_nilCheck ?_); first | refine lx_nilCheck (r := (.ref _ _ _ _)) rfl rfl rfl rfl rfl rfl ?_) | ((with_reducible refine g_indexAddr ?_); first | refine lx_indexAddr_map rfl rfl rfl rfl rfl rfl ?_ ?_ ?_) | ((with_reducible refine g_len ?_); first | refine lx_len_map rfl rfl rfl rfl rfl ?_) | ((with_reducible refine g_call ?_); first | refine lx_callT rfl rfl hm rfl rfl (ArgsLE.refl _) rfl rfl rfl rfl rfl ?_) | refine c_condP rfl (fun hc => ?_) (fun hc => ?_))
    all_goals try (exfalso; omega)
    all_goals try omega
    exact q_ret (resT_oneE rfl rfl rfl) (stHas_spec ⟨rfl, trivial⟩)
end Go.AL

/- What Dice.Word answers. -/
set_option linter.unusedVariables false
namespace Go.AL
open Go Go.Proofs Go.RowKit

set_option maxHeartbeats 1000000 in
theorem Word_spec (d : Dc) (l : List ByteArray) (h0 : 1 ≤ l.length) (h : l.length ≤ 1000) (hd : d.l.length ≤ 1000) :
    Spec Tryd.prog 25 [.ref (.par 0) 0 0 0, .row (.par 1)] [(.par 0, d.row), (.par 1, .slt 9 1 (l.map .str))] (.t (.str (d.word l).1)) [(.par 0, (d.word l).2.row), (.par 1, .slt 9 1 (l.map .str))] := by
  have hn := Next_spec d l.length (by omega) hd
  have hlt := d.next_lt l.length (by omega)
  unfold Dc.word
  simp only
  generalize d.next l.length = q at *
  obtain ⟨v, d2⟩ := q
  simp only at *
  have hg : (l.map T.str)[v.toNat]? = some (.str (l.getD v.toNat default)) := by
    rw [List.getElem?_map, List.getElem?_eq_getElem (by omega)]
    simp [List.getD_eq_getElem?_getD, show v.toNat < l.length by omega]
  refine spec_intro (env0 := [(0, _), (1, _)]) (st0 := [(_, some _), (_, some _)]) Tryd.func25 rfl rfl rfl rfl ?_
  repeat' (first | (with_reducible refine codeT_seq ?_) | (with_reducible refine codeT_ret ?_) | (with_reducible refine codeT_regionL ?_) | (with_reducible refine lx_nil ?_) | (with_reducible refine q_then ?_) | ((with_reducible refine g_move ?_); first | refine lx_move (r := (.ref _ _ _ _)) rfl rfl rfl rfl rfl ?_ | refine lx_move (r := (.row _)) rfl rfl rfl rfl rfl ?_) | ((with_reducible refine g_load ?_); first | refine lx_load_elsM rfl rfl rfl rfl rfl rfl rfl rfl ?_ ?_) | ((with_reducible refine g_assign ?_); first | refine lx_assign (r := (.t _)) rfl rfl rfl rfl rfl ?_) | ((with_reducible refine g_indexAddr ?_); first | refine lx_indexAddr_row rfl rfl rfl rfl rfl rfl rfl ?_ ?_ ?_) | ((with_reducible refine g_len ?_); first | refine lx_len_rowmap rfl rfl rfl rfl rfl rfl ?_) | ((with_reducible refine g_call ?_); first | refine lx_call (r' := .t (.int .i64 v)) [] rfl rfl hn (ArgsLE.refl _) rfl ⟨rfl, trivial⟩ rfl rfl rfl rfl rfl rfl rfl rfl rfl rfl ?_))
  all_goals try (simp only [List.length_map]; omega)
  all_goals try omega
  exact q_ret (resT_oneE rfl rfl rfl) (stHas_spec ⟨rfl, rfl, trivial⟩)
end Go.AL

/- What the kit's Text answers. -/
set_option linter.unusedVariables false
namespace Go.AL
open Go Go.Proofs Go.RowKit

set_option maxHeartbeats 4000000 in
theorem kText_spec (d : Dc) (hd : d.l.length ≤ 1000) : Spec Tryd.prog 24 [.ref (.par 0) 0 0 0] [(.par 0, d.row)] (.t (.str (kText d).1)) [(.par 0, (kText d).2.row)] := by
  have hw := Word_spec d kTexts (by decide) (by decide) hd
  have hl : (d.word kTexts).2.l = d.l := d.next_l _
  have hsz := (kTexts_ok (V := fun _ => true) ⟨fun _ _ => rfl, fun _ _ => rfl, rfl⟩ _ (d.word_mem kTexts (by simp [kTexts]))).2
  unfold kText
  generalize d.word kTexts = w at *
  obtain ⟨s, d1⟩ := w
  simp only at *
  have hn := Next_spec d1 10 (by omega) (by rw [hl]; exact hd)
  have hl2 : (d1.next 10).2.l = d.l := by rw [Dc.next_l, hl]
  generalize d1.next 10 = q at *
  obtain ⟨v, d2⟩ := q
  simp only at *
  refine spec_introG (env0 := [(0, _)]) (st0 := [(_, some _)]) Tryd.func24 rfl rfl rfl rfl ?_
  repeat' (first | (with_reducible refine codeT_seq ?_) | (with_reducible refine codeT_block ?_) | (with_reducible refine codeT_skip ?_) | (with_reducible refine codeT_ret ?_) | (with_reducible refine codeT_regionL ?_) | (with_reducible refine lx_nil ?_) | (with_reducible refine q_then ?_) | ((with_reducible refine g_move ?_); first | refine lx_move (r := (.t _)) rfl rfl rfl rfl rfl ?_ | refine lx_move (r := (.ref _ _ _ _)) rfl rfl rfl rfl rfl ?_) | ((with_reducible refine g_binOp ?_); first | refine lx_arith rfl rfl rfl rfl rfl rfl rfl ?_) | ((with_reducible refine g_assign ?_); first | refine lx_assign (r := (.t _)) rfl rfl rfl rfl rfl ?_) | ((with_reducible refine g_buildSlice ?_); first | refine lx_buildSlice rfl rfl rfl rfl rfl rfl rfl ?_) | ((with_reducible refine g_call ?_); first | refine lx_call (r' := .t (.str s)) [(.par 1, .loc 5)] rfl rfl hw (ArgsLE.refl _) rfl ⟨rfl, rfl, trivial⟩ rfl rfl rfl rfl rfl rfl rfl rfl rfl rfl ?_ | refine lx_call (r' := .t (.int .i64 v)) [] rfl rfl hn (ArgsLE.refl _) rfl ⟨rfl, trivial⟩ rfl rfl rfl rfl rfl rfl rfl rfl rfl rfl ?_) | refine c_condP rfl (fun hc => ?_) (fun hc => ?_))
  · rw [if_pos hc]
    refine codeT_ghost (ghost_keep2 [0, 2, 3] [.par 0] rfl rfl) ?_
    refine codeT_loop (fun n env st => ∃ (f : Nat) (s' : ByteArray) (d' : Dc), n = f ∧ kPad f s' d' = kPad 300 s d2 ∧ 257 ≤ f + s'.size ∧ s'.size ≤ 256 ∧ d'.l = d.l ∧
        env = EnvL.get [(0, .ref (.par 0) 0 0 0), (2, .t (.str ⟨#[]⟩)), (3, .t (.str s'))] ∧ st = StO.get [(.par 0, some d'.row)])
      ?_ (n := 300) ⟨300, s, d2, rfl, rfl, by omega, hsz, hl2, rfl, rfl⟩
    clear hn hw hc hl hl2 hsz
    rintro n env st ⟨f, s', d', rfl, hk, h1, h2, h3, rfl, rfl⟩
    obtain ⟨f, rfl⟩ : ∃ m, n = m + 1 := ⟨n - 1, by omega⟩
    have hn := Next_spec d' 6 (by omega) (by rw [h3]; exact hd)
    have hlt := d'.next_lt 6 (by omega)
    have hl : (d'.next 6).2.l = d.l := by rw [Dc.next_l, h3]
    rw [kPad] at hk
    have hz : kSizes.getD (d'.next 6).1.toNat 0 ≤ 256 := by
      generalize (d'.next 6).1.toNat = j
      match j with
      | 0 | 1 | 2 | 3 | 4 | 5 => simp [kSizes]
      | j + 6 => simp [kSizes]
    generalize d'.next 6 = q at *
    obtain ⟨v, d3⟩ := q
    simp only at *
    rw [show kSizes.getD v.toNat 0 = kSizes.getD v.toNat default from rfl] at hk hz
    repeat' (first | (with_reducible refine codeT_seq ?_) | (with_reducible refine codeT_block ?_) | (with_reducible refine codeT_skip ?_) | (with_reducible refine codeT_ret ?_) | (with_reducible refine codeT_exit ?_) | (with_reducible refine codeT_regionL ?_) | (with_reducible refine lx_nil ?_) | (with_reducible refine q_then ?_) | (with_reducible refine q_then_exit ?_) | (with_reducible refine q_block ?_) | ((with_reducible refine q_block_same ?_ ?_); · rfl) | (with_reducible refine q_loop_exit ?_) | refine lx_load_elsM (f := T.int .i64) (l := kSizes) rfl rfl rfl rfl rfl rfl rfl rfl ?_ ?_ | ((with_reducible refine g_move ?_); first | refine lx_move (r := (.t _)) rfl rfl rfl rfl rfl ?_ | refine lx_move (r := (.ref _ _ _ _)) rfl rfl rfl rfl rfl ?_) | ((with_reducible refine g_binOp ?_); first | refine lx_arith rfl rfl rfl rfl rfl rfl rfl ?_ | refine lx_concat rfl rfl rfl rfl rfl rfl ?_ ?_) | ((with_reducible refine g_assign ?_); first | refine lx_assign (r := (.t _)) rfl rfl rfl rfl rfl ?_) | ((with_reducible refine g_indexAddr ?_); first | refine lx_indexAddr_row rfl rfl rfl rfl rfl rfl rfl ?_ ?_ ?_) | ((with_reducible refine g_buildSlice ?_); first | refine lx_buildSlice rfl rfl rfl rfl rfl rfl rfl ?_) | ((with_reducible refine g_len ?_); first | refine lx_len_str rfl rfl rfl rfl rfl ?_) | ((with_reducible refine g_call ?_); first | refine lx_call (r' := .t (.int .i64 v)) [] rfl rfl hn (ArgsLE.refl _) rfl ⟨rfl, trivial⟩ rfl rfl rfl rfl rfl rfl rfl rfl rfl rfl ?_) | refine c_condP rfl (fun hc => ?_) (fun hc => ?_))
    all_goals try omega
    · simp only [List.length_cons, List.length_nil]; omega
    · simp only [kSizes, List.length_cons, List.length_nil]; omega
    · have : ByteArray.size ⟨#[120]⟩ = 1 := rfl
      omega
    · rw [if_pos hc] at hk
      have e1 : (s' ++ xS).size = s'.size + 1 := by rw [ByteArray.size_append]; rfl
      exact q_loop (n' := f) (by omega) (ghost_keep2 [0, 2, 3] [.par 0] rfl rfl) ⟨f, s' ++ xS, d3, rfl, hk, by omega, by omega, hl, rfl, rfl⟩
    · rw [if_neg hc] at hk
      rw [← hk]
      exact q_done (q_ret (resT_oneE rfl rfl rfl) (stHas_spec ⟨rfl, trivial⟩))
  · rw [if_neg hc]
    exact q_done (q_ret (resT_oneE rfl rfl rfl) (stHas_spec ⟨rfl, trivial⟩))
end Go.AL

/- What the kit's Node answers: all but lists and maps with items. -/
set_option linter.unusedVariables false
namespace Go.AL
open Go Go.Proofs Go.RowKit

theorem kNums_get (i : Nat) : 0 ≤ kNums.getD i 0 ∧ kNums.getD i 0 ≤ 9223372036854775807 := by
  match i with
  | 0 | 1 | 2 | 3 | 4 | 5 | 6 | 7 | 8 | 9 | 10 | 11 => simp [kNums]
  | j + 12 => simp [kNums]
set_option maxHeartbeats 8000000 in
theorem kTree_spec (n : Int) (hn : 0 ≤ n ∧ n ≤ 1000) (rec : Option (Dc → Nd × Dc)) (hnone : rec = none → n < 2)
    (d : Dc) (hd : d.l.length ≤ 1000) (hsome : ∀ f, rec = some f → ∀ k d1, d.next 6 = (k, d1) → k = 4 ∨ k = 5 → Spec Tryd.prog 11 [.ref (.par 0) 0 0 0, .t (.int .i64 n)] [(.par 0, d.row)] (.t (kSeq k f d1).1.toT) [(.par 0, (kSeq k f d1).2.row)])
    : Spec Tryd.prog 11 [.ref (.par 0) 0 0 0, .t (.int .i64 n)] [(.par 0, d.row)] (.t (kTree rec d).1.toT) [(.par 0, (kTree rec d).2.row)] := by
  have h6 := Next_spec d 6 (by omega) hd
  have l6 := d.next_lt 6 (by omega)
  have e6 : (d.next 6).2.l = d.l := d.next_l _
  unfold kTree
  simp only
  generalize d.next 6 = q at *
  obtain ⟨k, d1⟩ := q
  simp only at *
  have hd1 : d1.l.length ≤ 1000 := by rw [e6]; exact hd
  rcases (show k = 0 ∨ k = 1 ∨ k = 2 ∨ k = 3 ∨ (k = 4 ∨ k = 5) by omega) with rfl | rfl | rfl | rfl | hk
  · clear hsome
    rw [if_neg (by decide), if_neg (by decide), if_neg (by decide), if_neg (by decide), zero_toT]
    refine spec_introG (env0 := [(0, _), (1, _)]) (st0 := [(_, some _)]) Tryd.func11 rfl rfl rfl rfl ?_
    repeat' (first | (with_reducible refine codeT_seq ?_) | (with_reducible refine codeT_block ?_) | (with_reducible refine codeT_skip ?_) | (with_reducible refine codeT_ret ?_) | (with_reducible refine codeT_regionL ?_) | (with_reducible refine lx_nil ?_) | (with_reducible refine q_then ?_) | (with_reducible refine q_block ?_) | refine c_condF rfl ?_ | ((with_reducible refine g_move ?_); first | refine lx_move (r := (.t _)) rfl rfl rfl rfl rfl ?_ | refine lx_move (r := (.ref _ _ _ _)) rfl rfl rfl rfl rfl ?_) | ((with_reducible refine g_binOp ?_); first | refine lx_arith rfl rfl rfl rfl rfl rfl rfl ?_) | ((with_reducible refine g_assign ?_); first | refine lx_assign (r := (.t _)) rfl rfl rfl rfl rfl ?_) | ((with_reducible refine g_alloc ?_); first | refine lx_alloc rfl rfl rfl rfl rfl rfl rfl ?_) | ((with_reducible refine g_store ?_); first | refine lx_store_var (r := (.t (.agg _))) rfl rfl rfl rfl rfl rfl rfl rfl rfl rfl ?_) | ((with_reducible refine g_build ?_); first | refine lx_build (r := (.t (.agg _))) rfl rfl rfl rfl rfl rfl rfl ?_) | ((with_reducible refine g_call ?_); first | refine lx_call (r' := .t (.int .i64 0)) [] rfl rfl h6 (ArgsLE.refl _) rfl ⟨rfl, trivial⟩ rfl rfl rfl rfl rfl rfl rfl rfl rfl rfl ?_))
    refine q_done (q_ret ?_ (stHas_spec ⟨rfl, trivial⟩)); refine resT_cell rfl rfl rfl inferInstance rfl inferInstance rfl ?_; exact TLe.av (by repeat first | exact TLe.refl _ | exact TLe.slq _ _ | exact TLe.nil _ | exact TLe.esl _ | refine TLe.agg ?_ | refine TLs.cons ?_ ?_ | exact TLs.nil)
  · clear hsome
    rw [if_pos rfl]
    have h2 := Next_spec d1 2 (by omega) hd1
    generalize d1.next 2 = q2 at *
    obtain ⟨v2, d2⟩ := q2
    simp only at *
    rw [Nd.toT_eq]
    refine spec_introG (env0 := [(0, _), (1, _)]) (st0 := [(_, some _)]) Tryd.func11 rfl rfl rfl rfl ?_
    repeat' (first | (with_reducible refine codeT_seq ?_) | (with_reducible refine codeT_block ?_) | (with_reducible refine codeT_ret ?_) | (with_reducible refine codeT_regionL ?_) | (with_reducible refine lx_nil ?_) | (with_reducible refine q_then ?_) | (with_reducible refine q_then_ret ?_) | (with_reducible refine q_block_ret ?_) | refine c_condT rfl ?_ | ((with_reducible refine g_move ?_); first | refine lx_move (r := (.t _)) rfl rfl rfl rfl rfl ?_ | refine lx_move (r := (.ref _ _ _ _)) rfl rfl rfl rfl rfl ?_) | ((with_reducible refine g_binOp ?_); first | refine lx_arith rfl rfl rfl rfl rfl rfl rfl ?_) | ((with_reducible refine g_assign ?_); first | refine lx_assign (r := (.t _)) rfl rfl rfl rfl rfl ?_) | ((with_reducible refine g_alloc ?_); first | refine lx_alloc rfl rfl rfl rfl rfl rfl rfl ?_) | ((with_reducible refine g_store ?_); first | refine lx_store_var (r := (.t (.agg _))) rfl rfl rfl rfl rfl rfl rfl rfl rfl rfl ?_) | ((with_reducible refine g_build ?_); first | refine lx_build (r := (.t (.agg _))) rfl rfl rfl rfl rfl rfl rfl ?_) | ((with_reducible refine g_call ?_); first | refine lx_call (r' := .t (.int .i64 1)) [] rfl rfl h6 (ArgsLE.refl _) rfl ⟨rfl, trivial⟩ rfl rfl rfl rfl rfl rfl rfl rfl rfl rfl ?_ | refine lx_call (r' := .t (.int .i64 v2)) [] rfl rfl h2 (ArgsLE.refl _) rfl ⟨rfl, trivial⟩ rfl rfl rfl rfl rfl rfl rfl rfl rfl rfl ?_))
    refine q_done (q_ret ?_ (stHas_spec ⟨rfl, trivial⟩)); refine resT_cell rfl rfl rfl inferInstance rfl inferInstance rfl ?_; exact TLe.av (by repeat first | exact TLe.refl _ | exact TLe.slq _ _ | exact TLe.nil _ | exact TLe.esl _ | refine TLe.agg ?_ | refine TLs.cons ?_ ?_ | exact TLs.nil)
  · clear hsome
    rw [if_neg (by decide), if_pos rfl]
    have h12 := Next_spec d1 12 (by omega) hd1
    have l12 := d1.next_lt 12 (by omega)
    have e12 : (d1.next 12).2.l = d1.l := d1.next_l _
    generalize d1.next 12 = q12 at *
    obtain ⟨v12, d12⟩ := q12
    simp only at *
    have h122 := Next_spec d12 2 (by omega) (by rw [e12]; exact hd1)
    generalize d12.next 2 = q122 at *
    obtain ⟨v122, d122⟩ := q122
    have hz := kNums_get v12.toNat
    rw [show kNums.getD v12.toNat 0 = kNums.getD v12.toNat default from rfl] at *
    simp only at *
    rw [Nd.toT_eq]
    refine spec_introG (env0 := [(0, _), (1, _)]) (st0 := [(_, some _)]) Tryd.func11 rfl rfl rfl rfl ?_
    repeat' (first | (with_reducible refine codeT_seq ?_) | (with_reducible refine codeT_block ?_) | (with_reducible refine codeT_skip ?_) | (with_reducible refine codeT_ret ?_) | (with_reducible refine codeT_regionL ?_) | (with_reducible refine lx_nil ?_) | (with_reducible refine q_then ?_) | (with_reducible refine q_then_ret ?_) | (with_reducible refine q_block_ret ?_) | refine c_condT rfl ?_ | refine c_condF rfl ?_ | refine lx_load_elsM (f := T.int .i64) (l := kNums) rfl rfl rfl rfl rfl rfl rfl rfl ?_ ?_ | ((with_reducible refine g_move ?_); first | refine lx_move (r := (.t _)) rfl rfl rfl rfl rfl ?_ | refine lx_move (r := (.ref _ _ _ _)) rfl rfl rfl rfl rfl ?_) | ((with_reducible refine g_binOp ?_); first | refine lx_arith rfl rfl rfl rfl rfl rfl rfl ?_) | ((with_reducible refine g_assign ?_); first | refine lx_assign (r := (.t _)) rfl rfl rfl rfl rfl ?_) | ((with_reducible refine g_alloc ?_); first | refine lx_alloc rfl rfl rfl rfl rfl rfl rfl ?_) | ((with_reducible refine g_store ?_); first | refine lx_store_var (r := (.t (.agg _))) rfl rfl rfl rfl rfl rfl rfl rfl rfl rfl ?_) | ((with_reducible refine g_indexAddr ?_); first | refine lx_indexAddr_row rfl rfl rfl rfl rfl rfl rfl ?_ ?_ ?_) | ((with_reducible refine g_buildSlice ?_); first | refine lx_buildSlice rfl rfl rfl rfl rfl rfl rfl ?_) | ((with_reducible refine g_build ?_); first | refine lx_build (r := (.t (.agg _))) rfl rfl rfl rfl rfl rfl rfl ?_) | ((with_reducible refine g_call ?_); first | refine lx_call (r' := .t (.int .i64 2)) [] rfl rfl h6 (ArgsLE.refl _) rfl ⟨rfl, trivial⟩ rfl rfl rfl rfl rfl rfl rfl rfl rfl rfl ?_ | refine lx_call (r' := .t (.int .i64 v12)) [] rfl rfl h12 (ArgsLE.refl _) rfl ⟨rfl, trivial⟩ rfl rfl rfl rfl rfl rfl rfl rfl rfl rfl ?_ | refine lx_call (r' := .t (.int .i64 v122)) [] rfl rfl h122 (ArgsLE.refl _) rfl ⟨rfl, trivial⟩ rfl rfl rfl rfl rfl rfl rfl rfl rfl rfl ?_) | refine c_condP rfl (fun hc => ?_) (fun hc => ?_))
    all_goals try omega
    · simp only [List.length_cons, List.length_nil]; omega
    · simp only [kNums, List.length_cons, List.length_nil]; omega
    · rw [if_pos hc]
      have e : IntKind.i64.wrap (-1 - kNums.getD v12.toNat default) = -1 - kNums.getD v12.toNat default := wrap64 (by omega) (by omega)
      rw [e]
      refine q_done (q_ret ?_ (stHas_spec ⟨rfl, trivial⟩)); refine resT_cell rfl rfl rfl inferInstance rfl inferInstance rfl ?_; exact TLe.av (by repeat first | exact TLe.refl _ | exact TLe.slq _ _ | exact TLe.nil _ | exact TLe.esl _ | refine TLe.agg ?_ | refine TLs.cons ?_ ?_ | exact TLs.nil)
    · rw [if_neg hc]
      refine q_done (q_ret ?_ (stHas_spec ⟨rfl, trivial⟩)); refine resT_cell rfl rfl rfl inferInstance rfl inferInstance rfl ?_; exact TLe.av (by repeat first | exact TLe.refl _ | exact TLe.slq _ _ | exact TLe.nil _ | exact TLe.esl _ | refine TLe.agg ?_ | refine TLs.cons ?_ ?_ | exact TLs.nil)
  · clear hsome
    rw [if_neg (by decide), if_neg (by decide), if_pos rfl]
    have hT := kText_spec d1 hd1
    generalize kText d1 = qT at *
    obtain ⟨sT, dT⟩ := qT
    simp only at *
    rw [Nd.toT_eq]
    refine spec_introG (env0 := [(0, _), (1, _)]) (st0 := [(_, some _)]) Tryd.func11 rfl rfl rfl rfl ?_
    repeat' (first | (with_reducible refine codeT_seq ?_) | (with_reducible refine codeT_block ?_) | (with_reducible refine codeT_ret ?_) | (with_reducible refine codeT_regionL ?_) | (with_reducible refine lx_nil ?_) | (with_reducible refine q_then ?_) | (with_reducible refine q_then_ret ?_) | (with_reducible refine q_block_ret ?_) | refine c_condT rfl ?_ | refine c_condF rfl ?_ | ((with_reducible refine g_move ?_); first | refine lx_move (r := (.t _)) rfl rfl rfl rfl rfl ?_ | refine lx_move (r := (.ref _ _ _ _)) rfl rfl rfl rfl rfl ?_) | ((with_reducible refine g_binOp ?_); first | refine lx_arith rfl rfl rfl rfl rfl rfl rfl ?_) | ((with_reducible refine g_assign ?_); first | refine lx_assign (r := (.t _)) rfl rfl rfl rfl rfl ?_) | ((with_reducible refine g_alloc ?_); first | refine lx_alloc rfl rfl rfl rfl rfl rfl rfl ?_) | ((with_reducible refine g_store ?_); first | refine lx_store_var (r := (.t (.agg _))) rfl rfl rfl rfl rfl rfl rfl rfl rfl rfl ?_) | ((with_reducible refine g_build ?_); first | refine lx_build (r := (.t (.agg _))) rfl rfl rfl rfl rfl rfl rfl ?_) | ((with_reducible refine g_call ?_); first | refine lx_call (r' := .t (.int .i64 3)) [] rfl rfl h6 (ArgsLE.refl _) rfl ⟨rfl, trivial⟩ rfl rfl rfl rfl rfl rfl rfl rfl rfl rfl ?_ | refine lx_call (r' := .t (.str sT)) [] rfl rfl hT (ArgsLE.refl _) rfl ⟨rfl, trivial⟩ rfl rfl rfl rfl rfl rfl rfl rfl rfl rfl ?_))
    refine q_done (q_ret ?_ (stHas_spec ⟨rfl, trivial⟩)); refine resT_cell rfl rfl rfl inferInstance rfl inferInstance rfl ?_; exact TLe.av (by repeat first | exact TLe.refl _ | exact TLe.slq _ _ | exact TLe.nil _ | exact TLe.esl _ | refine TLe.agg ?_ | refine TLs.cons ?_ ?_ | exact TLs.nil)
  · rw [if_neg (by omega), if_neg (by omega), if_neg (by omega), if_pos hk]
    cases rec with
    | some f => exact hsome f rfl k d1 rfl hk
    | none =>
      clear hsome
      have hn2 := hnone rfl
      simp only
      rcases hk with rfl | rfl
      · rw [Nd.toT_eq]
        refine spec_introG (env0 := [(0, _), (1, _)]) (st0 := [(_, some _)]) Tryd.func11 rfl rfl rfl rfl ?_
        repeat' (first | (with_reducible refine codeT_seq ?_) | (with_reducible refine codeT_block ?_) | (with_reducible refine codeT_skip ?_) | (with_reducible refine codeT_ret ?_) | (with_reducible refine codeT_regionL ?_) | (with_reducible refine lx_nil ?_) | (with_reducible refine q_then ?_) | (with_reducible refine q_then_ret ?_) | (with_reducible refine q_block_ret ?_) | refine c_condT rfl ?_ | refine c_condF rfl ?_ | ((with_reducible refine g_move ?_); first | refine lx_move (r := (.t _)) rfl rfl rfl rfl rfl ?_ | refine lx_move (r := (.ref _ _ _ _)) rfl rfl rfl rfl rfl ?_) | ((with_reducible refine g_load ?_); first | refine lx_load_varA (r := (.t (.agg _))) rfl rfl rfl rfl rfl rfl rfl rfl rfl ?_) | ((with_reducible refine g_binOp ?_); first | refine lx_arith rfl rfl rfl rfl rfl rfl rfl ?_) | ((with_reducible refine g_assign ?_); first | refine lx_assign (r := (.t _)) rfl rfl rfl rfl rfl ?_) | ((with_reducible refine g_alloc ?_); first | refine lx_alloc rfl rfl rfl rfl rfl rfl rfl ?_) | ((with_reducible refine g_store ?_); first | refine lx_store_var (r := (.t (.agg _))) rfl rfl rfl rfl rfl rfl rfl rfl rfl rfl ?_) | ((with_reducible refine g_build ?_); first | refine lx_build (r := (.t (.agg _))) rfl rfl rfl rfl rfl rfl rfl ?_) | ((with_reducible refine g_call ?_); first | refine lx_call (r' := .t (.int .i64 4)) [] rfl rfl h6 (ArgsLE.refl _) rfl ⟨rfl, trivial⟩ rfl rfl rfl rfl rfl rfl rfl rfl rfl rfl ?_ | exact absurd hn2 ‹_›) | refine c_condP rfl (fun hc => ?_) (fun hc => ?_))
        refine q_done (q_ret ?_ (stHas_spec ⟨rfl, trivial⟩)); refine resT_cell rfl rfl rfl inferInstance rfl inferInstance rfl ?_; exact TLe.av (by repeat first | exact TLe.refl _ | exact TLe.slq _ _ | exact TLe.nil _ | exact TLe.esl _ | refine TLe.agg ?_ | refine TLs.cons ?_ ?_ | exact TLs.nil)
      · rw [Nd.toT_eq]
        refine spec_introG (env0 := [(0, _), (1, _)]) (st0 := [(_, some _)]) Tryd.func11 rfl rfl rfl rfl ?_
        repeat' (first | (with_reducible refine codeT_seq ?_) | (with_reducible refine codeT_block ?_) | (with_reducible refine codeT_skip ?_) | (with_reducible refine codeT_ret ?_) | (with_reducible refine codeT_regionL ?_) | (with_reducible refine lx_nil ?_) | (with_reducible refine q_then ?_) | (with_reducible refine q_then_ret ?_) | (with_reducible refine q_block_ret ?_) | refine c_condT rfl ?_ | refine c_condF rfl ?_ | ((with_reducible refine g_move ?_); first | refine lx_move (r := (.t _)) rfl rfl rfl rfl rfl ?_ | refine lx_move (r := (.ref _ _ _ _)) rfl rfl rfl rfl rfl ?_) | ((with_reducible refine g_load ?_); first | refine lx_load_varA (r := (.t (.agg _))) rfl rfl rfl rfl rfl rfl rfl rfl rfl ?_) | ((with_reducible refine g_binOp ?_); first | refine lx_arith rfl rfl rfl rfl rfl rfl rfl ?_) | ((with_reducible refine g_assign ?_); first | refine lx_assign (r := (.t _)) rfl rfl rfl rfl rfl ?_) | ((with_reducible refine g_alloc ?_); first | refine lx_alloc rfl rfl rfl rfl rfl rfl rfl ?_) | ((with_reducible refine g_store ?_); first | refine lx_store_var (r := (.t (.agg _))) rfl rfl rfl rfl rfl rfl rfl rfl rfl rfl ?_) | ((with_reducible refine g_build ?_); first | refine lx_build (r := (.t (.agg _))) rfl rfl rfl rfl rfl rfl rfl ?_) | ((with_reducible refine g_call ?_); first | refine lx_call (r' := .t (.int .i64 5)) [] rfl rfl h6 (ArgsLE.refl _) rfl ⟨rfl, trivial⟩ rfl rfl rfl rfl rfl rfl rfl rfl rfl rfl ?_ | exact absurd hn2 ‹_›) | refine c_condP rfl (fun hc => ?_) (fun hc => ?_))
        refine q_done (q_ret ?_ (stHas_spec ⟨rfl, trivial⟩)); refine resT_cell rfl rfl rfl inferInstance rfl inferInstance rfl ?_; exact TLe.av (by repeat first | exact TLe.refl _ | exact TLe.slq _ _ | exact TLe.nil _ | exact TLe.esl _ | refine TLe.agg ?_ | refine TLs.cons ?_ ?_ | exact TLs.nil)
end Go.AL

/- What the kit's Node answers: lists and maps with items. -/
set_option linter.unusedVariables false
namespace Go.AL
open Go Go.Proofs Go.RowKit

theorem kTwo_fin : ∀ j : Fin 18, strT [T.int IntKind.u8 (IntKind.u8.wrap (48 + IntKind.u8.wrap (((j.val : Nat) : Int).tmod 10))), T.int IntKind.u8 (IntKind.u8.wrap (48 + IntKind.u8.wrap (IntKind.i64.wrap (((j.val : Nat) : Int).tdiv 10))))] = kTwo j.val := by decide +kernel
theorem kTwo_str (j : Nat) (h : j < 18) : strT [T.int IntKind.u8 (IntKind.u8.wrap (48 + IntKind.u8.wrap ((j : Int).tmod 10))), T.int IntKind.u8 (IntKind.u8.wrap (48 + IntKind.u8.wrap (IntKind.i64.wrap ((j : Int).tdiv 10))))] = kTwo j := kTwo_fin ⟨j, h⟩
set_option maxHeartbeats 16000000 in
theorem kSeq_spec (n : Int) (hn : 2 ≤ n ∧ n ≤ 1000) (f : Dc → Nd × Dc) (hl : ∀ d, (f d).2.l = d.l)
    (hf : ∀ d : Dc, d.l.length ≤ 1000 → Spec Tryd.prog 11 [.ref (.par 0) 0 0 0, .t (.int .i64 (n - 1))] [(.par 0, d.row)] (.t (f d).1.toT) [(.par 0, (f d).2.row)])
    (d : Dc) (hd : d.l.length ≤ 1000) (k : Int) (hk : k = 4 ∨ k = 5) (d1 : Dc) (hq : d.next 6 = (k, d1)) : Spec Tryd.prog 11 [.ref (.par 0) 0 0 0, .t (.int .i64 n)] [(.par 0, d.row)] (.t (kSeq k f d1).1.toT) [(.par 0, (kSeq k f d1).2.row)] := by
  have h6 := Next_spec d 6 (by omega) hd
  have e6 : (d.next 6).2.l = d.l := d.next_l _
  rw [hq] at h6 e6
  simp only at h6 e6
  have h4 := Next_spec d1 4 (by omega) (by rw [e6]; exact hd)
  have l4 := d1.next_lt 4 (by omega)
  have e4 : (d1.next 4).2.l = d.l := by rw [Dc.next_l, e6]
  generalize hres : kSeq k f d1 = res
  unfold kSeq at hres
  simp only at hres
  generalize d1.next 4 = q4 at *
  obtain ⟨v4, d4⟩ := q4
  simp only at *
  refine spec_introG (env0 := [(0, _), (1, _)]) (st0 := [(_, some _)]) Tryd.func11 rfl rfl rfl rfl ?_
  repeat' (first | (with_reducible refine codeT_seq ?_) | (with_reducible refine codeT_block ?_) | (with_reducible refine codeT_skip ?_) | (with_reducible refine codeT_ret ?_) | (with_reducible refine codeT_regionL ?_) | (with_reducible refine lx_nil ?_) | (with_reducible refine q_then ?_) | (with_reducible refine q_then_ret ?_) | (with_reducible refine q_block ?_) | (with_reducible refine q_block_ret ?_) | ((with_reducible refine g_move ?_); first | refine lx_move (r := (.t _)) rfl rfl rfl rfl rfl ?_ | refine lx_move (r := (.ref _ _ _ _)) rfl rfl rfl rfl rfl ?_) | ((with_reducible refine g_load ?_); first | refine lx_load_varA (r := (.t (.agg _))) rfl rfl rfl rfl rfl rfl rfl rfl rfl ?_) | ((with_reducible refine g_binOp ?_); first | refine lx_arith rfl rfl rfl rfl rfl rfl rfl ?_) | ((with_reducible refine g_assign ?_); first | refine lx_assign (r := (.t _)) rfl rfl rfl rfl rfl ?_) | ((with_reducible refine g_alloc ?_); first | refine lx_alloc rfl rfl rfl rfl rfl rfl rfl ?_) | ((with_reducible refine g_store ?_); first | refine lx_store_var (r := (.t (.agg _))) rfl rfl rfl rfl rfl rfl rfl rfl rfl rfl ?_) | ((with_reducible refine g_buildSlice ?_); first | refine lx_buildSlice rfl rfl rfl rfl rfl rfl rfl ?_) | ((with_reducible refine g_build ?_); first | refine lx_build (r := (.t (.agg _))) rfl rfl rfl rfl rfl rfl rfl ?_) | ((with_reducible refine g_call ?_); first | refine lx_call (r' := .t (.int .i64 k)) [] rfl rfl h6 (ArgsLE.refl _) rfl ⟨rfl, trivial⟩ rfl rfl rfl rfl rfl rfl rfl rfl rfl rfl ?_ | refine lx_call (r' := .t (.int .i64 v4)) [] rfl rfl h4 (ArgsLE.refl _) rfl ⟨rfl, trivial⟩ rfl rfl rfl rfl rfl rfl rfl rfl rfl rfl ?_ | exact absurd hn.1 (by omega)) | refine c_condP rfl (fun hc => ?_) (fun hc => ?_))
  all_goals try (exfalso; omega)
  all_goals clear h6 h4 hq
  · refine codeT_ghost (ghost_cellNilL (r := .loc 7) 5 (.loc 900) 26 6 rfl rfl rfl rfl rfl) ?_
    refine codeT_ghost (ghost_keep2 [0, 1, 4, 5, 7, 8] [.par 0, .loc 4, .loc 7, .loc 900] rfl rfl) ?_
    refine codeT_loop (fun m env st => ∃ (c : Nat) (acc : List Nd) (d' : Dc), m = c ∧ c ≤ 3 ∧ acc.length + c ≤ 3 ∧ d'.l = d.l ∧ (acc ++ (kItems f c d').1, (kItems f c d').2) = kItems f v4.toNat d4 ∧
        env = EnvL.get [(0, .ref (.par 0) 0 0 0), (1, .t (.int .i64 n)), (4, .ref (.loc 4) 0 0 0), (5, .t (.int .i64 k)), (7, .ref (.loc 7) 0 0 0), (8, .t (.int .i64 (c : Int)))] ∧
        st = StO.get [(.par 0, some d'.row), (.loc 4, some (.var 26 [.t (.int .i64 0), .t (.bool false), .t (.int .i64 0), .t (.str ⟨#[]⟩), .t .nilsl, .t .nilsl])), (.loc 7, some (.var 26 [.t (.int .i64 k), .t (.bool false), .t (.int .i64 0), .t (.str ⟨#[]⟩), .t .nilsl, .row (.loc 900)])), (.loc 900, some (.slt 26 6 (acc.map Nd.toT)))])
      ?_ (n := v4.toNat) ⟨v4.toNat, [], d4, rfl, by omega, by simp; omega, e4, by simp, by rw [show ((v4.toNat : Nat) : Int) = v4 by omega]; rfl, rfl⟩
    rintro m env st ⟨c, acc, d', rfl, hc3, ha, e', hi, rfl, rfl⟩
    cases m with
    | zero =>
      simp only [kItems, List.append_nil] at hi
      have h20 := Next_spec d' 20 (by omega) (by rw [e']; exact hd)
      have e20 : (d'.next 20).2.l = d.l := by rw [Dc.next_l, e']
      rw [← hi] at hres
      simp only at hres
      generalize d'.next 20 = q20 at *
      obtain ⟨z, d2⟩ := q20
      simp only at *
      repeat' (first | (with_reducible refine codeT_seq ?_) | (with_reducible refine codeT_block ?_) | (with_reducible refine codeT_skip ?_) | (with_reducible refine codeT_exit ?_) | (with_reducible refine codeT_regionL ?_) | (with_reducible refine lx_nil ?_) | (with_reducible refine q_then ?_) | (with_reducible refine q_then_exit ?_) | ((with_reducible refine q_block_same ?_ ?_); · rfl) | (with_reducible refine q_loop_exit ?_) | refine c_condF rfl ?_ | ((with_reducible refine g_move ?_); first | refine lx_move (r := (.t _)) rfl rfl rfl rfl rfl ?_ | refine lx_move (r := (.ref _ _ _ _)) rfl rfl rfl rfl rfl ?_) | ((with_reducible refine g_load ?_); first | refine lx_load_var rfl rfl rfl rfl rfl rfl rfl rfl ?_) | ((with_reducible refine g_fieldAddr ?_); first | refine lx_fieldAddr rfl rfl rfl rfl rfl rfl rfl ?_) | ((with_reducible refine g_binOp ?_); first | refine lx_arith rfl rfl rfl rfl rfl rfl rfl ?_) | ((with_reducible refine g_len ?_); first | refine lx_len_rowmap rfl rfl rfl rfl rfl rfl ?_) | ((with_reducible refine g_call ?_); first | refine lx_call (r' := .t (.int .i64 z)) [] rfl rfl h20 (ArgsLE.refl _) rfl ⟨rfl, trivial⟩ rfl rfl rfl rfl rfl rfl rfl rfl rfl rfl ?_) | refine c_condP rfl (fun hc => ?_) (fun hc => ?_))
      · rw [if_pos hc] at hres
        have hac : acc.length ≤ 17 := by omega
        refine codeT_ghost (ghost_keep2 [0, 4, 5, 7] [.par 0, .loc 4, .loc 7, .loc 900] rfl rfl) ?_
        clear h20
        refine codeT_loop (fun m env st => ∃ (fu : Nat) (ac : List Nd) (dd : Dc), m = fu ∧ 20 ≤ ac.length + fu ∧ ac.length ≤ 17 ∧ dd.l = d.l ∧ kFill fu ac dd = kFill 20 acc d2 ∧
            env = EnvL.get [(0, .ref (.par 0) 0 0 0), (4, .ref (.loc 4) 0 0 0), (5, .t (.int .i64 k)), (7, .ref (.loc 7) 0 0 0)] ∧
            st = StO.get [(.par 0, some dd.row), (.loc 4, some (.var 26 [.t (.int .i64 0), .t (.bool false), .t (.int .i64 0), .t (.str ⟨#[]⟩), .t .nilsl, .t .nilsl])), (.loc 7, some (.var 26 [.t (.int .i64 k), .t (.bool false), .t (.int .i64 0), .t (.str ⟨#[]⟩), .t .nilsl, .row (.loc 900)])), (.loc 900, some (.slt 26 6 (ac.map Nd.toT)))])
          ?_ (n := 20) ⟨20, acc, d2, rfl, by omega, hac, e20, rfl, rfl, rfl⟩
        rintro m env st ⟨fu, ac, dd, rfl, ha2, ha3, edd, hfi, rfl, rfl⟩
        obtain ⟨fu, rfl⟩ : ∃ x, m = x + 1 := ⟨m - 1, by omega⟩
        have h3 := Next_spec dd 3 (by omega) (by rw [edd]; exact hd)
        have l3 := dd.next_lt 3 (by omega)
        have e3 : (dd.next 3).2.l = d.l := by rw [Dc.next_l, edd]
        rw [kFill] at hfi
        generalize dd.next 3 = q3 at *
        obtain ⟨v, d3⟩ := q3
        simp only at *
        have e15 : IntKind.i64.wrap (15 + v) = 15 + v := wrap64 (by omega) (by omega)
        rw [← e15] at hfi
        repeat' (first | (with_reducible refine codeT_seq ?_) | (with_reducible refine codeT_block ?_) | (with_reducible refine codeT_skip ?_) | (with_reducible refine codeT_exit ?_) | (with_reducible refine codeT_regionL ?_) | ((with_reducible refine codeT_region_drawL ?_ ?_); · rfl) | (with_reducible refine lx_nil ?_) | (with_reducible refine q_then ?_) | (with_reducible refine q_then_exit ?_) | (with_reducible refine q_block ?_) | ((with_reducible refine q_block_same ?_ ?_); · rfl) | (with_reducible refine q_loop_exit ?_) | ((with_reducible refine q_region_draw ?_ ?_); · rfl) | ((with_reducible refine g_move ?_); first | refine lx_move (r := (.t _)) rfl rfl rfl rfl rfl ?_ | refine lx_move (r := (.ref _ _ _ _)) rfl rfl rfl rfl rfl ?_) | ((with_reducible refine g_load ?_); first | refine lx_load_var rfl rfl rfl rfl rfl rfl rfl rfl ?_) | ((with_reducible refine g_fieldAddr ?_); first | refine lx_fieldAddr rfl rfl rfl rfl rfl rfl rfl ?_) | ((with_reducible refine g_binOp ?_); first | refine lx_arith rfl rfl rfl rfl rfl rfl rfl ?_) | ((with_reducible refine g_store ?_); first | refine lx_store_var (r := (.row _)) rfl rfl rfl rfl rfl rfl rfl rfl rfl rfl ?_) | ((with_reducible refine g_buildSlice ?_); first | refine lx_buildSlice rfl rfl rfl rfl rfl rfl rfl ?_) | ((with_reducible refine g_build ?_); first | refine lx_build (r := (.t (.agg _))) rfl rfl rfl rfl rfl rfl rfl ?_) | ((with_reducible refine g_len ?_); first | refine lx_len_rowmap rfl rfl rfl rfl rfl rfl ?_) | ((with_reducible refine g_append ?_); first | refine lx_append_row rfl rfl rfl rfl rfl rfl rfl rfl rfl rfl ?_ ?_ ?_) | ((with_reducible refine g_call ?_); first | refine lx_call (r' := .t (.int .i64 v)) [] rfl rfl h3 (ArgsLE.refl _) rfl ⟨rfl, trivial⟩ rfl rfl rfl rfl rfl rfl rfl rfl rfl rfl ?_) | refine c_condP rfl (fun hc => ?_) (fun hc => ?_))
        · simp only [List.length_map, List.length_cons, List.length_nil]; omega
        · simp only [List.length_map, List.length_cons, List.length_nil]; omega
        · have hcc : (ac.length : Int) < IntKind.i64.wrap (15 + v) := by simpa using ‹_ < IntKind.i64.wrap (15 + v)›
          rw [if_pos hcc] at hfi
          rw [e15] at hcc
          refine q_loop (n' := fu) (by omega) ((ghost_rowL (id := .loc 78) (r' := .slt 26 6 ((ac ++ [Nd.zero]).map Nd.toT)) rfl (RowLE.slt ?_) rfl).trans ((ghost_keep2 [0, 4, 5, 7] [.par 0, .loc 4, .loc 7, .loc 78] rfl rfl).trans (ghost_renL2 (.loc 78) (.loc 900) rfl rfl rfl rfl))) ⟨fu, ac ++ [Nd.zero], d3, rfl, by simp; omega, by simp; omega, e3, hfi, rfl, rfl⟩
          rw [List.map_append, List.map_singleton, zero_toT]
          exact TLs.append (TLs.refl _) (by repeat first | exact TLe.refl _ | exact TLe.slq _ _ | exact TLe.nil _ | exact TLe.esl _ | refine TLe.agg ?_ | refine TLs.cons ?_ ?_ | exact TLs.nil)
        · have hcc : ¬ (ac.length : Int) < IntKind.i64.wrap (15 + v) := by simpa using ‹¬ _ < IntKind.i64.wrap (15 + v)›
          rw [if_neg hcc] at hfi
          rw [← hfi] at hres
          simp only at hres
          have hg : ∃ g : List Nd × Dc, g = (ac, d3) ∧ g.1.length ≤ 17 ∧ g.2.l = d.l := ⟨_, rfl, by simp only; omega, by simp only; assumption⟩
          obtain ⟨g, eg, hg1, hg2⟩ := hg
          refine codeT_ghost (ghost_cellNilL (r := .loc 7) 4 (.loc 901) 9 1 rfl rfl rfl rfl rfl) ?_
          refine codeT_ghost (ghost_keep2 [0, 4, 5, 7, 82, 83] [.par 0, .loc 4, .loc 7, .loc 900, .loc 901] rfl rfl) ?_
          have hres3 : (Nd.mk k false 0 eS (if k = 5 then kNames ac.length 0 d3 else ([], d3)).1 ac, (if k = 5 then kNames ac.length 0 d3 else ([], d3)).2) = res := by rw [← hres]
          clear h3
          refine codeT_loop (fun m env st => ∃ (j : Nat) (ns : List ByteArray) (dd : Dc), j ≤ ac.length ∧ m = ac.length - j ∧ ns.length ≤ j ∧ dd.l = d.l ∧ (k = 5 → (ns ++ (kNames (ac.length - j) j dd).1, (kNames (ac.length - j) j dd).2) = kNames ac.length 0 d3) ∧ (k = 4 → ns = [] ∧ dd = d3) ∧
              env = EnvL.get [(0, .ref (.par 0) 0 0 0), (4, .ref (.loc 4) 0 0 0), (5, .t (.int .i64 k)), (7, .ref (.loc 7) 0 0 0), (82, .t (.int .i64 ac.length)), (83, .t (.int .i64 (j : Int)))] ∧
              st = StO.get [(.par 0, some dd.row), (.loc 4, some (.var 26 [.t (.int .i64 0), .t (.bool false), .t (.int .i64 0), .t (.str ⟨#[]⟩), .t .nilsl, .t .nilsl])), (.loc 7, some (.var 26 [.t (.int .i64 k), .t (.bool false), .t (.int .i64 0), .t (.str ⟨#[]⟩), .row (.loc 901), .row (.loc 900)])), (.loc 900, some (.slt 26 6 (ac.map Nd.toT))), (.loc 901, some (.slt 9 1 (ns.map .str)))])
            ?_ (n := ac.length) ⟨0, [], d3, by omega, by omega, by simp, by assumption, fun _ => by simp, fun _ => ⟨rfl, rfl⟩, rfl, rfl⟩
          rintro m env st ⟨j, ns, dd, hj, rfl, hns, hdd, h5, h4, rfl, rfl⟩
          by_cases hlt : j < ac.length
          · obtain ⟨c, hcc⟩ : ∃ c, ac.length - j = c + 1 := ⟨ac.length - j - 1, by omega⟩
            have hw := Word_spec dd kWords (by decide) (by decide) (by rw [hdd]; exact hd)
            have ew : (dd.word kWords).2.l = d.l := by rw [Dc.word_l, hdd]
            have hwsz := (kWords_asc _ (dd.word_mem kWords (by simp [kWords]))).2
            rw [hcc] at h5
            simp only [kNames] at h5
            generalize dd.word kWords = qw at *
            obtain ⟨s, d9⟩ := qw
            simp only at *
            repeat' (first | (with_reducible refine codeT_seq ?_) | (with_reducible refine codeT_block ?_) | (with_reducible refine codeT_skip ?_) | (with_reducible refine codeT_ret ?_) | (with_reducible refine codeT_exit ?_) | (with_reducible refine codeT_regionL ?_) | ((with_reducible refine codeT_region_drawL ?_ ?_); · rfl) | (with_reducible refine lx_nil ?_) | (with_reducible refine q_then ?_) | (with_reducible refine q_then_exit ?_) | (with_reducible refine q_then_ret ?_) | (with_reducible refine q_block ?_) | (with_reducible refine q_block_ret ?_) | ((with_reducible refine q_block_same ?_ ?_); · rfl) | (with_reducible refine q_loop_exit ?_) | ((with_reducible refine q_region_draw ?_ ?_); · rfl) | ((with_reducible refine g_move ?_); first | refine lx_move (r := (.t _)) rfl rfl rfl rfl rfl ?_ | refine lx_move (r := (.ref _ _ _ _)) rfl rfl rfl rfl rfl ?_) | ((with_reducible refine g_load ?_); first | refine lx_load_var rfl rfl rfl rfl rfl rfl rfl rfl ?_ | refine lx_load_varA (r := (.agg _)) rfl rfl rfl rfl rfl rfl rfl rfl rfl ?_) | ((with_reducible refine g_fieldAddr ?_); first | refine lx_fieldAddr rfl rfl rfl rfl rfl rfl rfl ?_) | ((with_reducible refine g_binOp ?_); first | refine lx_arith rfl rfl rfl rfl rfl rfl rfl ?_ | refine lx_concat rfl rfl rfl rfl rfl rfl ?_ ?_ | refine lx_quo rfl rfl rfl rfl rfl rfl (by decide) ?_ | refine lx_rem rfl rfl rfl rfl rfl rfl (by decide) ?_) | ((with_reducible refine g_assign ?_); first | refine lx_assign (r := (.t _)) rfl rfl rfl rfl rfl ?_) | ((with_reducible refine g_store ?_); first | refine lx_store_var (r := (.agg _)) rfl rfl rfl rfl rfl rfl rfl rfl rfl rfl ?_ | refine lx_store_var (r := (.row _)) rfl rfl rfl rfl rfl rfl rfl rfl rfl rfl ?_) | ((with_reducible refine g_convert ?_); first | refine lx_conv_int rfl rfl rfl rfl rfl ?_ | refine lx_ofBytes_row rfl rfl rfl rfl rfl rfl ?_ ?_) | ((with_reducible refine g_buildSlice ?_); first | refine lx_buildSlice rfl rfl rfl rfl rfl rfl rfl ?_) | ((with_reducible refine g_append ?_); first | refine lx_append_row rfl rfl rfl rfl rfl rfl rfl rfl rfl rfl ?_ ?_ ?_) | ((with_reducible refine g_call ?_); first | refine lx_call (r' := .t (.str s)) [(.par 1, .loc 91)] rfl rfl hw (ArgsLE.refl _) rfl ⟨rfl, rfl, trivial⟩ rfl rfl rfl rfl rfl rfl rfl rfl rfl rfl ?_) | refine c_condP rfl (fun hc => ?_) (fun hc => ?_))
            all_goals try (exfalso; omega)
            refine q_loop (n' := ac.length - (j + 1)) (by omega) (ghost_keep2 [0, 4, 5, 7, 82, 83] [.par 0, .loc 4, .loc 7, .loc 900, .loc 901] rfl rfl) ⟨j + 1, ns, dd, by omega, rfl, by omega, hdd, fun h => absurd h (by omega), h4, ?_, rfl⟩
            rw [wrap64 (by omega) (by omega)]; rfl
          · have hje : j = ac.length := by omega
            repeat' (first | (with_reducible refine codeT_seq ?_) | (with_reducible refine codeT_block ?_) | (with_reducible refine codeT_skip ?_) | (with_reducible refine codeT_ret ?_) | (with_reducible refine codeT_exit ?_) | (with_reducible refine codeT_regionL ?_) | ((with_reducible refine codeT_region_drawL ?_ ?_); · rfl) | (with_reducible refine lx_nil ?_) | (with_reducible refine q_then ?_) | (with_reducible refine q_then_exit ?_) | (with_reducible refine q_then_ret ?_) | (with_reducible refine q_block ?_) | (with_reducible refine q_block_ret ?_) | ((with_reducible refine q_block_same ?_ ?_); · rfl) | (with_reducible refine q_loop_exit ?_) | ((with_reducible refine g_move ?_); first | refine lx_move (r := (.t _)) rfl rfl rfl rfl rfl ?_ | refine lx_move (r := (.ref _ _ _ _)) rfl rfl rfl rfl rfl ?_) | ((with_reducible refine g_load ?_); first | refine lx_load_var rfl rfl rfl rfl rfl rfl rfl rfl ?_ | refine lx_load_varA (r := (.agg _)) rfl rfl rfl rfl rfl rfl rfl rfl rfl ?_) | ((with_reducible refine g_fieldAddr ?_); first | refine lx_fieldAddr rfl rfl rfl rfl rfl rfl rfl ?_) | ((with_reducible refine g_binOp ?_); first | refine lx_arith rfl rfl rfl rfl rfl rfl rfl ?_) | ((with_reducible refine g_assign ?_); first | refine lx_assign (r := (.t _)) rfl rfl rfl rfl rfl ?_) | ((with_reducible refine g_store ?_); first | refine lx_store_var (r := (.agg _)) rfl rfl rfl rfl rfl rfl rfl rfl rfl rfl ?_) | ((with_reducible refine g_buildSlice ?_); first | refine lx_buildSlice rfl rfl rfl rfl rfl rfl rfl ?_) | refine c_condP rfl (fun hc => ?_) (fun hc => ?_))
            all_goals try (exfalso; omega)
            have er : res = (Nd.mk k false 0 eS ns ac, dd) := by
              rw [← hres3]
              rcases hk with rfl | rfl
              · obtain ⟨h4a, h4b⟩ := h4 rfl
                rw [if_neg (by decide), h4a, h4b]
              · have h5 := h5 rfl
                rw [hje, Nat.sub_self] at h5
                simp only [kNames, List.append_nil] at h5
                rw [if_pos rfl, ← h5]
            rw [er]
            simp only
            rw [Nd.toT_eq]
            refine q_ghost (ghost_keep2 [4] [.par 0, .loc 4, .loc 900, .loc 901] rfl rfl) ?_
            refine q_ghost (ghost_freezeL (id := .loc 900) rfl rfl rfl) ?_; refine q_ghost (ghost_freezeL (id := .loc 901) rfl rfl rfl) ?_
            refine q_done (q_ret ?_ (stHas_spec ⟨rfl, trivial⟩)); refine resT_cell rfl rfl rfl inferInstance rfl inferInstance rfl ?_; exact TLe.av (by repeat first | exact TLe.refl _ | exact TLe.slq _ _ | exact TLe.nil _ | exact TLe.esl _ | refine TLe.agg ?_ | refine TLs.cons ?_ ?_ | exact TLs.nil)
      · rw [if_neg hc] at hres
        simp only at hres
        have hg : ∃ g : List Nd × Dc, g = (acc, d2) ∧ g.1.length ≤ 17 ∧ g.2.l = d.l := ⟨_, rfl, by simp only; omega, by simp only; assumption⟩
        obtain ⟨g, eg, hg1, hg2⟩ := hg
        refine codeT_ghost (ghost_cellNilL (r := .loc 7) 4 (.loc 901) 9 1 rfl rfl rfl rfl rfl) ?_
        refine codeT_ghost (ghost_keep2 [0, 4, 5, 7, 82, 83] [.par 0, .loc 4, .loc 7, .loc 900, .loc 901] rfl rfl) ?_
        have hres3 : (Nd.mk k false 0 eS (if k = 5 then kNames acc.length 0 d2 else ([], d2)).1 acc, (if k = 5 then kNames acc.length 0 d2 else ([], d2)).2) = res := by rw [← hres]
        clear h20
        refine codeT_loop (fun m env st => ∃ (j : Nat) (ns : List ByteArray) (dd : Dc), j ≤ acc.length ∧ m = acc.length - j ∧ ns.length ≤ j ∧ dd.l = d.l ∧ (k = 5 → (ns ++ (kNames (acc.length - j) j dd).1, (kNames (acc.length - j) j dd).2) = kNames acc.length 0 d2) ∧ (k = 4 → ns = [] ∧ dd = d2) ∧
            env = EnvL.get [(0, .ref (.par 0) 0 0 0), (4, .ref (.loc 4) 0 0 0), (5, .t (.int .i64 k)), (7, .ref (.loc 7) 0 0 0), (82, .t (.int .i64 acc.length)), (83, .t (.int .i64 (j : Int)))] ∧
            st = StO.get [(.par 0, some dd.row), (.loc 4, some (.var 26 [.t (.int .i64 0), .t (.bool false), .t (.int .i64 0), .t (.str ⟨#[]⟩), .t .nilsl, .t .nilsl])), (.loc 7, some (.var 26 [.t (.int .i64 k), .t (.bool false), .t (.int .i64 0), .t (.str ⟨#[]⟩), .row (.loc 901), .row (.loc 900)])), (.loc 900, some (.slt 26 6 (acc.map Nd.toT))), (.loc 901, some (.slt 9 1 (ns.map .str)))])
          ?_ (n := acc.length) ⟨0, [], d2, by omega, by omega, by simp, by assumption, fun _ => by simp, fun _ => ⟨rfl, rfl⟩, rfl, rfl⟩
        rintro m env st ⟨j, ns, dd, hj, rfl, hns, hdd, h5, h4, rfl, rfl⟩
        by_cases hlt : j < acc.length
        · obtain ⟨c, hcc⟩ : ∃ c, acc.length - j = c + 1 := ⟨acc.length - j - 1, by omega⟩
          have hw := Word_spec dd kWords (by decide) (by decide) (by rw [hdd]; exact hd)
          have ew : (dd.word kWords).2.l = d.l := by rw [Dc.word_l, hdd]
          have hwsz := (kWords_asc _ (dd.word_mem kWords (by simp [kWords]))).2
          rw [hcc] at h5
          simp only [kNames] at h5
          generalize dd.word kWords = qw at *
          obtain ⟨s, d9⟩ := qw
          simp only at *
          repeat' (first | (with_reducible refine codeT_seq ?_) | (with_reducible refine codeT_block ?_) | (with_reducible refine codeT_skip ?_) | (with_reducible refine codeT_ret ?_) | (with_reducible refine codeT_exit ?_) | (with_reducible refine codeT_regionL ?_) | ((with_reducible refine codeT_region_drawL ?_ ?_); · rfl) | (with_reducible refine lx_nil ?_) | (with_reducible refine q_then ?_) | (with_reducible refine q_then_exit ?_) | (with_reducible refine q_then_ret ?_) | (with_reducible refine q_block ?_) | (with_reducible refine q_block_ret ?_) | ((with_reducible refine q_block_same ?_ ?_); · rfl) | (with_reducible refine q_loop_exit ?_) | ((with_reducible refine q_region_draw ?_ ?_); · rfl) | ((with_reducible refine g_move ?_); first | refine lx_move (r := (.t _)) rfl rfl rfl rfl rfl ?_ | refine lx_move (r := (.ref _ _ _ _)) rfl rfl rfl rfl rfl ?_) | ((with_reducible refine g_load ?_); first | refine lx_load_var rfl rfl rfl rfl rfl rfl rfl rfl ?_ | refine lx_load_varA (r := (.agg _)) rfl rfl rfl rfl rfl rfl rfl rfl rfl ?_) | ((with_reducible refine g_fieldAddr ?_); first | refine lx_fieldAddr rfl rfl rfl rfl rfl rfl rfl ?_) | ((with_reducible refine g_binOp ?_); first | refine lx_arith rfl rfl rfl rfl rfl rfl rfl ?_ | refine lx_concat rfl rfl rfl rfl rfl rfl ?_ ?_ | refine lx_quo rfl rfl rfl rfl rfl rfl (by decide) ?_ | refine lx_rem rfl rfl rfl rfl rfl rfl (by decide) ?_) | ((with_reducible refine g_assign ?_); first | refine lx_assign (r := (.t _)) rfl rfl rfl rfl rfl ?_) | ((with_reducible refine g_store ?_); first | refine lx_store_var (r := (.agg _)) rfl rfl rfl rfl rfl rfl rfl rfl rfl rfl ?_ | refine lx_store_var (r := (.row _)) rfl rfl rfl rfl rfl rfl rfl rfl rfl rfl ?_) | ((with_reducible refine g_convert ?_); first | refine lx_conv_int rfl rfl rfl rfl rfl ?_ | refine lx_ofBytes_row rfl rfl rfl rfl rfl rfl ?_ ?_) | ((with_reducible refine g_buildSlice ?_); first | refine lx_buildSlice rfl rfl rfl rfl rfl rfl rfl ?_) | ((with_reducible refine g_append ?_); first | refine lx_append_row rfl rfl rfl rfl rfl rfl rfl rfl rfl rfl ?_ ?_ ?_) | ((with_reducible refine g_call ?_); first | refine lx_call (r' := .t (.str s)) [(.par 1, .loc 91)] rfl rfl hw (ArgsLE.refl _) rfl ⟨rfl, rfl, trivial⟩ rfl rfl rfl rfl rfl rfl rfl rfl rfl rfl ?_) | refine c_condP rfl (fun hc => ?_) (fun hc => ?_))
          all_goals try (exfalso; omega)
          refine q_loop (n' := acc.length - (j + 1)) (by omega) (ghost_keep2 [0, 4, 5, 7, 82, 83] [.par 0, .loc 4, .loc 7, .loc 900, .loc 901] rfl rfl) ⟨j + 1, ns, dd, by omega, rfl, by omega, hdd, fun h => absurd h (by omega), h4, ?_, rfl⟩
          rw [wrap64 (by omega) (by omega)]; rfl
        · have hje : j = acc.length := by omega
          repeat' (first | (with_reducible refine codeT_seq ?_) | (with_reducible refine codeT_block ?_) | (with_reducible refine codeT_skip ?_) | (with_reducible refine codeT_ret ?_) | (with_reducible refine codeT_exit ?_) | (with_reducible refine codeT_regionL ?_) | ((with_reducible refine codeT_region_drawL ?_ ?_); · rfl) | (with_reducible refine lx_nil ?_) | (with_reducible refine q_then ?_) | (with_reducible refine q_then_exit ?_) | (with_reducible refine q_then_ret ?_) | (with_reducible refine q_block ?_) | (with_reducible refine q_block_ret ?_) | ((with_reducible refine q_block_same ?_ ?_); · rfl) | (with_reducible refine q_loop_exit ?_) | ((with_reducible refine g_move ?_); first | refine lx_move (r := (.t _)) rfl rfl rfl rfl rfl ?_ | refine lx_move (r := (.ref _ _ _ _)) rfl rfl rfl rfl rfl ?_) | ((with_reducible refine g_load ?_); first | refine lx_load_var rfl rfl rfl rfl rfl rfl rfl rfl ?_ | refine lx_load_varA (r := (.agg _)) rfl rfl rfl rfl rfl rfl rfl rfl rfl ?_) | ((with_reducible refine g_fieldAddr ?_); first | refine lx_fieldAddr rfl rfl rfl rfl rfl rfl rfl ?_) | ((with_reducible refine g_binOp ?_); first | refine lx_arith rfl rfl rfl rfl rfl rfl rfl ?_) | ((with_reducible refine g_assign ?_); first | refine lx_assign (r := (.t _)) rfl rfl rfl rfl rfl ?_) | ((with_reducible refine g_store ?_); first | refine lx_store_var (r := (.agg _)) rfl rfl rfl rfl rfl rfl rfl rfl rfl rfl ?_) | ((with_reducible refine g_buildSlice ?_); first | refine lx_buildSlice rfl rfl rfl rfl rfl rfl rfl ?_) | refine c_condP rfl (fun hc => ?_) (fun hc => ?_))
          all_goals try (exfalso; omega)
          have er : res = (Nd.mk k false 0 eS ns acc, dd) := by
            rw [← hres3]
            rcases hk with rfl | rfl
            · obtain ⟨h4a, h4b⟩ := h4 rfl
              rw [if_neg (by decide), h4a, h4b]
            · have h5 := h5 rfl
              rw [hje, Nat.sub_self] at h5
              simp only [kNames, List.append_nil] at h5
              rw [if_pos rfl, ← h5]
          rw [er]
          simp only
          rw [Nd.toT_eq]
          refine q_ghost (ghost_keep2 [4] [.par 0, .loc 4, .loc 900, .loc 901] rfl rfl) ?_
          refine q_ghost (ghost_freezeL (id := .loc 900) rfl rfl rfl) ?_; refine q_ghost (ghost_freezeL (id := .loc 901) rfl rfl rfl) ?_
          refine q_done (q_ret ?_ (stHas_spec ⟨rfl, trivial⟩)); refine resT_cell rfl rfl rfl inferInstance rfl inferInstance rfl ?_; exact TLe.av (by repeat first | exact TLe.refl _ | exact TLe.slq _ _ | exact TLe.nil _ | exact TLe.esl _ | refine TLe.agg ?_ | refine TLs.cons ?_ ?_ | exact TLs.nil)
    | succ c =>
      have hF := hf d' (by rw [e']; exact hd)
      have eF := hl d'
      simp only [kItems] at hi
      generalize f d' = qf at *
      obtain ⟨x, d2⟩ := qf
      simp only at *
      have hF := hF.res x.toT_full
      have hn1 : IntKind.i64.wrap (n - 1) = n - 1 := wrap64 (by omega) (by omega)
      rw [← hn1] at hF
      repeat' (first | (with_reducible refine codeT_seq ?_) | (with_reducible refine codeT_block ?_) | (with_reducible refine codeT_skip ?_) | (with_reducible refine codeT_exit ?_) | (with_reducible refine codeT_regionL ?_) | ((with_reducible refine codeT_region_drawL ?_ ?_); · rfl) | (with_reducible refine lx_nil ?_) | (with_reducible refine q_then ?_) | (with_reducible refine q_then_exit ?_) | (with_reducible refine q_block ?_) | ((with_reducible refine q_block_same ?_ ?_); · rfl) | (with_reducible refine q_loop_exit ?_) | ((with_reducible refine q_region_draw ?_ ?_); · rfl) | ((with_reducible refine g_move ?_); first | refine lx_move (r := (.t _)) rfl rfl rfl rfl rfl ?_ | refine lx_move (r := (.ref _ _ _ _)) rfl rfl rfl rfl rfl ?_) | ((with_reducible refine g_load ?_); first | refine lx_load_var rfl rfl rfl rfl rfl rfl rfl rfl ?_) | ((with_reducible refine g_fieldAddr ?_); first | refine lx_fieldAddr rfl rfl rfl rfl rfl rfl rfl ?_) | ((with_reducible refine g_binOp ?_); first | refine lx_arith rfl rfl rfl rfl rfl rfl rfl ?_) | ((with_reducible refine g_assign ?_); first | refine lx_assign (r := (.t _)) rfl rfl rfl rfl rfl ?_) | ((with_reducible refine g_store ?_); first | refine lx_store_var (r := (.row _)) rfl rfl rfl rfl rfl rfl rfl rfl rfl rfl ?_) | ((with_reducible refine g_buildSlice ?_); first | refine lx_buildSlice rfl rfl rfl rfl rfl rfl rfl ?_) | ((with_reducible refine g_append ?_); first | refine lx_append_row rfl rfl rfl rfl rfl rfl rfl rfl rfl rfl ?_ ?_ ?_) | ((with_reducible refine g_call ?_); first | refine lx_call (r' := .t (.agg [_, _, _, _, _, _])) [] rfl rfl hF (ArgsLE.refl _) rfl ⟨rfl, trivial⟩ rfl rfl rfl rfl rfl rfl rfl rfl rfl rfl ?_) | refine c_condP rfl (fun hc => ?_) (fun hc => ?_))
      all_goals try (exfalso; omega)
      · simp only [List.length_map, List.length_cons, List.length_nil]; omega
      · simp only [List.length_map, List.length_cons, List.length_nil]; omega
      · refine q_loop (n' := c) (by omega) ((ghost_keep2 [0, 1, 4, 5, 7, 8] [.par 0, .loc 4, .loc 7, .loc 62] rfl rfl).trans (ghost_renL2 (.loc 62) (.loc 900) rfl rfl rfl rfl)) ⟨c, acc ++ [x], d2, rfl, by omega, by simp; omega, by rw [eF, e'], by rw [← hi, List.append_assoc]; rfl, ?_, ?_⟩
        · rw [wrap64 (by omega) (by omega), show ((c + 1 : Nat) : Int) - 1 = (c : Int) by omega]; rfl
        · rw [List.map_append, List.map_singleton, x.toT_full]; rfl
  · refine codeT_ghost (ghost_cellNilL (r := .loc 7) 5 (.loc 900) 26 6 rfl rfl rfl rfl rfl) ?_
    refine codeT_ghost (ghost_keep2 [0, 1, 4, 5, 7, 8] [.par 0, .loc 4, .loc 7, .loc 900] rfl rfl) ?_
    refine codeT_loop (fun m env st => ∃ (c : Nat) (acc : List Nd) (d' : Dc), m = c ∧ c ≤ 3 ∧ acc.length + c ≤ 3 ∧ d'.l = d.l ∧ (acc ++ (kItems f c d').1, (kItems f c d').2) = kItems f v4.toNat d4 ∧
        env = EnvL.get [(0, .ref (.par 0) 0 0 0), (1, .t (.int .i64 n)), (4, .ref (.loc 4) 0 0 0), (5, .t (.int .i64 k)), (7, .ref (.loc 7) 0 0 0), (8, .t (.int .i64 (c : Int)))] ∧
        st = StO.get [(.par 0, some d'.row), (.loc 4, some (.var 26 [.t (.int .i64 0), .t (.bool false), .t (.int .i64 0), .t (.str ⟨#[]⟩), .t .nilsl, .t .nilsl])), (.loc 7, some (.var 26 [.t (.int .i64 k), .t (.bool false), .t (.int .i64 0), .t (.str ⟨#[]⟩), .t .nilsl, .row (.loc 900)])), (.loc 900, some (.slt 26 6 (acc.map Nd.toT)))])
      ?_ (n := v4.toNat) ⟨v4.toNat, [], d4, rfl, by omega, by simp; omega, e4, by simp, by rw [show ((v4.toNat : Nat) : Int) = v4 by omega]; rfl, rfl⟩
    rintro m env st ⟨c, acc, d', rfl, hc3, ha, e', hi, rfl, rfl⟩
    cases m with
    | zero =>
      simp only [kItems, List.append_nil] at hi
      have h20 := Next_spec d' 20 (by omega) (by rw [e']; exact hd)
      have e20 : (d'.next 20).2.l = d.l := by rw [Dc.next_l, e']
      rw [← hi] at hres
      simp only at hres
      generalize d'.next 20 = q20 at *
      obtain ⟨z, d2⟩ := q20
      simp only at *
      repeat' (first | (with_reducible refine codeT_seq ?_) | (with_reducible refine codeT_block ?_) | (with_reducible refine codeT_skip ?_) | (with_reducible refine codeT_exit ?_) | (with_reducible refine codeT_regionL ?_) | (with_reducible refine lx_nil ?_) | (with_reducible refine q_then ?_) | (with_reducible refine q_then_exit ?_) | ((with_reducible refine q_block_same ?_ ?_); · rfl) | (with_reducible refine q_loop_exit ?_) | refine c_condF rfl ?_ | ((with_reducible refine g_move ?_); first | refine lx_move (r := (.t _)) rfl rfl rfl rfl rfl ?_ | refine lx_move (r := (.ref _ _ _ _)) rfl rfl rfl rfl rfl ?_) | ((with_reducible refine g_load ?_); first | refine lx_load_var rfl rfl rfl rfl rfl rfl rfl rfl ?_) | ((with_reducible refine g_fieldAddr ?_); first | refine lx_fieldAddr rfl rfl rfl rfl rfl rfl rfl ?_) | ((with_reducible refine g_binOp ?_); first | refine lx_arith rfl rfl rfl rfl rfl rfl rfl ?_) | ((with_reducible refine g_len ?_); first | refine lx_len_rowmap rfl rfl rfl rfl rfl rfl ?_) | ((with_reducible refine g_call ?_); first | refine lx_call (r' := .t (.int .i64 z)) [] rfl rfl h20 (ArgsLE.refl _) rfl ⟨rfl, trivial⟩ rfl rfl rfl rfl rfl rfl rfl rfl rfl rfl ?_) | refine c_condP rfl (fun hc => ?_) (fun hc => ?_))
      · rw [if_pos hc] at hres
        have hac : acc.length ≤ 17 := by omega
        refine codeT_ghost (ghost_keep2 [0, 4, 5, 7] [.par 0, .loc 4, .loc 7, .loc 900] rfl rfl) ?_
        clear h20
        refine codeT_loop (fun m env st => ∃ (fu : Nat) (ac : List Nd) (dd : Dc), m = fu ∧ 20 ≤ ac.length + fu ∧ ac.length ≤ 17 ∧ dd.l = d.l ∧ kFill fu ac dd = kFill 20 acc d2 ∧
            env = EnvL.get [(0, .ref (.par 0) 0 0 0), (4, .ref (.loc 4) 0 0 0), (5, .t (.int .i64 k)), (7, .ref (.loc 7) 0 0 0)] ∧
            st = StO.get [(.par 0, some dd.row), (.loc 4, some (.var 26 [.t (.int .i64 0), .t (.bool false), .t (.int .i64 0), .t (.str ⟨#[]⟩), .t .nilsl, .t .nilsl])), (.loc 7, some (.var 26 [.t (.int .i64 k), .t (.bool false), .t (.int .i64 0), .t (.str ⟨#[]⟩), .t .nilsl, .row (.loc 900)])), (.loc 900, some (.slt 26 6 (ac.map Nd.toT)))])
          ?_ (n := 20) ⟨20, acc, d2, rfl, by omega, hac, e20, rfl, rfl, rfl⟩
        rintro m env st ⟨fu, ac, dd, rfl, ha2, ha3, edd, hfi, rfl, rfl⟩
        obtain ⟨fu, rfl⟩ : ∃ x, m = x + 1 := ⟨m - 1, by omega⟩
        have h3 := Next_spec dd 3 (by omega) (by rw [edd]; exact hd)
        have l3 := dd.next_lt 3 (by omega)
        have e3 : (dd.next 3).2.l = d.l := by rw [Dc.next_l, edd]
        rw [kFill] at hfi
        generalize dd.next 3 = q3 at *
        obtain ⟨v, d3⟩ := q3
        simp only at *
        have e15 : IntKind.i64.wrap (15 + v) = 15 + v := wrap64 (by omega) (by omega)
        rw [← e15] at hfi
        repeat' (first | (with_reducible refine codeT_seq ?_) | (with_reducible refine codeT_block ?_) | (with_reducible refine codeT_skip ?_) | (with_reducible refine codeT_exit ?_) | (with_reducible refine codeT_regionL ?_) | ((with_reducible refine codeT_region_drawL ?_ ?_); · rfl) | (with_reducible refine lx_nil ?_) | (with_reducible refine q_then ?_) | (with_reducible refine q_then_exit ?_) | (with_reducible refine q_block ?_) | ((with_reducible refine q_block_same ?_ ?_); · rfl) | (with_reducible refine q_loop_exit ?_) | ((with_reducible refine q_region_draw ?_ ?_); · rfl) | ((with_reducible refine g_move ?_); first | refine lx_move (r := (.t _)) rfl rfl rfl rfl rfl ?_ | refine lx_move (r := (.ref _ _ _ _)) rfl rfl rfl rfl rfl ?_) | ((with_reducible refine g_load ?_); first | refine lx_load_var rfl rfl rfl rfl rfl rfl rfl rfl ?_) | ((with_reducible refine g_fieldAddr ?_); first | refine lx_fieldAddr rfl rfl rfl rfl rfl rfl rfl ?_) | ((with_reducible refine g_binOp ?_); first | refine lx_arith rfl rfl rfl rfl rfl rfl rfl ?_) | ((with_reducible refine g_store ?_); first | refine lx_store_var (r := (.row _)) rfl rfl rfl rfl rfl rfl rfl rfl rfl rfl ?_) | ((with_reducible refine g_buildSlice ?_); first | refine lx_buildSlice rfl rfl rfl rfl rfl rfl rfl ?_) | ((with_reducible refine g_build ?_); first | refine lx_build (r := (.t (.agg _))) rfl rfl rfl rfl rfl rfl rfl ?_) | ((with_reducible refine g_len ?_); first | refine lx_len_rowmap rfl rfl rfl rfl rfl rfl ?_) | ((with_reducible refine g_append ?_); first | refine lx_append_row rfl rfl rfl rfl rfl rfl rfl rfl rfl rfl ?_ ?_ ?_) | ((with_reducible refine g_call ?_); first | refine lx_call (r' := .t (.int .i64 v)) [] rfl rfl h3 (ArgsLE.refl _) rfl ⟨rfl, trivial⟩ rfl rfl rfl rfl rfl rfl rfl rfl rfl rfl ?_) | refine c_condP rfl (fun hc => ?_) (fun hc => ?_))
        · simp only [List.length_map, List.length_cons, List.length_nil]; omega
        · simp only [List.length_map, List.length_cons, List.length_nil]; omega
        · have hcc : (ac.length : Int) < IntKind.i64.wrap (15 + v) := by simpa using ‹_ < IntKind.i64.wrap (15 + v)›
          rw [if_pos hcc] at hfi
          rw [e15] at hcc
          refine q_loop (n' := fu) (by omega) ((ghost_rowL (id := .loc 78) (r' := .slt 26 6 ((ac ++ [Nd.zero]).map Nd.toT)) rfl (RowLE.slt ?_) rfl).trans ((ghost_keep2 [0, 4, 5, 7] [.par 0, .loc 4, .loc 7, .loc 78] rfl rfl).trans (ghost_renL2 (.loc 78) (.loc 900) rfl rfl rfl rfl))) ⟨fu, ac ++ [Nd.zero], d3, rfl, by simp; omega, by simp; omega, e3, hfi, rfl, rfl⟩
          rw [List.map_append, List.map_singleton, zero_toT]
          exact TLs.append (TLs.refl _) (by repeat first | exact TLe.refl _ | exact TLe.slq _ _ | exact TLe.nil _ | exact TLe.esl _ | refine TLe.agg ?_ | refine TLs.cons ?_ ?_ | exact TLs.nil)
        · have hcc : ¬ (ac.length : Int) < IntKind.i64.wrap (15 + v) := by simpa using ‹¬ _ < IntKind.i64.wrap (15 + v)›
          rw [if_neg hcc] at hfi
          rw [← hfi] at hres
          simp only at hres
          have hg : ∃ g : List Nd × Dc, g = (ac, d3) ∧ g.1.length ≤ 17 ∧ g.2.l = d.l := ⟨_, rfl, by simp only; omega, by simp only; assumption⟩
          obtain ⟨g, eg, hg1, hg2⟩ := hg
          refine codeT_ghost (ghost_cellNilL (r := .loc 7) 4 (.loc 901) 9 1 rfl rfl rfl rfl rfl) ?_
          refine codeT_ghost (ghost_keep2 [0, 4, 5, 7, 82, 83] [.par 0, .loc 4, .loc 7, .loc 900, .loc 901] rfl rfl) ?_
          have hres3 : (Nd.mk k false 0 eS (if k = 5 then kNames ac.length 0 d3 else ([], d3)).1 ac, (if k = 5 then kNames ac.length 0 d3 else ([], d3)).2) = res := by rw [← hres]
          clear h3
          refine codeT_loop (fun m env st => ∃ (j : Nat) (ns : List ByteArray) (dd : Dc), j ≤ ac.length ∧ m = ac.length - j ∧ ns.length ≤ j ∧ dd.l = d.l ∧ (k = 5 → (ns ++ (kNames (ac.length - j) j dd).1, (kNames (ac.length - j) j dd).2) = kNames ac.length 0 d3) ∧ (k = 4 → ns = [] ∧ dd = d3) ∧
              env = EnvL.get [(0, .ref (.par 0) 0 0 0), (4, .ref (.loc 4) 0 0 0), (5, .t (.int .i64 k)), (7, .ref (.loc 7) 0 0 0), (82, .t (.int .i64 ac.length)), (83, .t (.int .i64 (j : Int)))] ∧
              st = StO.get [(.par 0, some dd.row), (.loc 4, some (.var 26 [.t (.int .i64 0), .t (.bool false), .t (.int .i64 0), .t (.str ⟨#[]⟩), .t .nilsl, .t .nilsl])), (.loc 7, some (.var 26 [.t (.int .i64 k), .t (.bool false), .t (.int .i64 0), .t (.str ⟨#[]⟩), .row (.loc 901), .row (.loc 900)])), (.loc 900, some (.slt 26 6 (ac.map Nd.toT))), (.loc 901, some (.slt 9 1 (ns.map .str)))])
            ?_ (n := ac.length) ⟨0, [], d3, by omega, by omega, by simp, by assumption, fun _ => by simp, fun _ => ⟨rfl, rfl⟩, rfl, rfl⟩
          rintro m env st ⟨j, ns, dd, hj, rfl, hns, hdd, h5, h4, rfl, rfl⟩
          by_cases hlt : j < ac.length
          · obtain ⟨c, hcc⟩ : ∃ c, ac.length - j = c + 1 := ⟨ac.length - j - 1, by omega⟩
            have hw := Word_spec dd kWords (by decide) (by decide) (by rw [hdd]; exact hd)
            have ew : (dd.word kWords).2.l = d.l := by rw [Dc.word_l, hdd]
            have hwsz := (kWords_asc _ (dd.word_mem kWords (by simp [kWords]))).2
            rw [hcc] at h5
            simp only [kNames] at h5
            generalize dd.word kWords = qw at *
            obtain ⟨s, d9⟩ := qw
            simp only at *
            repeat' (first | (with_reducible refine codeT_seq ?_) | (with_reducible refine codeT_block ?_) | (with_reducible refine codeT_skip ?_) | (with_reducible refine codeT_ret ?_) | (with_reducible refine codeT_exit ?_) | (with_reducible refine codeT_regionL ?_) | ((with_reducible refine codeT_region_drawL ?_ ?_); · rfl) | (with_reducible refine lx_nil ?_) | (with_reducible refine q_then ?_) | (with_reducible refine q_then_exit ?_) | (with_reducible refine q_then_ret ?_) | (with_reducible refine q_block ?_) | (with_reducible refine q_block_ret ?_) | ((with_reducible refine q_block_same ?_ ?_); · rfl) | (with_reducible refine q_loop_exit ?_) | ((with_reducible refine q_region_draw ?_ ?_); · rfl) | ((with_reducible refine g_move ?_); first | refine lx_move (r := (.t _)) rfl rfl rfl rfl rfl ?_ | refine lx_move (r := (.ref _ _ _ _)) rfl rfl rfl rfl rfl ?_) | ((with_reducible refine g_load ?_); first | refine lx_load_var rfl rfl rfl rfl rfl rfl rfl rfl ?_ | refine lx_load_varA (r := (.agg _)) rfl rfl rfl rfl rfl rfl rfl rfl rfl ?_) | ((with_reducible refine g_fieldAddr ?_); first | refine lx_fieldAddr rfl rfl rfl rfl rfl rfl rfl ?_) | ((with_reducible refine g_binOp ?_); first | refine lx_arith rfl rfl rfl rfl rfl rfl rfl ?_ | refine lx_concat rfl rfl rfl rfl rfl rfl ?_ ?_ | refine lx_quo rfl rfl rfl rfl rfl rfl (by decide) ?_ | refine lx_rem rfl rfl rfl rfl rfl rfl (by decide) ?_) | ((with_reducible refine g_assign ?_); first | refine lx_assign (r := (.t _)) rfl rfl rfl rfl rfl ?_) | ((with_reducible refine g_store ?_); first | refine lx_store_var (r := (.agg _)) rfl rfl rfl rfl rfl rfl rfl rfl rfl rfl ?_ | refine lx_store_var (r := (.row _)) rfl rfl rfl rfl rfl rfl rfl rfl rfl rfl ?_) | ((with_reducible refine g_convert ?_); first | refine lx_conv_int rfl rfl rfl rfl rfl ?_ | refine lx_ofBytes_row rfl rfl rfl rfl rfl rfl ?_ ?_) | ((with_reducible refine g_buildSlice ?_); first | refine lx_buildSlice rfl rfl rfl rfl rfl rfl rfl ?_) | ((with_reducible refine g_append ?_); first | refine lx_append_row rfl rfl rfl rfl rfl rfl rfl rfl rfl rfl ?_ ?_ ?_) | ((with_reducible refine g_call ?_); first | refine lx_call (r' := .t (.str s)) [(.par 1, .loc 91)] rfl rfl hw (ArgsLE.refl _) rfl ⟨rfl, rfl, trivial⟩ rfl rfl rfl rfl rfl rfl rfl rfl rfl rfl ?_) | refine c_condP rfl (fun hc => ?_) (fun hc => ?_))
            all_goals try (exfalso; omega)
            all_goals try rw [kTwo_str j (by omega)]
            · intro e he
              simp only [List.mem_cons, List.not_mem_nil, or_false] at he
              rcases he with rfl | rfl <;> rfl
            · have : (kTwo j).size = 2 := rfl
              omega
            · simp only [List.length_map, List.length_cons, List.length_nil]; omega
            · simp only [List.length_map, List.length_cons, List.length_nil]; omega
            · refine q_loop (n' := ac.length - (j + 1)) (by omega) ((ghost_keep2 [0, 4, 5, 7, 82, 83] [.par 0, .loc 4, .loc 7, .loc 900, .loc 105] rfl rfl).trans (ghost_renL2 (.loc 105) (.loc 901) rfl rfl rfl rfl)) ⟨j + 1, ns ++ [s ++ kTwo j], d9, by omega, rfl, by simp; omega, ew, fun h => ?_, fun h => by omega, ?_, ?_⟩
              · rw [← h5 h, show ac.length - (j + 1) = c by omega, List.append_assoc]; rfl
              · rw [wrap64 (by omega) (by omega)]; rfl
              · rw [List.map_append, List.map_singleton]; rfl
          · have hje : j = ac.length := by omega
            repeat' (first | (with_reducible refine codeT_seq ?_) | (with_reducible refine codeT_block ?_) | (with_reducible refine codeT_skip ?_) | (with_reducible refine codeT_ret ?_) | (with_reducible refine codeT_exit ?_) | (with_reducible refine codeT_regionL ?_) | ((with_reducible refine codeT_region_drawL ?_ ?_); · rfl) | (with_reducible refine lx_nil ?_) | (with_reducible refine q_then ?_) | (with_reducible refine q_then_exit ?_) | (with_reducible refine q_then_ret ?_) | (with_reducible refine q_block ?_) | (with_reducible refine q_block_ret ?_) | ((with_reducible refine q_block_same ?_ ?_); · rfl) | (with_reducible refine q_loop_exit ?_) | ((with_reducible refine g_move ?_); first | refine lx_move (r := (.t _)) rfl rfl rfl rfl rfl ?_ | refine lx_move (r := (.ref _ _ _ _)) rfl rfl rfl rfl rfl ?_) | ((with_reducible refine g_load ?_); first | refine lx_load_var rfl rfl rfl rfl rfl rfl rfl rfl ?_ | refine lx_load_varA (r := (.agg _)) rfl rfl rfl rfl rfl rfl rfl rfl rfl ?_) | ((with_reducible refine g_fieldAddr ?_); first | refine lx_fieldAddr rfl rfl rfl rfl rfl rfl rfl ?_) | ((with_reducible refine g_binOp ?_); first | refine lx_arith rfl rfl rfl rfl rfl rfl rfl ?_) | ((with_reducible refine g_assign ?_); first | refine lx_assign (r := (.t _)) rfl rfl rfl rfl rfl ?_) | ((with_reducible refine g_store ?_); first | refine lx_store_var (r := (.agg _)) rfl rfl rfl rfl rfl rfl rfl rfl rfl rfl ?_) | ((with_reducible refine g_buildSlice ?_); first | refine lx_buildSlice rfl rfl rfl rfl rfl rfl rfl ?_) | refine c_condP rfl (fun hc => ?_) (fun hc => ?_))
            all_goals try (exfalso; omega)
            have er : res = (Nd.mk k false 0 eS ns ac, dd) := by
              rw [← hres3]
              rcases hk with rfl | rfl
              · obtain ⟨h4a, h4b⟩ := h4 rfl
                rw [if_neg (by decide), h4a, h4b]
              · have h5 := h5 rfl
                rw [hje, Nat.sub_self] at h5
                simp only [kNames, List.append_nil] at h5
                rw [if_pos rfl, ← h5]
            rw [er]
            simp only
            rw [Nd.toT_eq]
            refine q_ghost (ghost_keep2 [4] [.par 0, .loc 4, .loc 900, .loc 901] rfl rfl) ?_
            refine q_ghost (ghost_freezeL (id := .loc 900) rfl rfl rfl) ?_; refine q_ghost (ghost_freezeL (id := .loc 901) rfl rfl rfl) ?_
            refine q_done (q_ret ?_ (stHas_spec ⟨rfl, trivial⟩)); refine resT_cell rfl rfl rfl inferInstance rfl inferInstance rfl ?_; exact TLe.av (by repeat first | exact TLe.refl _ | exact TLe.slq _ _ | exact TLe.nil _ | exact TLe.esl _ | refine TLe.agg ?_ | refine TLs.cons ?_ ?_ | exact TLs.nil)
      · rw [if_neg hc] at hres
        simp only at hres
        have hg : ∃ g : List Nd × Dc, g = (acc, d2) ∧ g.1.length ≤ 17 ∧ g.2.l = d.l := ⟨_, rfl, by simp only; omega, by simp only; assumption⟩
        obtain ⟨g, eg, hg1, hg2⟩ := hg
        refine codeT_ghost (ghost_cellNilL (r := .loc 7) 4 (.loc 901) 9 1 rfl rfl rfl rfl rfl) ?_
        refine codeT_ghost (ghost_keep2 [0, 4, 5, 7, 82, 83] [.par 0, .loc 4, .loc 7, .loc 900, .loc 901] rfl rfl) ?_
        have hres3 : (Nd.mk k false 0 eS (if k = 5 then kNames acc.length 0 d2 else ([], d2)).1 acc, (if k = 5 then kNames acc.length 0 d2 else ([], d2)).2) = res := by rw [← hres]
        clear h20
        refine codeT_loop (fun m env st => ∃ (j : Nat) (ns : List ByteArray) (dd : Dc), j ≤ acc.length ∧ m = acc.length - j ∧ ns.length ≤ j ∧ dd.l = d.l ∧ (k = 5 → (ns ++ (kNames (acc.length - j) j dd).1, (kNames (acc.length - j) j dd).2) = kNames acc.length 0 d2) ∧ (k = 4 → ns = [] ∧ dd = d2) ∧
            env = EnvL.get [(0, .ref (.par 0) 0 0 0), (4, .ref (.loc 4) 0 0 0), (5, .t (.int .i64 k)), (7, .ref (.loc 7) 0 0 0), (82, .t (.int .i64 acc.length)), (83, .t (.int .i64 (j : Int)))] ∧
            st = StO.get [(.par 0, some dd.row), (.loc 4, some (.var 26 [.t (.int .i64 0), .t (.bool false), .t (.int .i64 0), .t (.str ⟨#[]⟩), .t .nilsl, .t .nilsl])), (.loc 7, some (.var 26 [.t (.int .i64 k), .t (.bool false), .t (.int .i64 0), .t (.str ⟨#[]⟩), .row (.loc 901), .row (.loc 900)])), (.loc 900, some (.slt 26 6 (acc.map Nd.toT))), (.loc 901, some (.slt 9 1 (ns.map .str)))])
          ?_ (n := acc.length) ⟨0, [], d2, by omega, by omega, by simp, by assumption, fun _ => by simp, fun _ => ⟨rfl, rfl⟩, rfl, rfl⟩
        rintro m env st ⟨j, ns, dd, hj, rfl, hns, hdd, h5, h4, rfl, rfl⟩
        by_cases hlt : j < acc.length
        · obtain ⟨c, hcc⟩ : ∃ c, acc.length - j = c + 1 := ⟨acc.length - j - 1, by omega⟩
          have hw := Word_spec dd kWords (by decide) (by decide) (by rw [hdd]; exact hd)
          have ew : (dd.word kWords).2.l = d.l := by rw [Dc.word_l, hdd]
          have hwsz := (kWords_asc _ (dd.word_mem kWords (by simp [kWords]))).2
          rw [hcc] at h5
          simp only [kNames] at h5
          generalize dd.word kWords = qw at *
          obtain ⟨s, d9⟩ := qw
          simp only at *
          repeat' (first | (with_reducible refine codeT_seq ?_) | (with_reducible refine codeT_block ?_) | (with_reducible refine codeT_skip ?_) | (with_reducible refine codeT_ret ?_) | (with_reducible refine codeT_exit ?_) | (with_reducible refine codeT_regionL ?_) | ((with_reducible refine codeT_region_drawL ?_ ?_); · rfl) | (with_reducible refine lx_nil ?_) | (with_reducible refine q_then ?_) | (with_reducible refine q_then_exit ?_) | (with_reducible refine q_then_ret ?_) | (with_reducible refine q_block ?_) | (with_reducible refine q_block_ret ?_) | ((with_reducible refine q_block_same ?_ ?_); · rfl) | (with_reducible refine q_loop_exit ?_) | ((with_reducible refine q_region_draw ?_ ?_); · rfl) | ((with_reducible refine g_move ?_); first | refine lx_move (r := (.t _)) rfl rfl rfl rfl rfl ?_ | refine lx_move (r := (.ref _ _ _ _)) rfl rfl rfl rfl rfl ?_) | ((with_reducible refine g_load ?_); first | refine lx_load_var rfl rfl rfl rfl rfl rfl rfl rfl ?_ | refine lx_load_varA (r := (.agg _)) rfl rfl rfl rfl rfl rfl rfl rfl rfl ?_) | ((with_reducible refine g_fieldAddr ?_); first | refine lx_fieldAddr rfl rfl rfl rfl rfl rfl rfl ?_) | ((with_reducible refine g_binOp ?_); first | refine lx_arith rfl rfl rfl rfl rfl rfl rfl ?_ | refine lx_concat rfl rfl rfl rfl rfl rfl ?_ ?_ | refine lx_quo rfl rfl rfl rfl rfl rfl (by decide) ?_ | refine lx_rem rfl rfl rfl rfl rfl rfl (by decide) ?_) | ((with_reducible refine g_assign ?_); first | refine lx_assign (r := (.t _)) rfl rfl rfl rfl rfl ?_) | ((with_reducible refine g_store ?_); first | refine lx_store_var (r := (.agg _)) rfl rfl rfl rfl rfl rfl rfl rfl rfl rfl ?_ | refine lx_store_var (r := (.row _)) rfl rfl rfl rfl rfl rfl rfl rfl rfl rfl ?_) | ((with_reducible refine g_convert ?_); first | refine lx_conv_int rfl rfl rfl rfl rfl ?_ | refine lx_ofBytes_row rfl rfl rfl rfl rfl rfl ?_ ?_) | ((with_reducible refine g_buildSlice ?_); first | refine lx_buildSlice rfl rfl rfl rfl rfl rfl rfl ?_) | ((with_reducible refine g_append ?_); first | refine lx_append_row rfl rfl rfl rfl rfl rfl rfl rfl rfl rfl ?_ ?_ ?_) | ((with_reducible refine g_call ?_); first | refine lx_call (r' := .t (.str s)) [(.par 1, .loc 91)] rfl rfl hw (ArgsLE.refl _) rfl ⟨rfl, rfl, trivial⟩ rfl rfl rfl rfl rfl rfl rfl rfl rfl rfl ?_) | refine c_condP rfl (fun hc => ?_) (fun hc => ?_))
          all_goals try (exfalso; omega)
          all_goals try rw [kTwo_str j (by omega)]
          · intro e he
            simp only [List.mem_cons, List.not_mem_nil, or_false] at he
            rcases he with rfl | rfl <;> rfl
          · have : (kTwo j).size = 2 := rfl
            omega
          · simp only [List.length_map, List.length_cons, List.length_nil]; omega
          · simp only [List.length_map, List.length_cons, List.length_nil]; omega
          · refine q_loop (n' := acc.length - (j + 1)) (by omega) ((ghost_keep2 [0, 4, 5, 7, 82, 83] [.par 0, .loc 4, .loc 7, .loc 900, .loc 105] rfl rfl).trans (ghost_renL2 (.loc 105) (.loc 901) rfl rfl rfl rfl)) ⟨j + 1, ns ++ [s ++ kTwo j], d9, by omega, rfl, by simp; omega, ew, fun h => ?_, fun h => by omega, ?_, ?_⟩
            · rw [← h5 h, show acc.length - (j + 1) = c by omega, List.append_assoc]; rfl
            · rw [wrap64 (by omega) (by omega)]; rfl
            · rw [List.map_append, List.map_singleton]; rfl
        · have hje : j = acc.length := by omega
          repeat' (first | (with_reducible refine codeT_seq ?_) | (with_reducible refine codeT_block ?_) | (with_reducible refine codeT_skip ?_) | (with_reducible refine codeT_ret ?_) | (with_reducible refine codeT_exit ?_) | (with_reducible refine codeT_regionL ?_) | ((with_reducible refine codeT_region_drawL ?_ ?_); · rfl) | (with_reducible refine lx_nil ?_) | (with_reducible refine q_then ?_) | (with_reducible refine q_then_exit ?_) | (with_reducible refine q_then_ret ?_) | (with_reducible refine q_block ?_) | (with_reducible refine q_block_ret ?_) | ((with_reducible refine q_block_same ?_ ?_); · rfl) | (with_reducible refine q_loop_exit ?_) | ((with_reducible refine g_move ?_); first | refine lx_move (r := (.t _)) rfl rfl rfl rfl rfl ?_ | refine lx_move (r := (.ref _ _ _ _)) rfl rfl rfl rfl rfl ?_) | ((with_reducible refine g_load ?_); first | refine lx_load_var rfl rfl rfl rfl rfl rfl rfl rfl ?_ | refine lx_load_varA (r := (.agg _)) rfl rfl rfl rfl rfl rfl rfl rfl rfl ?_) | ((with_reducible refine g_fieldAddr ?_); first | refine lx_fieldAddr rfl rfl rfl rfl rfl rfl rfl ?_) | ((with_reducible refine g_binOp ?_); first | refine lx_arith rfl rfl rfl rfl rfl rfl rfl ?_) | ((with_reducible refine g_assign ?_); first | refine lx_assign (r := (.t _)) rfl rfl rfl rfl rfl ?_) | ((with_reducible refine g_store ?_); first | refine lx_store_var (r := (.agg _)) rfl rfl rfl rfl rfl rfl rfl rfl rfl rfl ?_) | ((with_reducible refine g_buildSlice ?_); first | refine lx_buildSlice rfl rfl rfl rfl rfl rfl rfl ?_) | refine c_condP rfl (fun hc => ?_) (fun hc => ?_))
          all_goals try (exfalso; omega)
          have er : res = (Nd.mk k false 0 eS ns acc, dd) := by
            rw [← hres3]
            rcases hk with rfl | rfl
            · obtain ⟨h4a, h4b⟩ := h4 rfl
              rw [if_neg (by decide), h4a, h4b]
            · have h5 := h5 rfl
              rw [hje, Nat.sub_self] at h5
              simp only [kNames, List.append_nil] at h5
              rw [if_pos rfl, ← h5]
          rw [er]
          simp only
          rw [Nd.toT_eq]
          refine q_ghost (ghost_keep2 [4] [.par 0, .loc 4, .loc 900, .loc 901] rfl rfl) ?_
          refine q_ghost (ghost_freezeL (id := .loc 900) rfl rfl rfl) ?_; refine q_ghost (ghost_freezeL (id := .loc 901) rfl rfl rfl) ?_
          refine q_done (q_ret ?_ (stHas_spec ⟨rfl, trivial⟩)); refine resT_cell rfl rfl rfl inferInstance rfl inferInstance rfl ?_; exact TLe.av (by repeat first | exact TLe.refl _ | exact TLe.slq _ _ | exact TLe.nil _ | exact TLe.esl _ | refine TLe.agg ?_ | refine TLs.cons ?_ ?_ | exact TLs.nil)
    | succ c =>
      have hF := hf d' (by rw [e']; exact hd)
      have eF := hl d'
      simp only [kItems] at hi
      generalize f d' = qf at *
      obtain ⟨x, d2⟩ := qf
      simp only at *
      have hF := hF.res x.toT_full
      have hn1 : IntKind.i64.wrap (n - 1) = n - 1 := wrap64 (by omega) (by omega)
      rw [← hn1] at hF
      repeat' (first | (with_reducible refine codeT_seq ?_) | (with_reducible refine codeT_block ?_) | (with_reducible refine codeT_skip ?_) | (with_reducible refine codeT_exit ?_) | (with_reducible refine codeT_regionL ?_) | ((with_reducible refine codeT_region_drawL ?_ ?_); · rfl) | (with_reducible refine lx_nil ?_) | (with_reducible refine q_then ?_) | (with_reducible refine q_then_exit ?_) | (with_reducible refine q_block ?_) | ((with_reducible refine q_block_same ?_ ?_); · rfl) | (with_reducible refine q_loop_exit ?_) | ((with_reducible refine q_region_draw ?_ ?_); · rfl) | ((with_reducible refine g_move ?_); first | refine lx_move (r := (.t _)) rfl rfl rfl rfl rfl ?_ | refine lx_move (r := (.ref _ _ _ _)) rfl rfl rfl rfl rfl ?_) | ((with_reducible refine g_load ?_); first | refine lx_load_var rfl rfl rfl rfl rfl rfl rfl rfl ?_) | ((with_reducible refine g_fieldAddr ?_); first | refine lx_fieldAddr rfl rfl rfl rfl rfl rfl rfl ?_) | ((with_reducible refine g_binOp ?_); first | refine lx_arith rfl rfl rfl rfl rfl rfl rfl ?_) | ((with_reducible refine g_assign ?_); first | refine lx_assign (r := (.t _)) rfl rfl rfl rfl rfl ?_) | ((with_reducible refine g_store ?_); first | refine lx_store_var (r := (.row _)) rfl rfl rfl rfl rfl rfl rfl rfl rfl rfl ?_) | ((with_reducible refine g_buildSlice ?_); first | refine lx_buildSlice rfl rfl rfl rfl rfl rfl rfl ?_) | ((with_reducible refine g_append ?_); first | refine lx_append_row rfl rfl rfl rfl rfl rfl rfl rfl rfl rfl ?_ ?_ ?_) | ((with_reducible refine g_call ?_); first | refine lx_call (r' := .t (.agg [_, _, _, _, _, _])) [] rfl rfl hF (ArgsLE.refl _) rfl ⟨rfl, trivial⟩ rfl rfl rfl rfl rfl rfl rfl rfl rfl rfl ?_) | refine c_condP rfl (fun hc => ?_) (fun hc => ?_))
      all_goals try (exfalso; omega)
      · simp only [List.length_map, List.length_cons, List.length_nil]; omega
      · simp only [List.length_map, List.length_cons, List.length_nil]; omega
      · refine q_loop (n' := c) (by omega) ((ghost_keep2 [0, 1, 4, 5, 7, 8] [.par 0, .loc 4, .loc 7, .loc 62] rfl rfl).trans (ghost_renL2 (.loc 62) (.loc 900) rfl rfl rfl rfl)) ⟨c, acc ++ [x], d2, rfl, by omega, by simp; omega, by rw [eF, e'], by rw [← hi, List.append_assoc]; rfl, ?_, ?_⟩
        · rw [wrap64 (by omega) (by omega), show ((c + 1 : Nat) : Int) - 1 = (c : Int) by omega]; rfl
        · rw [List.map_append, List.map_singleton, x.toT_full]; rfl
end Go.AL

/- What the kit's Node, Map and Spoil answer. -/
set_option linter.unusedVariables false
namespace Go.AL
open Go Go.Proofs Go.RowKit

theorem kNode_spec : ∀ (n : Nat), n ≤ 1000 → ∀ d : Dc, d.l.length ≤ 1000 → Spec Tryd.prog 11 [.ref (.par 0) 0 0 0, .t (.int .i64 (n : Int))] [(.par 0, d.row)] (.t (kNode n d).1.toT) [(.par 0, (kNode n d).2.row)]
  | 0, hn, d, hd => kTree_spec 0 (by omega) none (fun _ => by omega) d hd (by simp)
  | 1, hn, d, hd => kTree_spec 1 (by omega) none (fun _ => by omega) d hd (by simp)
  | n + 2, hn, d, hd => by
    refine kTree_spec ((n + 2 : Nat) : Int) (by omega) (some (kNode (n + 1))) (by simp) d hd ?_
    rintro f hf k d1 hq hk
    cases hf
    refine kSeq_spec ((n + 2 : Nat) : Int) (by omega) _ (kNode_l (n + 1)) (fun d' hd' => ?_) d hd k hk d1 hq
    have h := kNode_spec (n + 1) (by omega) d' hd'
    rw [show ((n + 2 : Nat) : Int) - 1 = ((n + 1 : Nat) : Int) by omega]
    exact h
end Go.AL
