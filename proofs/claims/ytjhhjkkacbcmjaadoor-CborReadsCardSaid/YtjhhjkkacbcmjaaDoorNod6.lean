/- That the law NodePuts is true, as a contract. -/
import Derived.Test.YtjhhjkkacbcmjaaDoorNod5
import Derived.Test.YtjhhjkkacbcmjaaDoorNod1
set_option linter.unusedVariables false
namespace Go.AL
open Go Go.Proofs Go.RowKit

def putNames : List ByteArray := [⟨#[97]⟩, ⟨#[98]⟩, ⟨#[100]⟩, ⟨#[110, 101, 119]⟩]
theorem putNames_text {V : ByteArray → Bool} (hV : VOk V) : ∀ s ∈ putNames, textB V s = true := by
  intro s hs
  simp only [putNames, List.mem_cons, List.not_mem_nil, or_false] at hs
  rcases hs with rfl | rfl | rfl | rfl <;> exact text_asc hV _ (by decide) (by decide)
theorem Nd.set_items_len (n : Nd) (s : ByteArray) (v : Nd) : (n.set s v).items.length ≤ n.items.length + 1 := by
  unfold Nd.set
  split
  · simp [Nd.items]
  · simp [Nd.items]
set_option maxHeartbeats 8000000 in
theorem NodePuts_spec {oF oA : Obj} {V : ByteArray → Bool} (hS : VSpec oF oA V) (hV : VOk V) (l : List Int) : Spec Tryd.prog 4 [.t (.sl 1 (l.map (T.int .i64)))] [(.par 100, .dat (.fix 0 oF)), (.par 101, .dat (.fix 1 oA))] (.t (.bool true)) [(.par 100, .dat (.fix 0 oF)), (.par 101, .dat (.fix 1 oA))] := by
  have hA := awake_spec hS hV
  have hL := Light_spec l
  by_cases hl : (l.length : Int) ≤ 500
  · rw [decide_eq_true hl] at hL
    have hR := Roll_spec l
    have hd0 : (Dc.mk l 0).l = l := rfl
    have hM := kMap_spec 3 (by omega) (Dc.mk l 0) (by rw [hd0]; omega)
    have eM : (kMap 3 (Dc.mk l 0)).2.l = l := kMap_l 3 _
    have vM := kMap_ok hV 3 (Dc.mk l 0) 8 (by omega) (by omega)
    have kM : (kMap 3 (Dc.mk l 0)).1.kind = 5 := rfl
    have sM : ((kMap 3 (Dc.mk l 0)).1.items.length : Int) ≤ 3 := by
      have := (Dc.mk l 0).next_lt 4 (by omega)
      simp only [kMap, Nd.items, kItems_len]; omega
    generalize kMap 3 (Dc.mk l 0) = qM at *
    obtain ⟨m, d1⟩ := qM
    simp only at *
    have hX := kNode_spec 3 (by omega) d1 (by rw [eM]; omega)
    have eX : (kNode 3 d1).2.l = l := by rw [kNode_l, eM]
    have vX := kNode_ok hV 3 d1 7 (by omega) (by omega)
    generalize kNode 3 d1 = qX at *
    obtain ⟨x, d2⟩ := qX
    simp only at *
    have hW := Word_spec d2 putNames (by decide) (by decide) (by rw [eX]; omega)
    have vW := putNames_text hV _ (d2.word_mem putNames (by simp [putNames]))
    generalize d2.word putNames = qW at *
    obtain ⟨s, d3⟩ := qW
    simp only at *
    have okM := Nd.ok_of_valid m 8 vM
    have okX := Nd.ok_of_valid x 7 vX
    have isM := Nd.isMap_of_valid kM vM
    have hP := put_spec hS m okM s x okX
    rw [put_ok kM vM vX vW (by omega)] at hP
    have vY := set_valid (s := s) kM vM vX vW (by omega)
    have sY : ((m.set s x).items.length : Int) ≤ 4 := by
      have := Nd.set_items_len m s x; omega
    have kY : (m.set s x).kind = 5 := (isM.set s x).kind
    have isY := isM.set s x
    have e1 := isM.set_get s x
    have e2 := isM.set_len s x
    have e3 := isM.set_set s x
    have e4 : ∀ i, i < m.names.length → (m.set s x).names[i]? = m.names[i]? := fun i hi => isM.set_name_at s x hi
    have e5 : ∀ (i : Nat) (r : ByteArray), m.names[i]? = some r → r ≠ s → (m.set s x).get r = (m.items.getD i default, true) := fun i r h1 h2 => isM.set_other s x h1 h2
    generalize hy : m.set s x = y at *
    have okY := Nd.ok_of_valid y 8 vY
    have hP2 := put_spec hS y okY s x okX
    rw [put_ok kY vY vX vW (by omega), e3] at hP2
    have hG := get_spec y okY s
    rw [e1] at hG
    have hG2 := get_spec m okM s
    have hSm := same_spec x okX x
    rw [Nd.same_refl] at hSm
    have hSy := same_spec y okY y
    rw [Nd.same_refl] at hSy
    simp only at hP hP2 hG
    generalize hgm : m.get s = gm at *
    obtain ⟨g, had⟩ := gm
    simp only at hG2 e2
    rw [m.toT_full] at hP hG2
    rw [x.toT_full] at hP hP2 hG hSm
    rw [y.toT_full] at hP hP2 hG hSy
    rw [g.toT_full] at hG2
    have hM := hM.res m.toT_full
    have hX := hX.res x.toT_full
    have hmn : (m.names.length : Int) ≤ 300 := by have := isM.len; omega
    have hmi : m.names.length = m.items.length := isM.len
    have hyn : y.names.length = if had = true then m.names.length else m.names.length + 1 := by
      cases had
      · simpa using e2.2 rfl
      · simpa using e2.1 rfl
    have okI : ∀ i, (m.items.getD i default).Ok := fun i => by
      rw [List.getD_eq_getElem?_getD]
      by_cases hi : i < m.items.length
      · rw [List.getElem?_eq_getElem hi]
        cases okM with
        | mk a1 a2 a3 => exact a3 _ (List.getElem_mem hi)
      · rw [List.getElem?_eq_none (by omega)]
        exact .mk (Nat.zero_le _) (Nat.zero_le _) (fun x hx => by cases hx)
    clear e1 e2 e3 hR hd0 vM kM sM eM eX vX vW isM isY kY sY vY
    have e64 : IntKind.i64.wrap ((m.names.length : Int) + 1) = m.names.length + 1 := wrap64 (by omega) (by omega)
    cases had
    all_goals
      simp only [if_true, if_false, Bool.false_eq_true] at hyn
      refine spec_intro (env0 := [(0, _)]) (st0 := [(_, some _), (_, some _)]) Tryd.func4 rfl rfl rfl rfl ?_
      have hR := Roll_spec l
      repeat' (first | (with_reducible refine codeT_seq ?_) | (with_reducible refine codeT_block ?_) | (with_reducible refine codeT_skip ?_) | (with_reducible refine codeT_ret ?_) | (with_reducible refine codeT_regionL ?_) | (with_reducible refine lx_nil ?_) | (with_reducible refine q_then ?_) | (with_reducible refine q_then_ret ?_) | refine c_condT rfl ?_ | refine c_condF rfl ?_ | ((with_reducible refine g_guard ?_); first | refine lx_skip rfl rfl rfl ?_) | ((with_reducible refine g_move ?_); first | refine lx_move (r := (.t _)) rfl rfl rfl rfl rfl ?_ | refine lx_move (r := (.ref _ _ _ _)) rfl rfl rfl rfl rfl ?_ | refine lx_move (r := (.tup _)) rfl rfl rfl rfl rfl ?_) | ((with_reducible refine g_load ?_); first | refine lx_load_var rfl rfl rfl rfl rfl rfl rfl rfl ?_ | refine lx_load_varA (r := (.t (.agg _))) rfl rfl rfl rfl rfl rfl rfl rfl rfl ?_) | ((with_reducible refine g_fieldAddr ?_); first | refine lx_fieldAddr rfl rfl rfl rfl rfl rfl rfl ?_) | ((with_reducible refine g_binOp ?_); first | refine lx_arith rfl rfl rfl rfl rfl rfl rfl ?_) | ((with_reducible refine g_assign ?_); first | refine lx_assign (r := (.t _)) rfl rfl rfl rfl rfl ?_ | refine lx_assign (r := (.ref _ _ _ _)) rfl rfl rfl rfl rfl ?_) | ((with_reducible refine g_pick ?_); first | refine lx_pickT (r := (.t _)) rfl rfl rfl rfl rfl rfl ?_ | refine lx_pickF (r := (.t _)) rfl rfl rfl rfl rfl rfl ?_) | ((with_reducible refine g_alloc ?_); first | refine lx_alloc rfl rfl rfl rfl rfl rfl rfl ?_) | ((with_reducible refine g_store ?_); first | refine lx_store_var (r := (.t (.agg _))) rfl rfl rfl rfl rfl rfl rfl rfl rfl rfl ?_) | ((with_reducible refine g_unOp ?_); first | refine lx_not rfl rfl rfl rfl rfl ?_) | ((with_reducible refine g_extract ?_); first | refine lx_extract rfl rfl rfl rfl rfl rfl ?_) | ((with_reducible refine g_buildSlice ?_); first | refine lx_buildSlice rfl rfl rfl rfl rfl rfl rfl ?_) | ((with_reducible refine g_len ?_); first | refine lx_len_map rfl rfl rfl rfl rfl ?_) | ((with_reducible refine g_call ?_); first | refine lx_callT rfl rfl hL rfl rfl (ArgsLE.refl _) rfl rfl rfl rfl rfl ?_ | refine lx_call (r' := .ref (.loc 900) 0 0 0) [(.res 0, .loc 900)] rfl rfl hR (ArgsLE.refl _) rfl trivial rfl rfl rfl rfl rfl rfl rfl rfl rfl rfl ?_ | refine lx_call (r' := .t (.agg [_, _, _, _, _, _])) [(.par 0, .loc 900)] rfl rfl hM (ArgsLE.refl _) rfl ⟨rfl, trivial⟩ rfl rfl rfl rfl rfl rfl rfl rfl rfl rfl ?_ | refine lx_call (r' := .t (.agg [_, _, _, _, _, _])) [(.par 0, .loc 900)] rfl rfl hX (ArgsLE.refl _) rfl ⟨rfl, trivial⟩ rfl rfl rfl rfl rfl rfl rfl rfl rfl rfl ?_ | refine lx_call (r' := .t (.str s)) [(.par 0, .loc 900), (.par 1, .loc 30)] rfl rfl hW (ArgsLE.refl _) rfl ⟨rfl, rfl, trivial⟩ rfl rfl rfl rfl rfl rfl rfl rfl rfl rfl ?_ | refine lx_call (r' := .tup [.t (.agg [_, _, _, _, _, _]), .t (.int .i64 0)]) [] rfl rfl hP (ArgsLE.refl _) rfl ⟨rfl, rfl, trivial⟩ rfl rfl rfl rfl rfl rfl rfl rfl rfl rfl ?_ | refine lx_callT rfl rfl hG rfl rfl (ArgsLE.refl _) rfl rfl rfl rfl rfl ?_ | refine lx_callT rfl rfl hG2 rfl rfl (ArgsLE.refl _) rfl rfl rfl rfl rfl ?_ | refine lx_callT rfl rfl hSm rfl rfl (ArgsLE.refl _) rfl rfl rfl rfl rfl ?_) | refine c_condN rfl (fun hc => ?_) (fun hc => ?_) | refine lx_splitN rfl (fun hc => ?_) (fun hc => ?_))
      all_goals try (exfalso; omega)
      refine codeT_ghost (ghost_keep2 [2, 4, 5, 6, 7, 94, 95, 96] [.loc 4, .loc 5, .loc 7, .par 100, .par 101] rfl rfl) ?_
      refine codeT_loop (fun p env st => ∃ (j : Nat), j ≤ m.names.length ∧ p = m.names.length - j ∧
          env = EnvL.get [(2, .t (.bool false)), (4, .ref (.loc 4) 0 0 0), (5, .ref (.loc 5) 0 0 0), (6, .t (.str s)), (7, .ref (.loc 7) 0 0 0), (94, .t (.sl 1 (m.names.map .str))), (95, .t (.int .i64 m.names.length)), (96, .t (.int .i64 (j : Int)))] ∧
          st = StO.get [(.loc 4, some (.var 26 [.t (.int .i64 m.kind), .t (.bool m.bool), .t (.int .i64 m.num), .t (.str m.text), .t (.sl 1 (m.names.map .str)), .t (.sl 6 (m.items.map Nd.toT))])), (.loc 5, some (.var 26 [.t (.int .i64 x.kind), .t (.bool x.bool), .t (.int .i64 x.num), .t (.str x.text), .t (.sl 1 (x.names.map .str)), .t (.sl 6 (x.items.map Nd.toT))])), (.loc 7, some (.var 26 [.t (.int .i64 y.kind), .t (.bool y.bool), .t (.int .i64 y.num), .t (.str y.text), .t (.sl 1 (y.names.map .str)), .t (.sl 6 (y.items.map Nd.toT))])), (.par 100, some (.dat (.fix 0 oF))), (.par 101, some (.dat (.fix 1 oA)))])
        ?_ (n := m.names.length) ⟨0, by omega, rfl, rfl, rfl⟩
      clear hc
      rintro p env st ⟨j, hj, rfl, rfl, rfl⟩
      by_cases hlt : j < m.names.length
      · have hsj : m.names[j]? = some (m.names.getD (j : Int).toNat default) := by simp [List.getD_eq_getElem?_getD, hlt]
        have hyj : y.names.getD (j : Int).toNat default = m.names.getD (j : Int).toNat default := by
          have := e4 j hlt
          simp only [List.getD_eq_getElem?_getD, Int.toNat_natCast, this]
        have e5 := e5 j (m.names.getD (j : Int).toNat default) hsj
        have hGj := get_spec y okY (m.names.getD (j : Int).toNat default)
        rw [y.toT_full] at hGj
        have eI := (m.items.getD (j : Int).toNat default).toT_full
        have okW := okI (j : Int).toNat
        have hlm : j < m.items.length := by omega
        by_cases hs2 : m.names.getD (j : Int).toNat default = s
        · generalize y.get (m.names.getD (j : Int).toNat default) = qz at hGj
          obtain ⟨z, zb⟩ := qz
          simp only at hGj
          rw [z.toT_full] at hGj
          repeat' (first | (with_reducible refine codeT_seq ?_) | (with_reducible refine codeT_block ?_) | (with_reducible refine codeT_skip ?_) | (with_reducible refine codeT_ret ?_) | (with_reducible refine codeT_exit ?_) | (with_reducible refine codeT_regionL ?_) | ((with_reducible refine codeT_region_drawL ?_ ?_); · rfl) | (with_reducible refine lx_nil ?_) | (with_reducible refine q_then ?_) | (with_reducible refine q_then_exit ?_) | (with_reducible refine q_then_ret ?_) | (with_reducible refine q_block ?_) | (with_reducible refine q_block_ret ?_) | ((with_reducible refine q_block_same ?_ ?_); · rfl) | (with_reducible refine q_loop_exit ?_) | (with_reducible refine q_loop_ret ?_) | ((with_reducible refine q_region_draw ?_ ?_); · rfl) | refine c_condT rfl ?_ | refine c_condF rfl ?_ | refine lx_load_tpAE rfl rfl eI rfl rfl rfl rfl rfl rfl ?_ | ((with_reducible refine g_guard ?_); first | refine lx_skip rfl rfl rfl ?_) | ((with_reducible refine g_move ?_); first | refine lx_move (r := (.t _)) rfl rfl rfl rfl rfl ?_ | refine lx_move (r := (.tup _)) rfl rfl rfl rfl rfl ?_) | ((with_reducible refine g_load ?_); first | refine lx_load_var rfl rfl rfl rfl rfl rfl rfl rfl ?_ | refine lx_load_varA (r := (.t (.agg _))) rfl rfl rfl rfl rfl rfl rfl rfl rfl ?_ | refine lx_load_tp rfl rfl rfl rfl rfl rfl rfl ?_) | ((with_reducible refine g_fieldAddr ?_); first | refine lx_fieldAddr rfl rfl rfl rfl rfl rfl rfl ?_) | ((with_reducible refine g_binOp ?_); first | refine lx_arith rfl rfl rfl rfl rfl rfl rfl ?_ | refine lx_str_ne rfl rfl rfl rfl rfl rfl ?_) | ((with_reducible refine g_assign ?_); first | refine lx_assign (r := (.t _)) rfl rfl rfl rfl rfl ?_) | ((with_reducible refine g_pick ?_); first | refine lx_pickT (r := (.t _)) rfl rfl rfl rfl rfl rfl ?_ | refine lx_pickF (r := (.t _)) rfl rfl rfl rfl rfl rfl ?_) | ((with_reducible refine g_alloc ?_); first | refine lx_alloc rfl rfl rfl rfl rfl rfl rfl ?_) | ((with_reducible refine g_store ?_); first | refine lx_store_var (r := (.t (.agg _))) rfl rfl rfl rfl rfl rfl rfl rfl rfl rfl ?_) | ((with_reducible refine g_indexAddr ?_); first | refine lx_indexAddr_map rfl rfl rfl rfl rfl rfl ?_ ?_ ?_) | ((with_reducible refine g_extract ?_); first | refine lx_extract rfl rfl rfl rfl rfl rfl ?_) | ((with_reducible refine g_call ?_); first | exact absurd hs2 ‹¬ m.names.getD (j : Int).toNat default = s› | exact absurd (Int.ofNat_lt.2 hlt) ‹¬ (j : Int) < (m.names.length : Int)› | refine lx_callT rfl rfl hGj rfl rfl (ArgsLE.refl _) rfl rfl rfl rfl rfl ?_) | refine c_condP rfl (fun hc => ?_) (fun hc => ?_) | refine lx_splitN rfl (fun hc => ?_) (fun hc => ?_))
          all_goals try (exfalso; first | exact absurd hs2 hc | exact absurd hyj hc | omega)
          all_goals try omega
          exact q_loop (n' := m.names.length - (j + 1)) (by omega) (ghost_keep2 [2, 4, 5, 6, 7, 94, 95, 96] [.loc 4, .loc 5, .loc 7, .par 100, .par 101] rfl rfl) ⟨j + 1, by omega, rfl, by rw [wrap64 (by omega) (by omega)]; rfl, rfl⟩
        · rw [e5 hs2] at hGj
          simp only at hGj
          have hSj := same_spec (m.items.getD (j : Int).toNat default) okW (m.items.getD (j : Int).toNat default)
          rw [Nd.same_refl] at hSj
          rw [show m.items.getD j default = m.items.getD (j : Int).toNat default from rfl, eI] at hGj
          rw [eI] at hSj
          repeat' (first | (with_reducible refine codeT_seq ?_) | (with_reducible refine codeT_block ?_) | (with_reducible refine codeT_skip ?_) | (with_reducible refine codeT_ret ?_) | (with_reducible refine codeT_exit ?_) | (with_reducible refine codeT_regionL ?_) | ((with_reducible refine codeT_region_drawL ?_ ?_); · rfl) | (with_reducible refine lx_nil ?_) | (with_reducible refine q_then ?_) | (with_reducible refine q_then_exit ?_) | (with_reducible refine q_then_ret ?_) | (with_reducible refine q_block ?_) | (with_reducible refine q_block_ret ?_) | ((with_reducible refine q_block_same ?_ ?_); · rfl) | (with_reducible refine q_loop_exit ?_) | (with_reducible refine q_loop_ret ?_) | ((with_reducible refine q_region_draw ?_ ?_); · rfl) | refine c_condT rfl ?_ | refine c_condF rfl ?_ | refine lx_load_tpAE rfl rfl eI rfl rfl rfl rfl rfl rfl ?_ | ((with_reducible refine g_guard ?_); first | refine lx_skip rfl rfl rfl ?_) | ((with_reducible refine g_move ?_); first | refine lx_move (r := (.t _)) rfl rfl rfl rfl rfl ?_ | refine lx_move (r := (.tup _)) rfl rfl rfl rfl rfl ?_) | ((with_reducible refine g_load ?_); first | refine lx_load_var rfl rfl rfl rfl rfl rfl rfl rfl ?_ | refine lx_load_varA (r := (.t (.agg _))) rfl rfl rfl rfl rfl rfl rfl rfl rfl ?_ | refine lx_load_tp rfl rfl rfl rfl rfl rfl rfl ?_) | ((with_reducible refine g_fieldAddr ?_); first | refine lx_fieldAddr rfl rfl rfl rfl rfl rfl rfl ?_) | ((with_reducible refine g_binOp ?_); first | refine lx_arith rfl rfl rfl rfl rfl rfl rfl ?_ | refine lx_str_ne rfl rfl rfl rfl rfl rfl ?_) | ((with_reducible refine g_assign ?_); first | refine lx_assign (r := (.t _)) rfl rfl rfl rfl rfl ?_) | ((with_reducible refine g_pick ?_); first | refine lx_pickT (r := (.t _)) rfl rfl rfl rfl rfl rfl ?_ | refine lx_pickF (r := (.t _)) rfl rfl rfl rfl rfl rfl ?_) | ((with_reducible refine g_alloc ?_); first | refine lx_alloc rfl rfl rfl rfl rfl rfl rfl ?_) | ((with_reducible refine g_store ?_); first | refine lx_store_var (r := (.t (.agg _))) rfl rfl rfl rfl rfl rfl rfl rfl rfl rfl ?_) | ((with_reducible refine g_indexAddr ?_); first | refine lx_indexAddr_map rfl rfl rfl rfl rfl rfl ?_ ?_ ?_) | ((with_reducible refine g_unOp ?_); first | refine lx_not rfl rfl rfl rfl rfl ?_) | ((with_reducible refine g_extract ?_); first | refine lx_extract rfl rfl rfl rfl rfl rfl ?_) | ((with_reducible refine g_call ?_); first | exact absurd (Int.ofNat_lt.2 hlt) ‹¬ (j : Int) < (m.names.length : Int)› | refine lx_callT rfl rfl hGj rfl rfl (ArgsLE.refl _) rfl rfl rfl rfl rfl ?_ | refine lx_callT rfl rfl hSj rfl rfl (ArgsLE.refl _) rfl rfl rfl rfl rfl ?_) | refine c_condP rfl (fun hc => ?_) (fun hc => ?_) | refine lx_splitN rfl (fun hc => ?_) (fun hc => ?_))
          all_goals try (exfalso; first | exact absurd hc hs2 | exact absurd hyj hc | omega)
          all_goals try omega
          exact q_loop (n' := m.names.length - (j + 1)) (by omega) (ghost_keep2 [2, 4, 5, 6, 7, 94, 95, 96] [.loc 4, .loc 5, .loc 7, .par 100, .par 101] rfl rfl) ⟨j + 1, by omega, rfl, by rw [wrap64 (by omega) (by omega)]; rfl, rfl⟩
      · repeat' (first | (with_reducible refine codeT_seq ?_) | (with_reducible refine codeT_block ?_) | (with_reducible refine codeT_skip ?_) | (with_reducible refine codeT_ret ?_) | (with_reducible refine codeT_exit ?_) | (with_reducible refine codeT_regionL ?_) | (with_reducible refine lx_nil ?_) | (with_reducible refine q_then ?_) | (with_reducible refine q_then_exit ?_) | ((with_reducible refine q_block_same ?_ ?_); · rfl) | (with_reducible refine q_loop_exit ?_) | ((with_reducible refine g_move ?_); first | refine lx_move (r := (.t _)) rfl rfl rfl rfl rfl ?_ | refine lx_move (r := (.tup _)) rfl rfl rfl rfl rfl ?_) | ((with_reducible refine g_load ?_); first | refine lx_load_varA (r := (.t (.agg _))) rfl rfl rfl rfl rfl rfl rfl rfl rfl ?_ | refine lx_load_tp rfl rfl rfl rfl rfl rfl rfl ?_) | ((with_reducible refine g_binOp ?_); first | refine lx_arith rfl rfl rfl rfl rfl rfl rfl ?_) | ((with_reducible refine g_assign ?_); first | refine lx_assign (r := (.t _)) rfl rfl rfl rfl rfl ?_) | ((with_reducible refine g_pick ?_); first | refine lx_pickT (r := (.t _)) rfl rfl rfl rfl rfl rfl ?_) | ((with_reducible refine g_alloc ?_); first | refine lx_alloc rfl rfl rfl rfl rfl rfl rfl ?_) | ((with_reducible refine g_store ?_); first | refine lx_store_var (r := (.t (.agg _))) rfl rfl rfl rfl rfl rfl rfl rfl rfl rfl ?_) | ((with_reducible refine g_indexAddr ?_); first | refine lx_indexAddr_map rfl rfl rfl rfl rfl rfl ?_ ?_ ?_) | ((with_reducible refine g_extract ?_); first | refine lx_extract rfl rfl rfl rfl rfl rfl ?_) | ((with_reducible refine g_call ?_); first | refine lx_call (r' := .tup [.t (.agg [_, _, _, _, _, _]), .t (.int .i64 0)]) [] rfl rfl hP2 (ArgsLE.refl _) rfl ⟨rfl, rfl, trivial⟩ rfl rfl rfl rfl rfl rfl rfl rfl rfl rfl ?_ | refine lx_callT rfl rfl hSy rfl rfl (ArgsLE.refl _) rfl rfl rfl rfl rfl ?_ | refine lx_call (r' := .t (.bool true)) [] rfl rfl hA (ArgsLE.refl _) rfl ⟨rfl, rfl, trivial⟩ rfl rfl rfl rfl rfl rfl rfl rfl rfl rfl ?_) | refine c_condP rfl (fun hc => ?_) (fun hc => ?_))
        all_goals try (exfalso; omega)
        exact q_ret (resT_oneE rfl rfl rfl) (stHas_spec ⟨rfl, rfl, trivial⟩)
  · rw [decide_eq_false hl] at hL
    refine spec_intro (env0 := [(0, _)]) (st0 := [(_, some _), (_, some _)]) Tryd.func4 rfl rfl rfl rfl ?_
    repeat' (first | (with_reducible refine codeT_seq ?_) | (with_reducible refine codeT_ret ?_) | (with_reducible refine codeT_regionL ?_) | (with_reducible refine lx_nil ?_) | (with_reducible refine q_then ?_) | (with_reducible refine q_then_ret ?_) | refine c_condT rfl ?_ | ((with_reducible refine g_move ?_); first | refine lx_move (r := (.t _)) rfl rfl rfl rfl rfl ?_) | ((with_reducible refine g_assign ?_); first | refine lx_assign (r := (.t _)) rfl rfl rfl rfl rfl ?_) | ((with_reducible refine g_unOp ?_); first | refine lx_not rfl rfl rfl rfl rfl ?_) | ((with_reducible refine g_call ?_); first | refine lx_callT rfl rfl hL rfl rfl (ArgsLE.refl _) rfl rfl rfl rfl rfl ?_ | refine lx_call (r' := .t (.bool true)) [] rfl rfl hA (ArgsLE.refl _) rfl ⟨rfl, rfl, trivial⟩ rfl rfl rfl rfl rfl rfl rfl rfl rfl rfl ?_))
    exact q_ret (resT_oneE rfl rfl rfl) (stHas_spec ⟨rfl, rfl, trivial⟩)
end Go.AL
