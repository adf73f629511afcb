/- What strconv.toError and strconv.Atoi answer; where the laid variables hold errors. -/
import Derived.Test.YtmidabiehblekaaDoorJsa
import Derived.Test.YtmidabiehblekaaDoorTy
import Derived.Test.YtmidabiehblekaaDoorNod2
import Derived.Test.YtmidabiehblekaaDoorAl4
import Derived.Test.YtmidabiehblekaaDoorJne
set_option linter.unusedVariables false
namespace Go.AL
open Go Go.Proofs Go.RowKit

structure EOk (oS oR : Obj) : Prop where
  s : isErrVar oS = true
  r : isErrVar oR = true
theorem err_cell {ob : Obj} {h : Heap} {m : Names} {w : World} {S : StL} {b : Nat} {id : Id} (he : isErrVar ob = true) (hs : Sim h m (StL.get S) w) (hS : StL.get S id = some (.dat (.fix b ob))) : ∃ ev, w.cell? ⟨b, 0, none⟩ = some ev ∧ (ev = .nilIface ∨ ∃ te pe, ev = .iface te pe) := by
  obtain ⟨t, u, h1⟩ := isErrVar_cell he (pow_row hs hS)
  exact ⟨_, h1, .inr ⟨t, u, rfl⟩⟩
/-- A call that changes nothing of what was there. -/
theorem Spec.of_belowS {P : Program} {f : FuncId} {args : List AV} {r : AV} {S : StL} (H : ∀ h m (vs : Array Value) w, Sim h m (StL.get S) w → vs.size = args.length → RepAs h m (fun j => vs[j]?) 0 args → Calls P f vs w fun e w' => ∃ v, e = .returned v ∧ (∀ h' m', RepA h' m' v r) ∧ Below w.heap.size w w') : Spec P f args S r S where
  run h m vs w hs hv hr := (H h m vs w hs hv hr).mono fun e w' ⟨v, he, hv', hb⟩ => by
    have := sim_below hs hb
    exact ⟨v, h, m, he, hv' h m, this.1, this.2⟩
theorem args5 {vs : Array Value} {a b c d e : Value} (hn : vs.size = 5) (h0 : vs[0]? = some a) (h1 : vs[1]? = some b) (h2 : vs[2]? = some c) (h3 : vs[3]? = some d) (h4 : vs[4]? = some e) : vs = #[a, b, c, d, e] := by
  apply Array.ext_getElem?
  intro i
  match i with
  | 0 => simpa using h0
  | 1 => simpa using h1
  | 2 => simpa using h2
  | 3 => simpa using h3
  | 4 => simpa using h4
  | i + 5 => simp [hn]
theorem toErrS_spec {oS oR : Obj} (G : EOk oS oR) (f s : ByteArray) (hs : s.size ≤ 281474976710656) (b c : Int) : Spec Tryd.prog 78 [.t (.str f), .t (.str s), .t (.int .i64 b), .t (.int .i64 c), .t (.ifi 115 .i64 2)] [(.par 103, .dat (.fix 3 oS)), (.par 104, .dat (.fix 4 oR))] (.t .iface) [(.par 103, .dat (.fix 3 oS)), (.par 104, .dat (.fix 4 oR))] :=
  Spec.of_belowS fun h m vs w hS hv hr => by
    simp only [RepAs, RepA, RepT, and_true] at hr
    obtain ⟨⟨u0, h0, rfl⟩, ⟨u1, h1, rfl⟩, ⟨u2, h2, rfl⟩, ⟨u3, h3, rfl⟩, u4, h4, rfl⟩ := hr
    obtain rfl := args5 hv h0 h1 h2 h3 h4
    obtain ⟨ev, e1, e2⟩ := err_cell G.s hS (id := .par 103) rfl
    exact (Any.strconv_toError_syntax { l172_lays with } f s b c ev w hs e1 e2).mono fun e w' ⟨N, he, _, _, hb⟩ => ⟨_, he, fun h' m' => by simp [RepA, RepT], hb⟩
theorem toErrR_spec {oS oR : Obj} (G : EOk oS oR) (f s : ByteArray) (hs : s.size ≤ 281474976710656) (b c : Int) : Spec Tryd.prog 78 [.t (.str f), .t (.str s), .t (.int .i64 b), .t (.int .i64 c), .t (.ifi 115 .i64 1)] [(.par 103, .dat (.fix 3 oS)), (.par 104, .dat (.fix 4 oR))] (.t .iface) [(.par 103, .dat (.fix 3 oS)), (.par 104, .dat (.fix 4 oR))] :=
  Spec.of_belowS fun h m vs w hS hv hr => by
    simp only [RepAs, RepA, RepT, and_true] at hr
    obtain ⟨⟨u0, h0, rfl⟩, ⟨u1, h1, rfl⟩, ⟨u2, h2, rfl⟩, ⟨u3, h3, rfl⟩, u4, h4, rfl⟩ := hr
    obtain rfl := args5 hv h0 h1 h2 h3 h4
    obtain ⟨ev, e1, e2⟩ := err_cell G.r hS (id := .par 104) rfl
    exact (Any.strconv_toError_range { l172_lays with } f s b c ev w hs e1 e2).mono fun e w' ⟨N, he, _, _, hb⟩ => ⟨_, he, fun h' m' => by simp [RepA, RepT], hb⟩
/-- An error, or none. -/
def eT (ok : Bool) : T := if ok then .nili else .iface
def jAtoi (l : List UInt8) : Int × Bool :=
  match Lib.atoiAll l with
  | .ok v => (v, true)
  | .range => (Lib.atoiSat l, false)
  | _ => (0, false)
theorem Atoi_spec {oS oR : Obj} (G : EOk oS oR) (s : ByteArray) (hs : s.size ≤ 281474976710656) : Spec Tryd.prog 64 [.t (.str s)] [(.par 103, .dat (.fix 3 oS)), (.par 104, .dat (.fix 4 oR))] (.tup [.t (.int .i64 (jAtoi s.data.toList).1), .t (eT (jAtoi s.data.toList).2)]) [(.par 103, .dat (.fix 3 oS)), (.par 104, .dat (.fix 4 oR))] :=
  Spec.of_belowS fun h m vs w hS hv hr => by
    obtain rfl := one_arg hv hr (u := .string s) fun v hv => by simpa [RepT] using hv
    obtain ⟨ev, e1, e2⟩ := err_cell G.s hS (id := .par 103) rfl
    obtain ⟨ev', e1', e2'⟩ := err_cell G.r hS (id := .par 104) rfl
    unfold jAtoi
    cases hA : Lib.atoiAll s.data.toList with
    | ok v =>
      refine (Any.strconv_Atoi_ok l172_lays s (by omega) v hA w).mono fun e w' ⟨he, hw⟩ => ⟨_, he, fun h' m' => by simp [RepA, RepAs, RepT, eT], ?_⟩
      rcases hw with rfl | ⟨t, rfl⟩
      · exact Below.refl _ _
      · exact Lib.bytesWorld_below _ _ _
    | range => exact (Any.strconv_Atoi_range l172_lays s hs hA ev' w e1' e2').mono fun e w' ⟨N, he, _, _, hb⟩ => ⟨_, he, fun h' m' => by simp [RepA, RepAs, RepT, eT], hb⟩
    | _ => exact (Any.strconv_Atoi_syntax l172_lays s hs hA ev w e1 e2).mono fun e w' ⟨N, he, _, _, hb⟩ => ⟨_, he, fun h' m' => by simp [RepA, RepAs, RepT, eT], hb⟩
end Go.AL
/- What strconv.ParseUint answers in base 16, with what it gives beside an error. -/
set_option linter.unusedVariables false
namespace Go.AL
open Go Go.Proofs Go.RowKit

/-- A byte in lower case. -/
def lowerI (c : Int) : Int := IntKind.u8.wrap ((BitVec.ofInt IntKind.u8.bits c ||| BitVec.ofInt IntKind.u8.bits 32).toNat : Int)
set_option maxHeartbeats 1000000 in
theorem lower_spec (c : Int) : Spec Tryd.prog 95 [.t (.int .u8 c)] [] (.t (.int .u8 (lowerI c))) [] := by
  refine spec_intro (env0 := [(0, _)]) (st0 := []) Tryd.func95 rfl rfl rfl rfl ?_
  repeat' (first | (with_reducible refine codeT_seq ?_) | (with_reducible refine codeT_ret ?_) | (with_reducible refine codeT_regionL ?_) | (with_reducible refine lx_nil ?_) | (with_reducible refine q_then ?_) | ((with_reducible refine g_move ?_); first | refine lx_move (r := (.t _)) rfl rfl rfl rfl rfl ?_) | ((with_reducible refine g_binOp ?_); first | refine lx_arith rfl rfl rfl rfl rfl rfl rfl ?_) | ((with_reducible refine g_assign ?_); first | refine lx_assign (r := (.t _)) rfl rfl rfl rfl rfl ?_))
  exact q_ret (resT_oneE rfl rfl rfl) (by simp)
theorem lowerI_nat : ∀ c : Fin 256, lowerI (c.val : Int) = ((lowN c.val : Nat) : Int) := by decide +kernel
/-- What is given beside an error. -/
def errV (mx : Nat) (k : Int) : Int := if k = 2 then 0 else mx
def pAV (mx : Nat) : Except Int Nat → AV
  | .ok n => .tup [.t (.int .u64 (n : Int)), .t .nili]
  | .error k => .tup [.t (.int .u64 (errV mx k)), .t (.ifi 115 .i64 k)]
theorem errV1 (mx : Nat) : errV mx 1 = mx := rfl
theorem errV2 (mx : Nat) : errV mx 2 = 0 := rfl
instance : CmpT Tryd.prog 115 := .of (by kernel_rfl)
set_option maxHeartbeats 8000000 in
theorem iParseUint_spec (s : ByteArray) (hs : s.size ≤ 1000000000) (h0 : s ≠ ⟨#[]⟩) (bits : Int) (mx : Nat) (hb : 1 ≤ bits ∧ bits ≤ 64) (hmx : mx ≤ 4294967295)
    (hm : IntKind.u64.wrap (IntKind.u64.wrap (1 * 2 ^ min bits.toNat IntKind.u64.bits) - 1) = (mx : Int)) :
    Spec Tryd.prog 84 [.t (.str s), .t (.int .i64 16), .t (.int .i64 bits)] [] (pAV mx (pgo mx s.data.toList 0)) [] := by
  have hw : IntKind.u64.wrap bits = bits := wrapU64 (by omega) (by omega)
  obtain ⟨R, hR⟩ : ∃ R, R = pgo mx s.data.toList 0 := ⟨_, rfl⟩
  rw [← hR]
  obtain ⟨X, hX⟩ : ∃ X, X = pAV mx R := ⟨_, rfl⟩
  rw [← hX]
  obtain ⟨L, hL⟩ : ∃ L, L = s.data.toList := ⟨_, rfl⟩
  have hLs : s.size = L.length := by rw [hL]; exact ba_len2 s
  rw [← hL] at hR
  refine spec_intro (env0 := [(0, _), (1, _), (2, _)]) (st0 := []) Tryd.func84 rfl rfl rfl rfl ?_
  repeat' (first | (with_reducible refine codeT_seq ?_) | (with_reducible refine codeT_block ?_) | (with_reducible refine codeT_skip ?_) | (with_reducible refine codeT_regionL ?_) | (with_reducible refine lx_nil ?_) | (with_reducible refine q_then ?_) | (with_reducible refine q_block ?_) | refine c_condT rfl ?_ | refine c_condF rfl ?_ | (exfalso; omega) | exact absurd ‹_› h0 | ((with_reducible refine g_move ?_); first | refine lx_move (r := (.t _)) rfl rfl rfl rfl rfl ?_) | ((with_reducible refine g_binOp ?_); first | refine lx_arith rfl rfl rfl rfl rfl rfl rfl ?_ | refine lx_str_eq rfl rfl rfl rfl rfl rfl ?_ | refine lx_shl rfl rfl rfl rfl rfl rfl ?_ ?_) | ((with_reducible refine g_assign ?_); first | refine lx_assign (r := (.t _)) rfl rfl rfl rfl rfl ?_) | ((with_reducible refine g_pick ?_); first | refine lx_pickT (r := (.t _)) rfl rfl rfl rfl rfl rfl ?_ | refine lx_pickF (r := (.t _)) rfl rfl rfl rfl rfl rfl ?_) | ((with_reducible refine g_convert ?_); first | refine lx_conv_int rfl rfl rfl rfl rfl ?_ | refine lx_toBytes rfl rfl rfl rfl rfl rfl ?_ ?_) | ((with_reducible refine g_len ?_); first | refine lx_len_rowmap rfl rfl rfl rfl rfl rfl ?_) | refine c_condP rfl (fun hc => ?_) (fun hc => ?_) | refine lx_splitP rfl (fun hc => ?_) (fun hc => ?_))
  all_goals try omega
  rw [show bytesT s = L.map u8T from by rw [hL]; rfl, ← hL, hw, hm]
  refine codeT_ghost (ghost_keep2 [1, 8, 9, 10, 11, 12, 13, 99, 100, 101] [.loc 99] rfl rfl) ?_
  refine codeT_loop (fun p env st => ∃ (j n : Nat), j ≤ L.length ∧ p = L.length - j ∧ n ≤ mx ∧ pgo mx (L.drop j) n = R ∧
      env = EnvL.get [(1, .t (.int .i64 16)), (8, .t (.bool false)), (9, .t (.str s)), (10, .t (.int .u64 1152921504606846976)), (11, .t (.int .u64 (mx : Int))), (12, .t (.bool false)), (13, .t (.int .u64 (n : Int))), (99, .row (.loc 99)), (100, .t (.int .i64 (L.length : Int))), (101, .t (.int .i64 (j : Int)))] ∧ st = StO.get [(.loc 99, some (.slt 5 1 (L.map u8T)))])
    ?_ (n := L.length) ⟨0, 0, by omega, rfl, by omega, hR.symm, rfl, rfl⟩
  rintro p env st ⟨j, n, hj, rfl, hn, hG, rfl, rfl⟩
  by_cases hlt : j < L.length
  · rw [drop_getD L j hlt, pgo] at hG
    obtain ⟨b, hbb⟩ : ∃ b, b = L.getD (j : Int).toNat default := ⟨_, rfl⟩
    rw [show L.getD j default = b from hbb.symm] at hG
    obtain ⟨c, hcc⟩ : ∃ c, c = b.toNat := ⟨_, rfl⟩
    have hc256 : c < 256 := by rw [hcc]; exact b.toNat_lt
    rw [← hcc] at hG
    have hCC : ((L.getD (j : Int).toNat default).toNat : Int) = (c : Int) := by rw [← hbb, hcc]
    have hlow := lower_spec ((L.getD (j : Int).toNat default).toNat : Int)
    rw [show lowerI ((L.getD (j : Int).toNat default).toNat : Int) = ((lowN c : Nat) : Int) from by rw [hCC]; exact lowerI_nat ⟨c, hc256⟩] at hlow
    have hlw := lowN_lt c hc256
    unfold hv at hG
    generalize lowN c = lw at *
    have hmul : IntKind.u64.wrap ((n : Int) * IntKind.u64.wrap 16) = ((16 * n : Nat) : Int) := by
      rw [show IntKind.u64.wrap 16 = 16 by decide, wrapU64 (by omega) (by omega)]; omega
    have w16 : IntKind.u8.wrap 16 = 16 := by decide
    have wj : IntKind.i64.wrap ((j : Int) + 1) = ((j + 1 : Nat) : Int) := by rw [wrap64 (by omega) (by omega)]; omega
    by_cases hA : 48 ≤ c ∧ c ≤ 57
    · rw [if_pos hA] at hG
      simp only at hG
      obtain ⟨dd, hdd⟩ : ∃ dd, dd = c - 48 := ⟨_, rfl⟩
      rw [← hdd] at hG
      have e1 : IntKind.u8.wrap (((L.getD (j : Int).toNat default).toNat : Int) - 48) = (dd : Int) := by rw [hCC, wrapU8 (by omega) (by omega)]; omega
      have eN : IntKind.u64.wrap (IntKind.u64.wrap ((n : Int) * IntKind.u64.wrap 16) + IntKind.u64.wrap (IntKind.u8.wrap (((L.getD (j : Int).toNat default).toNat : Int) - 48))) = ((16 * n + dd : Nat) : Int) := by
        rw [hmul, e1, wrapU64 (n := (dd : Int)) (by omega) (by omega), wrapU64 (by omega) (by omega)]; omega
      by_cases hov : mx < 16 * n + dd
      · rw [if_pos hov] at hG
        repeat' (first | (with_reducible refine codeT_seq ?_) | (with_reducible refine codeT_block ?_) | (with_reducible refine codeT_skip ?_) | (with_reducible refine codeT_ret ?_) | (with_reducible refine codeT_exit ?_) | (with_reducible refine codeT_regionL ?_) | (with_reducible refine lx_nil ?_) | (with_reducible refine q_then ?_) | (with_reducible refine q_then_exit ?_) | (with_reducible refine q_then_ret ?_) | (with_reducible refine q_block ?_) | (with_reducible refine q_block_ret ?_) | ((with_reducible refine q_block_same ?_ ?_); · rfl) | (with_reducible refine q_loop_exit ?_) | (with_reducible refine q_loop_ret ?_) | refine c_condF rfl ?_ | (exfalso; omega) | ((with_reducible refine g_guard ?_); first | refine lx_skip rfl rfl rfl ?_) | ((with_reducible refine g_move ?_); first | refine lx_move (r := (.t _)) rfl rfl rfl rfl rfl ?_) | ((with_reducible refine g_load ?_); first | refine lx_load_elsM rfl rfl rfl rfl rfl rfl rfl rfl ?_ ?_) | ((with_reducible refine g_binOp ?_); first | refine lx_arith rfl rfl rfl rfl rfl rfl rfl ?_) | ((with_reducible refine g_assign ?_); first | refine lx_assign (r := (.t _)) rfl rfl rfl rfl rfl ?_) | ((with_reducible refine g_pick ?_); first | refine lx_pickT (r := (.t _)) rfl rfl rfl rfl rfl rfl ?_ | refine lx_pickF (r := (.t _)) rfl rfl rfl rfl rfl rfl ?_) | ((with_reducible refine g_indexAddr ?_); first | refine lx_indexAddr_row rfl rfl rfl rfl rfl rfl rfl ?_ ?_ ?_) | ((with_reducible refine g_convert ?_); first | refine lx_conv_int rfl rfl rfl rfl rfl ?_) | ((with_reducible refine g_makeInterface ?_); first | refine lx_ifi rfl rfl rfl rfl rfl ?_) | refine c_condP rfl (fun hc => ?_) (fun hc => ?_) | refine lx_splitP rfl (fun hc => ?_) (fun hc => ?_))
        all_goals try omega
        all_goals try (simp only [List.length_map, Int.toNat_natCast]; omega)
        all_goals exact q_ret (by rw [hX, ← hG]; simp only [pAV, errV1, errV2]; exact resT_twoE rfl rfl rfl rfl rfl) (by simp)
      · rw [if_neg hov] at hG
        repeat' (first | (with_reducible refine codeT_seq ?_) | (with_reducible refine codeT_block ?_) | (with_reducible refine codeT_skip ?_) | (with_reducible refine codeT_exit ?_) | (with_reducible refine codeT_regionL ?_) | (with_reducible refine lx_nil ?_) | (with_reducible refine q_then ?_) | (with_reducible refine q_then_exit ?_) | (with_reducible refine q_block ?_) | ((with_reducible refine q_block_same ?_ ?_); · rfl) | (with_reducible refine q_loop_exit ?_) | refine c_condF rfl ?_ | (exfalso; omega) | ((with_reducible refine g_guard ?_); first | refine lx_skip rfl rfl rfl ?_) | ((with_reducible refine g_move ?_); first | refine lx_move (r := (.t _)) rfl rfl rfl rfl rfl ?_) | ((with_reducible refine g_load ?_); first | refine lx_load_elsM rfl rfl rfl rfl rfl rfl rfl rfl ?_ ?_) | ((with_reducible refine g_binOp ?_); first | refine lx_arith rfl rfl rfl rfl rfl rfl rfl ?_) | ((with_reducible refine g_assign ?_); first | refine lx_assign (r := (.t _)) rfl rfl rfl rfl rfl ?_) | ((with_reducible refine g_pick ?_); first | refine lx_pickT (r := (.t _)) rfl rfl rfl rfl rfl rfl ?_ | refine lx_pickF (r := (.t _)) rfl rfl rfl rfl rfl rfl ?_) | ((with_reducible refine g_indexAddr ?_); first | refine lx_indexAddr_row rfl rfl rfl rfl rfl rfl rfl ?_ ?_ ?_) | ((with_reducible refine g_convert ?_); first | refine lx_conv_int rfl rfl rfl rfl rfl ?_) | refine c_condP rfl (fun hc => ?_) (fun hc => ?_) | refine lx_splitP rfl (fun hc => ?_) (fun hc => ?_))
        all_goals try omega
        all_goals try (simp only [List.length_map, Int.toNat_natCast]; omega)
        all_goals exact q_loop (n' := L.length - (j + 1)) (by omega) (ghost_keep2 [1, 8, 9, 10, 11, 12, 13, 99, 100, 101] [.loc 99] rfl rfl) ⟨j + 1, 16 * n + dd, by omega, rfl, by omega, hG, by rw [eN, wj]; rfl, rfl⟩
    · rw [if_neg hA] at hG
      by_cases hB : 97 ≤ lw ∧ lw ≤ 102
      · rw [if_pos hB] at hG
        simp only at hG
        obtain ⟨dd, hdd⟩ : ∃ dd, dd = lw - 87 := ⟨_, rfl⟩
        rw [← hdd] at hG
        have e1 : IntKind.u8.wrap (IntKind.u8.wrap ((lw : Int) - 97) + 10) = (dd : Int) := by rw [wrapU8 (n := (lw : Int) - 97) (by omega) (by omega), wrapU8 (by omega) (by omega)]; omega
        have eN : IntKind.u64.wrap (IntKind.u64.wrap ((n : Int) * IntKind.u64.wrap 16) + IntKind.u64.wrap (IntKind.u8.wrap (IntKind.u8.wrap ((lw : Int) - 97) + 10))) = ((16 * n + dd : Nat) : Int) := by
          rw [hmul, e1, wrapU64 (n := (dd : Int)) (by omega) (by omega), wrapU64 (by omega) (by omega)]; omega
        by_cases hov : mx < 16 * n + dd
        · rw [if_pos hov] at hG
          repeat' (first | (with_reducible refine codeT_seq ?_) | (with_reducible refine codeT_block ?_) | (with_reducible refine codeT_skip ?_) | (with_reducible refine codeT_ret ?_) | (with_reducible refine codeT_exit ?_) | (with_reducible refine codeT_regionL ?_) | (with_reducible refine lx_nil ?_) | (with_reducible refine q_then ?_) | (with_reducible refine q_then_exit ?_) | (with_reducible refine q_then_ret ?_) | (with_reducible refine q_block ?_) | (with_reducible refine q_block_ret ?_) | ((with_reducible refine q_block_same ?_ ?_); · rfl) | (with_reducible refine q_loop_exit ?_) | (with_reducible refine q_loop_ret ?_) | refine c_condF rfl ?_ | (exfalso; omega) | ((with_reducible refine g_guard ?_); first | refine lx_skip rfl rfl rfl ?_) | ((with_reducible refine g_move ?_); first | refine lx_move (r := (.t _)) rfl rfl rfl rfl rfl ?_) | ((with_reducible refine g_load ?_); first | refine lx_load_elsM rfl rfl rfl rfl rfl rfl rfl rfl ?_ ?_) | ((with_reducible refine g_binOp ?_); first | refine lx_arith rfl rfl rfl rfl rfl rfl rfl ?_) | ((with_reducible refine g_assign ?_); first | refine lx_assign (r := (.t _)) rfl rfl rfl rfl rfl ?_) | ((with_reducible refine g_pick ?_); first | refine lx_pickT (r := (.t _)) rfl rfl rfl rfl rfl rfl ?_ | refine lx_pickF (r := (.t _)) rfl rfl rfl rfl rfl rfl ?_) | ((with_reducible refine g_indexAddr ?_); first | refine lx_indexAddr_row rfl rfl rfl rfl rfl rfl rfl ?_ ?_ ?_) | ((with_reducible refine g_convert ?_); first | refine lx_conv_int rfl rfl rfl rfl rfl ?_) | ((with_reducible refine g_call ?_); first | refine lx_callT rfl rfl hlow rfl rfl (ArgsLE.refl _) rfl rfl rfl rfl rfl ?_) | ((with_reducible refine g_makeInterface ?_); first | refine lx_ifi rfl rfl rfl rfl rfl ?_) | refine c_condP rfl (fun hc => ?_) (fun hc => ?_) | refine lx_splitP rfl (fun hc => ?_) (fun hc => ?_))
          all_goals try omega
          all_goals try (simp only [List.length_map, Int.toNat_natCast]; omega)
          all_goals exact q_ret (by rw [hX, ← hG]; simp only [pAV, errV1, errV2]; exact resT_twoE rfl rfl rfl rfl rfl) (by simp)
        · rw [if_neg hov] at hG
          repeat' (first | (with_reducible refine codeT_seq ?_) | (with_reducible refine codeT_block ?_) | (with_reducible refine codeT_skip ?_) | (with_reducible refine codeT_exit ?_) | (with_reducible refine codeT_regionL ?_) | (with_reducible refine lx_nil ?_) | (with_reducible refine q_then ?_) | (with_reducible refine q_then_exit ?_) | (with_reducible refine q_block ?_) | ((with_reducible refine q_block_same ?_ ?_); · rfl) | (with_reducible refine q_loop_exit ?_) | refine c_condF rfl ?_ | (exfalso; omega) | ((with_reducible refine g_guard ?_); first | refine lx_skip rfl rfl rfl ?_) | ((with_reducible refine g_move ?_); first | refine lx_move (r := (.t _)) rfl rfl rfl rfl rfl ?_) | ((with_reducible refine g_load ?_); first | refine lx_load_elsM rfl rfl rfl rfl rfl rfl rfl rfl ?_ ?_) | ((with_reducible refine g_binOp ?_); first | refine lx_arith rfl rfl rfl rfl rfl rfl rfl ?_) | ((with_reducible refine g_assign ?_); first | refine lx_assign (r := (.t _)) rfl rfl rfl rfl rfl ?_) | ((with_reducible refine g_pick ?_); first | refine lx_pickT (r := (.t _)) rfl rfl rfl rfl rfl rfl ?_ | refine lx_pickF (r := (.t _)) rfl rfl rfl rfl rfl rfl ?_) | ((with_reducible refine g_indexAddr ?_); first | refine lx_indexAddr_row rfl rfl rfl rfl rfl rfl rfl ?_ ?_ ?_) | ((with_reducible refine g_convert ?_); first | refine lx_conv_int rfl rfl rfl rfl rfl ?_) | ((with_reducible refine g_call ?_); first | refine lx_callT rfl rfl hlow rfl rfl (ArgsLE.refl _) rfl rfl rfl rfl rfl ?_) | refine c_condP rfl (fun hc => ?_) (fun hc => ?_) | refine lx_splitP rfl (fun hc => ?_) (fun hc => ?_))
          all_goals try omega
          all_goals try (simp only [List.length_map, Int.toNat_natCast]; omega)
          all_goals exact q_loop (n' := L.length - (j + 1)) (by omega) (ghost_keep2 [1, 8, 9, 10, 11, 12, 13, 99, 100, 101] [.loc 99] rfl rfl) ⟨j + 1, 16 * n + dd, by omega, rfl, by omega, hG, by rw [eN, wj]; rfl, rfl⟩
      · rw [if_neg hB] at hG
        simp only at hG
        by_cases hC : 97 ≤ lw ∧ lw ≤ 122
        · have e1 : IntKind.u8.wrap (IntKind.u8.wrap ((lw : Int) - 97) + 10) = ((lw - 87 : Nat) : Int) := by rw [wrapU8 (n := (lw : Int) - 97) (by omega) (by omega), wrapU8 (by omega) (by omega)]; omega
          repeat' (first | (with_reducible refine codeT_seq ?_) | (with_reducible refine codeT_block ?_) | (with_reducible refine codeT_skip ?_) | (with_reducible refine codeT_ret ?_) | (with_reducible refine codeT_exit ?_) | (with_reducible refine codeT_regionL ?_) | (with_reducible refine lx_nil ?_) | (with_reducible refine q_then ?_) | (with_reducible refine q_then_exit ?_) | (with_reducible refine q_then_ret ?_) | (with_reducible refine q_block ?_) | (with_reducible refine q_block_ret ?_) | ((with_reducible refine q_block_same ?_ ?_); · rfl) | (with_reducible refine q_loop_exit ?_) | (with_reducible refine q_loop_ret ?_) | refine c_condF rfl ?_ | (exfalso; omega) | ((with_reducible refine g_guard ?_); first | refine lx_skip rfl rfl rfl ?_) | ((with_reducible refine g_move ?_); first | refine lx_move (r := (.t _)) rfl rfl rfl rfl rfl ?_) | ((with_reducible refine g_load ?_); first | refine lx_load_elsM rfl rfl rfl rfl rfl rfl rfl rfl ?_ ?_) | ((with_reducible refine g_binOp ?_); first | refine lx_arith rfl rfl rfl rfl rfl rfl rfl ?_) | ((with_reducible refine g_assign ?_); first | refine lx_assign (r := (.t _)) rfl rfl rfl rfl rfl ?_) | ((with_reducible refine g_pick ?_); first | refine lx_pickT (r := (.t _)) rfl rfl rfl rfl rfl rfl ?_ | refine lx_pickF (r := (.t _)) rfl rfl rfl rfl rfl rfl ?_) | ((with_reducible refine g_indexAddr ?_); first | refine lx_indexAddr_row rfl rfl rfl rfl rfl rfl rfl ?_ ?_ ?_) | ((with_reducible refine g_convert ?_); first | refine lx_conv_int rfl rfl rfl rfl rfl ?_) | ((with_reducible refine g_call ?_); first | refine lx_callT rfl rfl hlow rfl rfl (ArgsLE.refl _) rfl rfl rfl rfl rfl ?_) | ((with_reducible refine g_makeInterface ?_); first | refine lx_ifi rfl rfl rfl rfl rfl ?_) | refine c_condP rfl (fun hc => ?_) (fun hc => ?_) | refine lx_splitP rfl (fun hc => ?_) (fun hc => ?_))
          all_goals try omega
          all_goals try (simp only [List.length_map, Int.toNat_natCast]; omega)
          all_goals exact q_ret (by rw [hX, ← hG]; simp only [pAV, errV1, errV2]; exact resT_twoE rfl rfl rfl rfl rfl) (by simp)
        · repeat' (first | (with_reducible refine codeT_seq ?_) | (with_reducible refine codeT_block ?_) | (with_reducible refine codeT_skip ?_) | (with_reducible refine codeT_ret ?_) | (with_reducible refine codeT_exit ?_) | (with_reducible refine codeT_regionL ?_) | (with_reducible refine lx_nil ?_) | (with_reducible refine q_then ?_) | (with_reducible refine q_then_exit ?_) | (with_reducible refine q_then_ret ?_) | (with_reducible refine q_block_ret ?_) | ((with_reducible refine q_block_same ?_ ?_); · rfl) | (with_reducible refine q_loop_exit ?_) | (with_reducible refine q_loop_ret ?_) | refine c_condF rfl ?_ | (exfalso; omega) | ((with_reducible refine g_guard ?_); first | refine lx_skip rfl rfl rfl ?_) | ((with_reducible refine g_move ?_); first | refine lx_move (r := (.t _)) rfl rfl rfl rfl rfl ?_) | ((with_reducible refine g_load ?_); first | refine lx_load_elsM rfl rfl rfl rfl rfl rfl rfl rfl ?_ ?_) | ((with_reducible refine g_binOp ?_); first | refine lx_arith rfl rfl rfl rfl rfl rfl rfl ?_) | ((with_reducible refine g_assign ?_); first | refine lx_assign (r := (.t _)) rfl rfl rfl rfl rfl ?_) | ((with_reducible refine g_pick ?_); first | refine lx_pickT (r := (.t _)) rfl rfl rfl rfl rfl rfl ?_ | refine lx_pickF (r := (.t _)) rfl rfl rfl rfl rfl rfl ?_) | ((with_reducible refine g_indexAddr ?_); first | refine lx_indexAddr_row rfl rfl rfl rfl rfl rfl rfl ?_ ?_ ?_) | ((with_reducible refine g_call ?_); first | refine lx_callT rfl rfl hlow rfl rfl (ArgsLE.refl _) rfl rfl rfl rfl rfl ?_) | ((with_reducible refine g_makeInterface ?_); first | refine lx_ifi rfl rfl rfl rfl rfl ?_) | refine c_condP rfl (fun hc => ?_) (fun hc => ?_) | refine lx_splitP rfl (fun hc => ?_) (fun hc => ?_))
          all_goals try omega
          all_goals try (simp only [List.length_map, Int.toNat_natCast]; omega)
          all_goals exact q_ret (by rw [hX, ← hG]; simp only [pAV, errV1, errV2]; exact resT_twoE rfl rfl rfl rfl rfl) (by simp)
  · obtain rfl : j = L.length := by omega
    rw [List.drop_length, pgo] at hG
    repeat' (first | (with_reducible refine codeT_seq ?_) | (with_reducible refine codeT_block ?_) | (with_reducible refine codeT_skip ?_) | (with_reducible refine codeT_ret ?_) | (with_reducible refine codeT_exit ?_) | (with_reducible refine codeT_regionL ?_) | (with_reducible refine lx_nil ?_) | (with_reducible refine q_then ?_) | (with_reducible refine q_then_exit ?_) | ((with_reducible refine q_block_same ?_ ?_); · rfl) | (with_reducible refine q_loop_exit ?_) | refine c_condF rfl ?_ | (exfalso; omega) | ((with_reducible refine g_guard ?_); first | refine lx_skip rfl rfl rfl ?_) | ((with_reducible refine g_move ?_); first | refine lx_move (r := (.t _)) rfl rfl rfl rfl rfl ?_) | ((with_reducible refine g_binOp ?_); first | refine lx_arith rfl rfl rfl rfl rfl rfl rfl ?_) | ((with_reducible refine g_assign ?_); first | refine lx_assign (r := (.t _)) rfl rfl rfl rfl rfl ?_) | ((with_reducible refine g_pick ?_); first | refine lx_pickF (r := (.t _)) rfl rfl rfl rfl rfl rfl ?_) | refine c_condP rfl (fun hc => ?_) (fun hc => ?_))
    all_goals try omega
    all_goals exact q_ret (by rw [hX, ← hG]; exact resT_two rfl (AVLE.refl _) (AVLE.refl _)) (by simp)
set_option maxHeartbeats 2000000 in
theorem iParseUint_nil (bits : Int) : Spec Tryd.prog 84 [.t (.str eS), .t (.int .i64 16), .t (.int .i64 bits)] [] (.tup [.t (.int .u64 0), .t (.ifi 115 .i64 2)]) [] := by
  refine spec_intro (env0 := [(0, _), (1, _), (2, _)]) (st0 := []) Tryd.func84 rfl rfl rfl rfl ?_
  repeat' (first | (with_reducible refine codeT_seq ?_) | (with_reducible refine codeT_ret ?_) | (with_reducible refine codeT_regionL ?_) | (with_reducible refine lx_nil ?_) | (with_reducible refine q_then ?_) | (with_reducible refine q_then_ret ?_) | refine c_condT rfl ?_ | ((with_reducible refine g_move ?_); first | refine lx_move (r := (.t _)) rfl rfl rfl rfl rfl ?_) | ((with_reducible refine g_binOp ?_); first | refine lx_str_eq rfl rfl rfl rfl rfl rfl ?_) | ((with_reducible refine g_assign ?_); first | refine lx_assign (r := (.t _)) rfl rfl rfl rfl rfl ?_) | ((with_reducible refine g_makeInterface ?_); first | refine lx_ifi rfl rfl rfl rfl rfl ?_))
  all_goals exact q_ret (resT_twoE rfl rfl rfl rfl rfl) (by simp)
set_option maxHeartbeats 2000000 in
theorem ParseUint_spec {oS oR : Obj} (G : EOk oS oR) (s : ByteArray) (hs : s.size ≤ 1000000000) :
    Spec Tryd.prog 76 [.t (.str s), .t (.int .i64 16), .t (.int .i64 8)] [(.par 103, .dat (.fix 3 oS)), (.par 104, .dat (.fix 4 oR))] (.tup [.t (.int .u64 (pu8 s).1), .t (eT (pu8 s).2)]) [(.par 103, .dat (.fix 3 oS)), (.par 104, .dat (.fix 4 oR))] := by
  unfold pu8
  have hE2 := toErrS_spec G ⟨#[80, 97, 114, 115, 101, 85, 105, 110, 116]⟩ s (by omega) 16 8
  have hE1 := toErrR_spec G ⟨#[80, 97, 114, 115, 101, 85, 105, 110, 116]⟩ s (by omega) 16 8
  by_cases h0 : s = eS
  · subst h0
    rw [if_pos rfl]
    have h := iParseUint_nil 8
    refine spec_intro (env0 := [(0, _), (1, _), (2, _)]) (st0 := [(_, some _), (_, some _)]) Tryd.func76 rfl rfl rfl rfl ?_
    repeat' (first | (with_reducible refine codeT_seq ?_) | (with_reducible refine codeT_ret ?_) | (with_reducible refine codeT_regionL ?_) | (with_reducible refine lx_nil ?_) | (with_reducible refine q_then ?_) | (with_reducible refine q_then_ret ?_) | refine c_condT rfl ?_ | ((with_reducible refine g_move ?_); first | refine lx_move (r := (.t _)) rfl rfl rfl rfl rfl ?_ | refine lx_move (r := (.tup _)) rfl rfl rfl rfl rfl ?_) | ((with_reducible refine g_assign ?_); first | refine lx_assign (r := (.t _)) rfl rfl rfl rfl rfl ?_) | ((with_reducible refine g_extract ?_); first | refine lx_extract rfl rfl rfl rfl rfl rfl ?_) | ((with_reducible refine g_call ?_); first | refine lx_callT rfl rfl h rfl rfl (ArgsLE.refl _) rfl rfl rfl rfl rfl ?_ | refine lx_call (r' := (.t .iface)) [] rfl rfl hE2 (ArgsLE.refl _) rfl ⟨rfl, rfl, trivial⟩ rfl rfl rfl rfl rfl rfl rfl rfl rfl rfl ?_) | ((with_reducible refine g_binOp ?_); first | refine lx_ifnil_ne rfl rfl rfl rfl rfl rfl ?_))
    exact q_ret (resT_twoE rfl rfl rfl rfl rfl) (stHas_spec ⟨rfl, rfl, trivial⟩)
  rw [if_neg h0]
  have h := iParseUint_spec s hs h0 8 255 (by omega) (by omega) (by decide)
  have hk := pgo_err 255 s.data.toList 0
  generalize pgo 255 s.data.toList 0 = R at *
  cases R with
  | ok n =>
    simp only [pAV] at h
    refine spec_intro (env0 := [(0, _), (1, _), (2, _)]) (st0 := [(_, some _), (_, some _)]) Tryd.func76 rfl rfl rfl rfl ?_
    repeat' (first | (with_reducible refine codeT_seq ?_) | (with_reducible refine codeT_skip ?_) | (with_reducible refine codeT_ret ?_) | (with_reducible refine codeT_regionL ?_) | (with_reducible refine lx_nil ?_) | (with_reducible refine q_then ?_) | refine c_condF rfl ?_ | ((with_reducible refine g_move ?_); first | refine lx_move (r := (.t _)) rfl rfl rfl rfl rfl ?_ | refine lx_move (r := (.tup _)) rfl rfl rfl rfl rfl ?_) | ((with_reducible refine g_assign ?_); first | refine lx_assign (r := (.t _)) rfl rfl rfl rfl rfl ?_) | ((with_reducible refine g_extract ?_); first | refine lx_extract rfl rfl rfl rfl rfl rfl ?_) | ((with_reducible refine g_call ?_); first | refine lx_callT rfl rfl h rfl rfl (ArgsLE.refl _) rfl rfl rfl rfl rfl ?_) | ((with_reducible refine g_binOp ?_); first | refine lx_ifnil_ne rfl rfl rfl rfl rfl rfl ?_))
    exact q_ret (resT_twoE rfl rfl rfl rfl rfl) (stHas_spec ⟨rfl, rfl, trivial⟩)
  | error k =>
    simp only [pAV] at h
    rcases hk k rfl with rfl | rfl
    · rw [errV1] at h
      refine spec_intro (env0 := [(0, _), (1, _), (2, _)]) (st0 := [(_, some _), (_, some _)]) Tryd.func76 rfl rfl rfl rfl ?_
      repeat' (first | (with_reducible refine codeT_seq ?_) | (with_reducible refine codeT_ret ?_) | (with_reducible refine codeT_regionL ?_) | (with_reducible refine lx_nil ?_) | (with_reducible refine q_then ?_) | (with_reducible refine q_then_ret ?_) | refine c_condT rfl ?_ | ((with_reducible refine g_move ?_); first | refine lx_move (r := (.t _)) rfl rfl rfl rfl rfl ?_ | refine lx_move (r := (.tup _)) rfl rfl rfl rfl rfl ?_) | ((with_reducible refine g_assign ?_); first | refine lx_assign (r := (.t _)) rfl rfl rfl rfl rfl ?_) | ((with_reducible refine g_extract ?_); first | refine lx_extract rfl rfl rfl rfl rfl rfl ?_) | ((with_reducible refine g_call ?_); first | refine lx_callT rfl rfl h rfl rfl (ArgsLE.refl _) rfl rfl rfl rfl rfl ?_ | refine lx_call (r' := (.t .iface)) [] rfl rfl hE1 (ArgsLE.refl _) rfl ⟨rfl, rfl, trivial⟩ rfl rfl rfl rfl rfl rfl rfl rfl rfl rfl ?_) | ((with_reducible refine g_binOp ?_); first | refine lx_ifnil_ne rfl rfl rfl rfl rfl rfl ?_))
      exact q_ret (resT_twoE rfl rfl rfl rfl rfl) (stHas_spec ⟨rfl, rfl, trivial⟩)
    · rw [errV2] at h
      refine spec_intro (env0 := [(0, _), (1, _), (2, _)]) (st0 := [(_, some _), (_, some _)]) Tryd.func76 rfl rfl rfl rfl ?_
      repeat' (first | (with_reducible refine codeT_seq ?_) | (with_reducible refine codeT_ret ?_) | (with_reducible refine codeT_regionL ?_) | (with_reducible refine lx_nil ?_) | (with_reducible refine q_then ?_) | (with_reducible refine q_then_ret ?_) | refine c_condT rfl ?_ | ((with_reducible refine g_move ?_); first | refine lx_move (r := (.t _)) rfl rfl rfl rfl rfl ?_ | refine lx_move (r := (.tup _)) rfl rfl rfl rfl rfl ?_) | ((with_reducible refine g_assign ?_); first | refine lx_assign (r := (.t _)) rfl rfl rfl rfl rfl ?_) | ((with_reducible refine g_extract ?_); first | refine lx_extract rfl rfl rfl rfl rfl rfl ?_) | ((with_reducible refine g_call ?_); first | refine lx_callT rfl rfl h rfl rfl (ArgsLE.refl _) rfl rfl rfl rfl rfl ?_ | refine lx_call (r' := (.t .iface)) [] rfl rfl hE2 (ArgsLE.refl _) rfl ⟨rfl, rfl, trivial⟩ rfl rfl rfl rfl rfl rfl rfl rfl rfl rfl ?_) | ((with_reducible refine g_binOp ?_); first | refine lx_ifnil_ne rfl rfl rfl rfl rfl rfl ?_))
      exact q_ret (resT_twoE rfl rfl rfl rfl rfl) (stHas_spec ⟨rfl, rfl, trivial⟩)
end Go.AL
/- What json's reader answers: skip, expect, escape. -/
set_option linter.unusedVariables false
namespace Go.AL
open Go Go.Proofs Go.RowKit

set_option maxHeartbeats 2000000 in
theorem sHasPrefix_spec (s t : ByteArray) : Spec Tryd.prog 61 [.t (.str s), .t (.str t)] [] (.t (.bool (hasP s t))) [] := by
  unfold hasP
  by_cases h : t.size ≤ s.size
  · rw [decide_eq_true h, Bool.true_and]
    refine spec_intro (env0 := [(0, _), (1, _)]) (st0 := []) Tryd.func61 rfl rfl rfl rfl ?_
    repeat' (first | (with_reducible refine codeT_seq ?_) | (with_reducible refine codeT_ret ?_) | (with_reducible refine codeT_regionL ?_) | (with_reducible refine lx_nil ?_) | (with_reducible refine q_then ?_) | (exfalso; omega) | ((with_reducible refine g_move ?_); first | refine lx_move (r := (.t _)) rfl rfl rfl rfl rfl ?_) | ((with_reducible refine g_binOp ?_); first | refine lx_arith rfl rfl rfl rfl rfl rfl rfl ?_ | refine lx_str_eq rfl rfl rfl rfl rfl rfl ?_) | ((with_reducible refine g_assign ?_); first | refine lx_assign (r := (.t _)) rfl rfl rfl rfl rfl ?_) | ((with_reducible refine g_pick ?_); first | refine lx_pickT (r := (.t _)) rfl rfl rfl rfl rfl rfl ?_) | ((with_reducible refine g_slice ?_); first | refine lx_slice_str rfl rfl rfl ⟨_, rfl⟩ rfl rfl rfl ?_ ?_ ?_ ?_) | ((with_reducible refine g_len ?_); first | refine lx_len_str rfl rfl rfl rfl rfl ?_) | refine lx_splitP rfl (fun hc => ?_) (fun hc => ?_))
    all_goals try omega
    all_goals exact q_ret (resT_oneE rfl rfl (by simp_all)) (by simp)
  · rw [decide_eq_false h, Bool.false_and]
    refine spec_intro (env0 := [(0, _), (1, _)]) (st0 := []) Tryd.func61 rfl rfl rfl rfl ?_
    repeat' (first | (with_reducible refine codeT_seq ?_) | (with_reducible refine codeT_ret ?_) | (with_reducible refine codeT_regionL ?_) | (with_reducible refine lx_nil ?_) | (with_reducible refine q_then ?_) | (exfalso; omega) | ((with_reducible refine g_guard ?_); first | refine lx_skip rfl rfl rfl ?_) | ((with_reducible refine g_move ?_); first | refine lx_move (r := (.t _)) rfl rfl rfl rfl rfl ?_) | ((with_reducible refine g_binOp ?_); first | refine lx_arith rfl rfl rfl rfl rfl rfl rfl ?_) | ((with_reducible refine g_assign ?_); first | refine lx_assign (r := (.t _)) rfl rfl rfl rfl rfl ?_) | ((with_reducible refine g_pick ?_); first | refine lx_pickF (r := (.t _)) rfl rfl rfl rfl rfl rfl ?_) | ((with_reducible refine g_len ?_); first | refine lx_len_str rfl rfl rfl rfl rfl ?_) | refine lx_splitP rfl (fun hc => ?_) (fun hc => ?_))
    all_goals try omega
    all_goals exact q_ret (resT_oneE rfl rfl (by simp_all)) (by simp)
set_option maxHeartbeats 2000000 in
theorem HasPrefix_spec (s t : ByteArray) : Spec Tryd.prog 44 [.t (.str s), .t (.str t)] [] (.t (.bool (hasP s t))) [] := by
  have h := sHasPrefix_spec s t
  refine spec_intro (env0 := [(0, _), (1, _)]) (st0 := []) Tryd.func44 rfl rfl rfl rfl ?_
  repeat' (first | (with_reducible refine codeT_seq ?_) | (with_reducible refine codeT_ret ?_) | (with_reducible refine codeT_regionL ?_) | (with_reducible refine lx_nil ?_) | (with_reducible refine q_then ?_) | ((with_reducible refine g_move ?_); first | refine lx_move (r := (.t _)) rfl rfl rfl rfl rfl ?_) | ((with_reducible refine g_assign ?_); first | refine lx_assign (r := (.t _)) rfl rfl rfl rfl rfl ?_) | ((with_reducible refine g_call ?_); first | refine lx_callT rfl rfl h rfl rfl (ArgsLE.refl _) rfl rfl rfl rfl rfl ?_))
  exact q_ret (resT_oneE rfl rfl rfl) (by simp)
/-- What is left behind a prefix. -/
def cutP (s t : ByteArray) : ByteArray := if hasP s t = true then s.extract t.size s.size else s
set_option maxHeartbeats 2000000 in
theorem sCutPrefix_spec (s t : ByteArray) (hs : s.size ≤ 1000000000) : Spec Tryd.prog 75 [.t (.str s), .t (.str t)] [] (.tup [.t (.str (cutP s t)), .t (.bool (hasP s t))]) [] := by
  have h := sHasPrefix_spec s t
  unfold cutP
  cases hp : hasP s t with
  | true =>
    rw [hp] at h
    have hsz : t.size ≤ s.size := by
      unfold hasP at hp
      simp only [Bool.and_eq_true, decide_eq_true_eq] at hp
      exact hp.1
    rw [if_pos rfl]
    refine spec_intro (env0 := [(0, _), (1, _)]) (st0 := []) Tryd.func75 rfl rfl rfl rfl ?_
    repeat' (first | (with_reducible refine codeT_seq ?_) | (with_reducible refine codeT_skip ?_) | (with_reducible refine codeT_ret ?_) | (with_reducible refine codeT_regionL ?_) | (with_reducible refine lx_nil ?_) | (with_reducible refine q_then ?_) | refine c_condF rfl ?_ | ((with_reducible refine g_move ?_); first | refine lx_move (r := (.t _)) rfl rfl rfl rfl rfl ?_) | ((with_reducible refine g_assign ?_); first | refine lx_assign (r := (.t _)) rfl rfl rfl rfl rfl ?_) | ((with_reducible refine g_unOp ?_); first | refine lx_not rfl rfl rfl rfl rfl ?_) | ((with_reducible refine g_slice ?_); first | refine lx_slice_str rfl rfl ⟨_, rfl⟩ rfl rfl rfl rfl ?_ ?_ ?_ ?_) | ((with_reducible refine g_len ?_); first | refine lx_len_str rfl rfl rfl rfl rfl ?_) | ((with_reducible refine g_call ?_); first | refine lx_callT rfl rfl h rfl rfl (ArgsLE.refl _) rfl rfl rfl rfl rfl ?_))
    all_goals try omega
    exact q_ret (resT_twoE rfl rfl rfl rfl rfl) (by simp)
  | false =>
    rw [hp] at h
    rw [if_neg (by simp)]
    refine spec_intro (env0 := [(0, _), (1, _)]) (st0 := []) Tryd.func75 rfl rfl rfl rfl ?_
    repeat' (first | (with_reducible refine codeT_seq ?_) | (with_reducible refine codeT_ret ?_) | (with_reducible refine codeT_regionL ?_) | (with_reducible refine lx_nil ?_) | (with_reducible refine q_then ?_) | (with_reducible refine q_then_ret ?_) | refine c_condT rfl ?_ | ((with_reducible refine g_move ?_); first | refine lx_move (r := (.t _)) rfl rfl rfl rfl rfl ?_) | ((with_reducible refine g_assign ?_); first | refine lx_assign (r := (.t _)) rfl rfl rfl rfl rfl ?_) | ((with_reducible refine g_unOp ?_); first | refine lx_not rfl rfl rfl rfl rfl ?_) | ((with_reducible refine g_call ?_); first | refine lx_callT rfl rfl h rfl rfl (ArgsLE.refl _) rfl rfl rfl rfl rfl ?_))
    all_goals try omega
    exact q_ret (resT_twoE rfl rfl rfl rfl rfl) (by simp)
set_option maxHeartbeats 2000000 in
theorem CutPrefix_spec (s t : ByteArray) (hs : s.size ≤ 1000000000) : Spec Tryd.prog 59 [.t (.str s), .t (.str t)] [] (.tup [.t (.str (cutP s t)), .t (.bool (hasP s t))]) [] := by
  have h := sCutPrefix_spec s t hs
  refine spec_intro (env0 := [(0, _), (1, _)]) (st0 := []) Tryd.func59 rfl rfl rfl rfl ?_
  repeat' (first | (with_reducible refine codeT_seq ?_) | (with_reducible refine codeT_ret ?_) | (with_reducible refine codeT_regionL ?_) | (with_reducible refine lx_nil ?_) | (with_reducible refine q_then ?_) | ((with_reducible refine g_move ?_); first | refine lx_move (r := (.t _)) rfl rfl rfl rfl rfl ?_) | ((with_reducible refine g_assign ?_); first | refine lx_assign (r := (.t _)) rfl rfl rfl rfl rfl ?_) | ((with_reducible refine g_extract ?_); first | refine lx_extract rfl rfl rfl rfl rfl rfl ?_) | ((with_reducible refine g_call ?_); first | refine lx_callT rfl rfl h rfl rfl (ArgsLE.refl _) rfl rfl rfl rfl rfl ?_))
  exact q_ret (resT_twoE rfl rfl rfl rfl rfl) (by simp)
set_option maxHeartbeats 4000000 in
theorem jSkip_spec (r : Rs) (t : ByteArray) (hs : r.s.size ≤ 1000000000) : Spec Tryd.prog 42 [.ref (.par 0) 0 0 0, .t (.str t)] [(.par 0, r.row 60)] (.t (.bool (r.skip t).1)) [(.par 0, (r.skip t).2.row 60)] := by
  have h := CutPrefix_spec r.s t hs
  obtain ⟨s, bad⟩ := r
  simp only at h hs
  unfold Rs.skip cutP Rs.row at *
  simp only
  generalize hasP s t = hp at *
  cases hp <;> cases bad
  all_goals simp only [Bool.not_true, Bool.not_false, Bool.and_true, Bool.and_false, Bool.true_and, Bool.false_and, if_true, Bool.false_eq_true, if_false] at h ⊢
  · refine spec_intro (env0 := [(0, _), (1, _)]) (st0 := [(_, some _)]) Tryd.func42 rfl rfl rfl rfl ?_
    repeat' (first | (with_reducible refine codeT_seq ?_) | (with_reducible refine codeT_skip ?_) | (with_reducible refine codeT_ret ?_) | (with_reducible refine codeT_regionL ?_) | (with_reducible refine lx_nil ?_) | (with_reducible refine q_then ?_) | refine c_condF rfl ?_ | ((with_reducible refine g_guard ?_); first | refine lx_skip rfl rfl rfl ?_) | ((with_reducible refine g_move ?_); first | refine lx_move (r := (.t _)) rfl rfl rfl rfl rfl ?_ | refine lx_move (r := (.ref _ _ _ _)) rfl rfl rfl rfl rfl ?_ | refine lx_move (r := (.tup _)) rfl rfl rfl rfl rfl ?_) | ((with_reducible refine g_load ?_); first | refine lx_load_var rfl rfl rfl rfl rfl rfl rfl rfl ?_) | ((with_reducible refine g_fieldAddr ?_); first | refine lx_fieldAddr rfl rfl rfl rfl rfl rfl rfl ?_) | ((with_reducible refine g_assign ?_); first | refine lx_assign (r := (.t _)) rfl rfl rfl rfl rfl ?_) | ((with_reducible refine g_pick ?_); first | refine lx_pickF (r := (.t _)) rfl rfl rfl rfl rfl rfl ?_) | ((with_reducible refine g_nilCheck ?_); first | refine lx_nilCheck (r := (.ref _ _ _ _)) rfl rfl rfl rfl rfl rfl ?_) | ((with_reducible refine g_extract ?_); first | refine lx_extract rfl rfl rfl rfl rfl rfl ?_) | ((with_reducible refine g_call ?_); first | refine lx_callT rfl rfl h rfl rfl (ArgsLE.refl _) rfl rfl rfl rfl rfl ?_))
    exact q_ret (resT_oneE rfl rfl rfl) (stHas_spec ⟨rfl, trivial⟩)
  · refine spec_intro (env0 := [(0, _), (1, _)]) (st0 := [(_, some _)]) Tryd.func42 rfl rfl rfl rfl ?_
    repeat' (first | (with_reducible refine codeT_seq ?_) | (with_reducible refine codeT_skip ?_) | (with_reducible refine codeT_ret ?_) | (with_reducible refine codeT_regionL ?_) | (with_reducible refine lx_nil ?_) | (with_reducible refine q_then ?_) | refine c_condF rfl ?_ | ((with_reducible refine g_guard ?_); first | refine lx_skip rfl rfl rfl ?_) | ((with_reducible refine g_move ?_); first | refine lx_move (r := (.t _)) rfl rfl rfl rfl rfl ?_ | refine lx_move (r := (.ref _ _ _ _)) rfl rfl rfl rfl rfl ?_ | refine lx_move (r := (.tup _)) rfl rfl rfl rfl rfl ?_) | ((with_reducible refine g_load ?_); first | refine lx_load_var rfl rfl rfl rfl rfl rfl rfl rfl ?_) | ((with_reducible refine g_fieldAddr ?_); first | refine lx_fieldAddr rfl rfl rfl rfl rfl rfl rfl ?_) | ((with_reducible refine g_assign ?_); first | refine lx_assign (r := (.t _)) rfl rfl rfl rfl rfl ?_) | ((with_reducible refine g_pick ?_); first | refine lx_pickF (r := (.t _)) rfl rfl rfl rfl rfl rfl ?_) | ((with_reducible refine g_nilCheck ?_); first | refine lx_nilCheck (r := (.ref _ _ _ _)) rfl rfl rfl rfl rfl rfl ?_) | ((with_reducible refine g_extract ?_); first | refine lx_extract rfl rfl rfl rfl rfl rfl ?_) | ((with_reducible refine g_call ?_); first | refine lx_callT rfl rfl h rfl rfl (ArgsLE.refl _) rfl rfl rfl rfl rfl ?_))
    exact q_ret (resT_oneE rfl rfl rfl) (stHas_spec ⟨rfl, trivial⟩)
  · refine spec_intro (env0 := [(0, _), (1, _)]) (st0 := [(_, some _)]) Tryd.func42 rfl rfl rfl rfl ?_
    repeat' (first | (with_reducible refine codeT_seq ?_) | (with_reducible refine codeT_ret ?_) | (with_reducible refine codeT_regionL ?_) | (with_reducible refine lx_nil ?_) | (with_reducible refine q_then ?_) | refine c_condT rfl ?_ | ((with_reducible refine g_move ?_); first | refine lx_move (r := (.t _)) rfl rfl rfl rfl rfl ?_ | refine lx_move (r := (.ref _ _ _ _)) rfl rfl rfl rfl rfl ?_ | refine lx_move (r := (.tup _)) rfl rfl rfl rfl rfl ?_) | ((with_reducible refine g_load ?_); first | refine lx_load_var rfl rfl rfl rfl rfl rfl rfl rfl ?_) | ((with_reducible refine g_fieldAddr ?_); first | refine lx_fieldAddr rfl rfl rfl rfl rfl rfl rfl ?_) | ((with_reducible refine g_assign ?_); first | refine lx_assign (r := (.t _)) rfl rfl rfl rfl rfl ?_) | ((with_reducible refine g_pick ?_); first | refine lx_pickT (r := (.t _)) rfl rfl rfl rfl rfl rfl ?_) | ((with_reducible refine g_store ?_); first | refine lx_store_var (r := (.t _)) rfl rfl rfl rfl rfl rfl rfl rfl rfl rfl ?_) | ((with_reducible refine g_nilCheck ?_); first | refine lx_nilCheck (r := (.ref _ _ _ _)) rfl rfl rfl rfl rfl rfl ?_) | ((with_reducible refine g_unOp ?_); first | refine lx_not rfl rfl rfl rfl rfl ?_) | ((with_reducible refine g_extract ?_); first | refine lx_extract rfl rfl rfl rfl rfl rfl ?_) | ((with_reducible refine g_call ?_); first | refine lx_callT rfl rfl h rfl rfl (ArgsLE.refl _) rfl rfl rfl rfl rfl ?_))
    exact q_ret (resT_oneE rfl rfl rfl) (stHas_spec ⟨rfl, trivial⟩)
  · refine spec_intro (env0 := [(0, _), (1, _)]) (st0 := [(_, some _)]) Tryd.func42 rfl rfl rfl rfl ?_
    repeat' (first | (with_reducible refine codeT_seq ?_) | (with_reducible refine codeT_skip ?_) | (with_reducible refine codeT_ret ?_) | (with_reducible refine codeT_regionL ?_) | (with_reducible refine lx_nil ?_) | (with_reducible refine q_then ?_) | refine c_condF rfl ?_ | ((with_reducible refine g_move ?_); first | refine lx_move (r := (.t _)) rfl rfl rfl rfl rfl ?_ | refine lx_move (r := (.ref _ _ _ _)) rfl rfl rfl rfl rfl ?_ | refine lx_move (r := (.tup _)) rfl rfl rfl rfl rfl ?_) | ((with_reducible refine g_load ?_); first | refine lx_load_var rfl rfl rfl rfl rfl rfl rfl rfl ?_) | ((with_reducible refine g_fieldAddr ?_); first | refine lx_fieldAddr rfl rfl rfl rfl rfl rfl rfl ?_) | ((with_reducible refine g_assign ?_); first | refine lx_assign (r := (.t _)) rfl rfl rfl rfl rfl ?_) | ((with_reducible refine g_pick ?_); first | refine lx_pickT (r := (.t _)) rfl rfl rfl rfl rfl rfl ?_) | ((with_reducible refine g_nilCheck ?_); first | refine lx_nilCheck (r := (.ref _ _ _ _)) rfl rfl rfl rfl rfl rfl ?_) | ((with_reducible refine g_unOp ?_); first | refine lx_not rfl rfl rfl rfl rfl ?_) | ((with_reducible refine g_extract ?_); first | refine lx_extract rfl rfl rfl rfl rfl rfl ?_) | ((with_reducible refine g_call ?_); first | refine lx_callT rfl rfl h rfl rfl (ArgsLE.refl _) rfl rfl rfl rfl rfl ?_))
    exact q_ret (resT_oneE rfl rfl rfl) (stHas_spec ⟨rfl, trivial⟩)
set_option maxHeartbeats 4000000 in
theorem jExpect_spec (r : Rs) (t : ByteArray) (hs : r.s.size ≤ 1000000000) : Spec Tryd.prog 60 [.ref (.par 0) 0 0 0, .t (.str t)] [(.par 0, r.row 60)] (.tup []) [(.par 0, (r.expect t).row 60)] := by
  have h := jSkip_spec r t hs
  unfold Rs.expect
  have hn : ¬ (r.skip t).1 = true → (r.skip t).2 = r := skip_no
  generalize r.skip t = q at *
  obtain ⟨b, q, qb⟩ := q
  obtain ⟨s, bad⟩ := r
  unfold Rs.row at *
  simp only at h hn ⊢
  cases b with
  | true =>
    rw [if_pos rfl]
    refine spec_intro (env0 := [(0, _), (1, _)]) (st0 := [(_, some _)]) Tryd.func60 rfl rfl rfl rfl ?_
    repeat' (first | (with_reducible refine codeT_seq ?_) | (with_reducible refine codeT_skip ?_) | (with_reducible refine codeT_regionL ?_) | (with_reducible refine lx_nil ?_) | (with_reducible refine q_then ?_) | refine c_condF rfl ?_ | ((with_reducible refine g_move ?_); first | refine lx_move (r := (.t _)) rfl rfl rfl rfl rfl ?_ | refine lx_move (r := (.ref _ _ _ _)) rfl rfl rfl rfl rfl ?_) | ((with_reducible refine g_unOp ?_); first | refine lx_not rfl rfl rfl rfl rfl ?_) | ((with_reducible refine g_call ?_); first | refine lx_call (r' := .t (.bool true)) [] rfl rfl h (ArgsLE.refl _) rfl ⟨rfl, trivial⟩ rfl rfl rfl rfl rfl rfl rfl rfl rfl rfl ?_))
    exact q_end (resT_none rfl) (stHas_spec ⟨rfl, trivial⟩)
  | false =>
    have := hn (by simp)
    cases this
    rw [if_neg (by simp)]
    refine spec_intro (env0 := [(0, _), (1, _)]) (st0 := [(_, some _)]) Tryd.func60 rfl rfl rfl rfl ?_
    repeat' (first | (with_reducible refine codeT_seq ?_) | (with_reducible refine codeT_regionL ?_) | (with_reducible refine lx_nil ?_) | (with_reducible refine q_then ?_) | refine c_condT rfl ?_ | ((with_reducible refine g_move ?_); first | refine lx_move (r := (.t _)) rfl rfl rfl rfl rfl ?_ | refine lx_move (r := (.ref _ _ _ _)) rfl rfl rfl rfl rfl ?_) | ((with_reducible refine g_fieldAddr ?_); first | refine lx_fieldAddr rfl rfl rfl rfl rfl rfl rfl ?_) | ((with_reducible refine g_store ?_); first | refine lx_store_var (r := (.t _)) rfl rfl rfl rfl rfl rfl rfl rfl rfl rfl ?_) | ((with_reducible refine g_nilCheck ?_); first | refine lx_nilCheck (r := (.ref _ _ _ _)) rfl rfl rfl rfl rfl rfl ?_) | ((with_reducible refine g_unOp ?_); first | refine lx_not rfl rfl rfl rfl rfl ?_) | ((with_reducible refine g_call ?_); first | refine lx_call (r' := .t (.bool false)) [] rfl rfl h (ArgsLE.refl _) rfl ⟨rfl, trivial⟩ rfl rfl rfl rfl rfl rfl rfl rfl rfl rfl ?_))
    exact q_end (resT_none rfl) (stHas_spec ⟨rfl, trivial⟩)
end Go.AL
/- What json's reader answers: escape. -/
set_option linter.unusedVariables false
namespace Go.AL
open Go Go.Proofs Go.RowKit

theorem esc_entry {e : T × T} (he : e ∈ escT) : ∃ c l : UInt8, e = (.int .u8 (c.toNat : Int), .int .u8 (l.toNat : Int)) ∧ escI (l.toNat : Int) = some c := by
  have key : ∀ x ∈ escL, escI (x.2.toNat : Int) = some x.1 := by decide
  obtain ⟨x, hx, rfl⟩ := List.mem_map.1 he
  exact ⟨x.1, x.2, rfl, key x hx⟩
theorem esc_some {l : Int} {c : UInt8} (h : escI l = some c) : (T.int .u8 (c.toNat : Int), T.int .u8 l) ∈ escT := by
  unfold escI at h
  rw [Option.map_eq_some_iff] at h
  obtain ⟨x, hx, rfl⟩ := h
  have h1 := List.find?_some hx
  simp only [decide_eq_true_eq] at h1
  refine List.mem_map.2 ⟨x, List.mem_of_find?_eq_some hx, ?_⟩
  rw [h1]
def escR (q : Rs) : Option UInt8 → Int × Rs
  | some c => ((c.toNat : Int), q)
  | none => (0, ⟨q.s, true⟩)
theorem jEscR_eq (r : Rs) : jEscR r = if r.byte.1 = 117 then ((pu8 (r.byte.2.take 4).1).1, if (pu8 (r.byte.2.take 4).1).2 = true then (r.byte.2.take 4).2 else ⟨(r.byte.2.take 4).2.s, true⟩) else escR r.byte.2 (escI r.byte.1) := by
  unfold jEscR escR
  split
  · rfl
  · cases escI r.byte.1 <;> rfl
set_option maxHeartbeats 8000000 in
theorem jEscape_spec {oS oR : Obj} (G : EOk oS oR) (r : Rs) (hs : r.s.size ≤ 1000000000) : Spec Tryd.prog 63 [.ref (.par 0) 0 0 0] [(.par 0, r.row 60), (.par 103, .dat (.fix 3 oS)), (.par 104, .dat (.fix 4 oR))] (.t (.int .u8 (jEscR r).1)) [(.par 0, (jEscR r).2.row 60), (.par 103, .dat (.fix 3 oS)), (.par 104, .dat (.fix 4 oR))] := by
  have hB := Byte_spec 60 r hs
  have hbl := byte_le r
  have hbr := byte_range r
  have hE := escapes_spec
  rw [jEscR_eq]
  generalize r.byte = b at *
  obtain ⟨l, q⟩ := b
  simp only at hB hbl hbr ⊢
  have hT := Take_spec 60 q 4 (by omega)
  have hts := take_size q 4
  generalize q.take 4 = t at *
  obtain ⟨t, z⟩ := t
  simp only at hT hts ⊢
  have hP := ParseUint_spec G t (by omega)
  have hpr := pu8_range t
  generalize pu8 t = n at *
  obtain ⟨n, ok⟩ := n
  simp only at hP hpr ⊢
  have hw : IntKind.u8.wrap n = n := wrapU8 (by omega) (by omega)
  obtain ⟨s, bad⟩ := r
  obtain ⟨qs, qb⟩ := q
  obtain ⟨zs, zb⟩ := z
  unfold Rs.row at *
  simp only at hB hT ⊢
  by_cases h117 : l = 117
  · subst h117
    rw [if_pos rfl]
    cases ok with
    | true =>
      unfold eT at hP
      rw [if_pos rfl] at hP ⊢
      refine spec_intro (env0 := [(0, _)]) (st0 := [(_, some _), (_, some _), (_, some _)]) Tryd.func63 rfl rfl rfl rfl ?_
      repeat' (first | (with_reducible refine codeT_seq ?_) | (with_reducible refine codeT_skip ?_) | (with_reducible refine codeT_ret ?_) | (with_reducible refine codeT_regionL ?_) | (with_reducible refine lx_nil ?_) | (with_reducible refine q_then ?_) | (with_reducible refine q_then_ret ?_) | refine c_condT rfl ?_ | refine c_condF rfl ?_ | ((with_reducible refine g_move ?_); first | refine lx_move (r := (.t _)) rfl rfl rfl rfl rfl ?_ | refine lx_move (r := (.ref _ _ _ _)) rfl rfl rfl rfl rfl ?_ | refine lx_move (r := (.tup _)) rfl rfl rfl rfl rfl ?_) | ((with_reducible refine g_fieldAddr ?_); first | refine lx_fieldAddr rfl rfl rfl rfl rfl rfl rfl ?_) | ((with_reducible refine g_binOp ?_); first | refine lx_arith rfl rfl rfl rfl rfl rfl rfl ?_) | ((with_reducible refine g_assign ?_); first | refine lx_assign (r := (.t _)) rfl rfl rfl rfl rfl ?_) | ((with_reducible refine g_nilCheck ?_); first | refine lx_nilCheck (r := (.ref _ _ _ _)) rfl rfl rfl rfl rfl rfl ?_) | ((with_reducible refine g_convert ?_); first | refine lx_conv_int rfl rfl rfl rfl rfl ?_) | ((with_reducible refine g_extract ?_); first | refine lx_extract rfl rfl rfl rfl rfl rfl ?_) | ((with_reducible refine g_call ?_); first | refine lx_call (r' := .t (.int .u8 117)) [] rfl rfl hB (ArgsLE.refl _) rfl ⟨rfl, trivial⟩ rfl rfl rfl rfl rfl rfl rfl rfl rfl rfl ?_ | refine lx_call (r' := .t (.str t)) [] rfl rfl hT (ArgsLE.refl _) rfl ⟨rfl, trivial⟩ rfl rfl rfl rfl rfl rfl rfl rfl rfl rfl ?_ | refine lx_call (r' := (.tup [.t (.int .u64 n), .t .nili])) [] rfl rfl hP (ArgsLE.refl _) rfl ⟨rfl, rfl, trivial⟩ rfl rfl rfl rfl rfl rfl rfl rfl rfl rfl ?_) | ((with_reducible refine g_binOp ?_); first | refine lx_ifnil_ne rfl rfl rfl rfl rfl rfl ?_))
      all_goals try omega
      exact q_ret (resT_oneE rfl rfl (congrArg (T.int .u8) hw)) (stHas_spec ⟨rfl, rfl, rfl, trivial⟩)
    | false =>
      unfold eT at hP
      rw [if_neg (by simp)] at hP ⊢
      refine spec_intro (env0 := [(0, _)]) (st0 := [(_, some _), (_, some _), (_, some _)]) Tryd.func63 rfl rfl rfl rfl ?_
      repeat' (first | (with_reducible refine codeT_seq ?_) | (with_reducible refine codeT_ret ?_) | (with_reducible refine codeT_regionL ?_) | (with_reducible refine lx_nil ?_) | (with_reducible refine q_then ?_) | (with_reducible refine q_then_ret ?_) | refine c_condT rfl ?_ | ((with_reducible refine g_move ?_); first | refine lx_move (r := (.t _)) rfl rfl rfl rfl rfl ?_ | refine lx_move (r := (.ref _ _ _ _)) rfl rfl rfl rfl rfl ?_ | refine lx_move (r := (.tup _)) rfl rfl rfl rfl rfl ?_) | ((with_reducible refine g_fieldAddr ?_); first | refine lx_fieldAddr rfl rfl rfl rfl rfl rfl rfl ?_) | ((with_reducible refine g_binOp ?_); first | refine lx_arith rfl rfl rfl rfl rfl rfl rfl ?_) | ((with_reducible refine g_assign ?_); first | refine lx_assign (r := (.t _)) rfl rfl rfl rfl rfl ?_) | ((with_reducible refine g_store ?_); first | refine lx_store_var (r := (.t _)) rfl rfl rfl rfl rfl rfl rfl rfl rfl rfl ?_) | ((with_reducible refine g_nilCheck ?_); first | refine lx_nilCheck (r := (.ref _ _ _ _)) rfl rfl rfl rfl rfl rfl ?_) | ((with_reducible refine g_convert ?_); first | refine lx_conv_int rfl rfl rfl rfl rfl ?_) | ((with_reducible refine g_extract ?_); first | refine lx_extract rfl rfl rfl rfl rfl rfl ?_) | ((with_reducible refine g_call ?_); first | refine lx_call (r' := .t (.int .u8 117)) [] rfl rfl hB (ArgsLE.refl _) rfl ⟨rfl, trivial⟩ rfl rfl rfl rfl rfl rfl rfl rfl rfl rfl ?_ | refine lx_call (r' := .t (.str t)) [] rfl rfl hT (ArgsLE.refl _) rfl ⟨rfl, trivial⟩ rfl rfl rfl rfl rfl rfl rfl rfl rfl rfl ?_ | refine lx_call (r' := (.tup [.t (.int .u64 n), .t .iface])) [] rfl rfl hP (ArgsLE.refl _) rfl ⟨rfl, rfl, trivial⟩ rfl rfl rfl rfl rfl rfl rfl rfl rfl rfl ?_) | ((with_reducible refine g_binOp ?_); first | refine lx_ifnil_ne rfl rfl rfl rfl rfl rfl ?_))
      all_goals try omega
      exact q_ret (resT_oneE rfl rfl (congrArg (T.int .u8) hw)) (stHas_spec ⟨rfl, rfl, rfl, trivial⟩)
  · rw [if_neg h117]
    clear hT hP
    obtain ⟨R, hR⟩ : ∃ R, R = escR ⟨qs, qb⟩ (escI l) := ⟨_, rfl⟩
    rw [← hR]
    refine spec_intro (env0 := [(0, _)]) (st0 := [(_, some _), (_, some _), (_, some _)]) Tryd.func63 rfl rfl rfl rfl ?_
    repeat' (first | (with_reducible refine codeT_seq ?_) | (with_reducible refine codeT_block ?_) | (with_reducible refine codeT_skip ?_) | (with_reducible refine codeT_regionL ?_) | (with_reducible refine lx_nil ?_) | (with_reducible refine q_then ?_) | (exfalso; omega) | ((with_reducible refine g_move ?_); first | refine lx_move (r := (.t _)) rfl rfl rfl rfl rfl ?_ | refine lx_move (r := (.ref _ _ _ _)) rfl rfl rfl rfl rfl ?_) | ((with_reducible refine g_fieldAddr ?_); first | refine lx_fieldAddr rfl rfl rfl rfl rfl rfl rfl ?_) | ((with_reducible refine g_binOp ?_); first | refine lx_arith rfl rfl rfl rfl rfl rfl rfl ?_) | ((with_reducible refine g_assign ?_); first | refine lx_assign (r := (.t _)) rfl rfl rfl rfl rfl ?_) | ((with_reducible refine g_nilCheck ?_); first | refine lx_nilCheck (r := (.ref _ _ _ _)) rfl rfl rfl rfl rfl rfl ?_) | ((with_reducible refine g_call ?_); first | refine lx_call (r' := .t (.int .u8 l)) [] rfl rfl hB (ArgsLE.refl _) rfl ⟨rfl, trivial⟩ rfl rfl rfl rfl rfl rfl rfl rfl rfl rfl ?_ | refine lx_call (r' := .row (.loc 900)) [(.res 0, .loc 900)] rfl rfl hE (ArgsLE.refl _) rfl trivial rfl rfl rfl rfl rfl rfl rfl rfl rfl rfl ?_) | ((with_reducible refine g_range ?_); first | refine lx_range_map rfl rfl rfl rfl rfl rfl rfl ?_) | refine c_condP rfl (fun hc => ?_) (fun hc => ?_))
    refine codeT_ghost (ghost_keep2 [0, 3, 31] [.par 0, .loc 31, .par 103, .par 104] rfl rfl) ?_
    refine codeT_loop (fun k env st => ∃ (left : List (T × T)) (last : Option (T × T)), k = left.length ∧ (∀ e ∈ left, e ∈ escT) ∧ (∀ e ∈ escT, e.2 = .int .u8 l → e ∈ left) ∧
        env = EnvL.get [(0, .ref (.par 0) 0 0 0), (3, .t (.int .u8 l)), (31, .ref (.loc 31) 0 0 0)] ∧
        st = StO.get [(.par 0, some (.var 60 [.t (.str qs), .t (.bool qb)])), (.loc 31, some (.dat (.miter last left))), (.par 103, some (.dat (.fix 3 oS))), (.par 104, some (.dat (.fix 4 oR)))])
      ?_ (n := 7) ⟨escT, none, rfl, fun e he => he, fun e he _ => he, rfl, rfl⟩
    rintro k env st ⟨left, last, rfl, hsub, hall, rfl, rfl⟩
    refine codeT_seq ?_
    refine codeT_next_map rfl rfl rfl rfl rfl rfl (fun h0 => ?_) (fun k v l1 l2 hl => ?_)
    · have hN : escI l = none := by
        cases h : escI l with
        | none => rfl
        | some c =>
          have := hall _ (esc_some h) rfl
          rw [h0] at this; cases this
      rw [hN, escR] at hR
      repeat' (first | (with_reducible refine codeT_seq ?_) | (with_reducible refine codeT_ret ?_) | (with_reducible refine codeT_exit ?_) | (with_reducible refine codeT_regionL ?_) | (with_reducible refine lx_nil ?_) | (with_reducible refine q_then ?_) | (with_reducible refine q_then_exit ?_) | ((with_reducible refine q_block_same ?_ ?_); · rfl) | (with_reducible refine q_loop_exit ?_) | refine c_condF rfl ?_ | ((with_reducible refine g_move ?_); first | refine lx_move (r := (.ref _ _ _ _)) rfl rfl rfl rfl rfl ?_) | ((with_reducible refine g_fieldAddr ?_); first | refine lx_fieldAddr rfl rfl rfl rfl rfl rfl rfl ?_) | ((with_reducible refine g_assign ?_); first | refine lx_assign (r := (.t _)) rfl rfl rfl rfl rfl ?_) | ((with_reducible refine g_store ?_); first | refine lx_store_var (r := (.t _)) rfl rfl rfl rfl rfl rfl rfl rfl rfl rfl ?_) | ((with_reducible refine g_nilCheck ?_); first | refine lx_nilCheck (r := (.ref _ _ _ _)) rfl rfl rfl rfl rfl rfl ?_) | ((with_reducible refine g_extract ?_); first | refine lx_extract rfl rfl rfl rfl rfl rfl ?_))
      rw [hR]
      exact q_ret (resT_oneE rfl rfl rfl) (stHas_spec ⟨rfl, rfl, rfl, trivial⟩)
    · obtain ⟨c, x, hkv, hx⟩ := esc_entry (hsub (k, v) (by rw [hl]; simp))
      cases hkv
      by_cases hxl : (x.toNat : Int) = l
      · rw [← hxl, hx, escR] at hR
        repeat' (first | (with_reducible refine codeT_seq ?_) | (with_reducible refine codeT_block ?_) | (with_reducible refine codeT_skip ?_) | (with_reducible refine codeT_ret ?_) | (with_reducible refine codeT_regionL ?_) | (with_reducible refine lx_nil ?_) | (with_reducible refine q_then ?_) | (with_reducible refine q_then_ret ?_) | (with_reducible refine q_block ?_) | (with_reducible refine q_block_ret ?_) | (with_reducible refine q_loop_ret ?_) | refine c_condT rfl ?_ | (exfalso; omega) | ((with_reducible refine g_move ?_); first | refine lx_move (r := (.t _)) rfl rfl rfl rfl rfl ?_) | ((with_reducible refine g_binOp ?_); first | refine lx_arith rfl rfl rfl rfl rfl rfl rfl ?_) | ((with_reducible refine g_assign ?_); first | refine lx_assign (r := (.t _)) rfl rfl rfl rfl rfl ?_) | ((with_reducible refine g_extract ?_); first | refine lx_extract rfl rfl rfl rfl rfl rfl ?_) | ((with_reducible refine g_entry ?_); first | refine lx_entry rfl rfl rfl rfl rfl rfl ?_) | refine c_condP rfl (fun hc => ?_) (fun hc => ?_))
        rw [hR]
        exact q_ret (resT_oneE rfl rfl rfl) (stHas_spec ⟨rfl, rfl, rfl, trivial⟩)
      · repeat' (first | (with_reducible refine codeT_seq ?_) | (with_reducible refine codeT_block ?_) | (with_reducible refine codeT_skip ?_) | (with_reducible refine codeT_regionL ?_) | (with_reducible refine lx_nil ?_) | (with_reducible refine q_then ?_) | (with_reducible refine q_block ?_) | refine c_condT rfl ?_ | (exfalso; omega) | ((with_reducible refine g_move ?_); first | refine lx_move (r := (.t _)) rfl rfl rfl rfl rfl ?_) | ((with_reducible refine g_binOp ?_); first | refine lx_arith rfl rfl rfl rfl rfl rfl rfl ?_) | ((with_reducible refine g_assign ?_); first | refine lx_assign (r := (.t _)) rfl rfl rfl rfl rfl ?_) | ((with_reducible refine g_extract ?_); first | refine lx_extract rfl rfl rfl rfl rfl rfl ?_) | ((with_reducible refine g_entry ?_); first | refine lx_entry rfl rfl rfl rfl rfl rfl ?_) | refine c_condP rfl (fun hc => ?_) (fun hc => ?_))
        exact q_loop (n' := (l1 ++ l2).length) (by rw [hl]; simp) (ghost_keep2 [0, 3, 31] [.par 0, .loc 31, .par 103, .par 104] rfl rfl) ⟨l1 ++ l2, _, rfl, fun e he => hsub e (by rw [hl]; simp at he ⊢; rcases he with h | h <;> simp [h]), fun e he h => by
          have h2 := hall e he h
          rw [hl] at h2
          simp only [List.mem_append, List.mem_cons] at h2 ⊢
          rcases h2 with h3 | rfl | h3
          · exact .inl h3
          · simp only [T.int.injEq, true_and] at h
            exact absurd h hxl
          · exact .inr h3, rfl, rfl⟩
end Go.AL
