/- What functions of the program and of the document answer, and the plain laws behind it; each under the conditions that its own theorem names. -/
import Derived.Test.YtmidabiehblekaaGreatDoorTg
import Derived.Test.YtmidabiehblekaaGreatDoorTa
import Derived.Test.YtmidabiehblekaaGreatDoorAl3
import Derived.Test.YtmidabiehblekaaGreatDoorTe
import Derived.Test.YtmidabiehblekaaGreatDoorTf
set_option linter.unusedVariables false
namespace Go.AL
open Go Go.Proofs Go.RowKit
set_option maxHeartbeats 2000000 in
theorem zdj {oF oA : Obj} {V : ByteArray → Bool} (hV : xH oF oA V) (s : ByteArray) : Spec Tryz.prog 112 [.t (.str s)] [(.par 100, .dat (.fix 0 oF)), (.par 101, .dat (.fix 1 oA))] (.t (.bool (yh V s))) [(.par 100, .dat (.fix 0 oF)), (.par 101, .dat (.fix 1 oA))] := by
  by_cases hs : (s.size : Int) ≤ 65536
  · have h := hV s (by omega)
    have e : yh V s = V s := by simp [yh, hs]
    rw [e]
    generalize V s = v at h
    refine wI Tryz.func112 ?_
    repeat' (first | refine wC ?_ | refine wK ?_ | ((with_reducible refine ze ?_); refine wN (.t (.bool v)) [] h ?_) | refine zj rfl ?_ ?_ <;> intro hc)
    · exact zp (zo rfl rfl rfl) (zc ⟨rfl, rfl, trivial⟩)
    · omega
  · have e : yh V s = false := by simp [yh, hs]
    rw [e]
    refine wI Tryz.func112 ?_
    repeat' (first | refine wC ?_ | refine wK ?_ | ((with_reducible refine ze ?_); exact absurd ‹(s.size : Int) ≤ 65536› hs) | refine zj rfl ?_ ?_ <;> intro hc)
    all_goals first | (exfalso; omega) | exact zp (zo rfl rfl rfl) (zc ⟨rfl, rfl, trivial⟩)
def znD (k : Int) (b : Bool) (n : Int) (t : ByteArray) (ns : List ByteArray) (is : List Nd) (dp : Int) : Bool :=
  decide (dp < 1) || decide (k < 0) || decide (5 < k) || !(Nd.mk k b n t ns is).fieldsOK
set_option maxHeartbeats 8000000 in
theorem zgw {oF oA : Obj} {V : ByteArray → Bool} (hV : xH oF oA V) : ∀ x : Nd, x.Ok → ∀ dp : Int, -900 ≤ dp → dp ≤ 1000 → Spec Tryz.prog 59 [.t x.toT, .t (.int .i64 dp)] [(.par 100, .dat (.fix 0 oF)), (.par 101, .dat (.fix 1 oA))] (.t (.bool (x.validB V dp))) [(.par 100, .dat (.fix 0 oF)), (.par 101, .dat (.fix 1 oA))] := by
  intro x hx
  induction hx with
  | @mk k b n t ns is h1 h2 h3 ih =>
  intro dp hd1 hd2
  have ht := zdj hV t
  rw [Nd.toT_eq]
  refine wI Tryz.func59 ?_
  refine jy ?_
  repeat' (first | (with_reducible first | refine jN ?_ | refine zl9 ?_) | refine wK ?_ | fail)
  refine zmk ?_
  refine ze6 (env1 := [(1, .t (.int .i64 dp)), (2, .ref (.loc 2) 0 0 0), (5, .t (.bool (znD k b n t ns is dp)))]) (st1 := [(.loc 2, some (.var 30 [.t (.int .i64 k), .t (.bool b), .t (.int .i64 n), .t (.str t), .t (.sl 1 (ns.map .str)), .t (.sl 6 (is.map Nd.toT))])), (.par 100, some (.dat (.fix 0 oF))), (.par 101, some (.dat (.fix 1 oA)))]) ?_ ?_
  · repeat' (first | refine wC ?_ | refine wK ?_ | refine zj rfl ?_ ?_ <;> intro hc | refine zN rfl ?_ ?_ <;> intro hc | refine kb rfl ?_ ?_ <;> intro hc)
    all_goals refine ⟨rfl, za [1, 2, 5] [.loc 2, .par 100, .par 101] (zoG ?_) rfl⟩
    all_goals clear ih h3 ht hV
    all_goals first | (simp_all [znD, Nd.fieldsOK, List.length_pos_iff]; done) | (rcases (show k = 0 ∨ k = 1 ∨ k = 2 ∨ k = 3 ∨ k = 4 ∨ k = 5 by omega) with rfl | rfl | rfl | rfl | rfl | rfl <;> simp_all [znD, Nd.fieldsOK, List.length_pos_iff] <;> omega)
  · obtain ⟨bv, hbv⟩ : ∃ v, v = znD k b n t ns is dp := ⟨_, rfl⟩
    rw [← hbv]
    have hval : (Nd.mk k b n t ns is).validB V dp = (!(bv || !yh V t || decide (256 < (is.length : Int))) && (!decide (k = 5) || (yR (yh V) [] ns && decide ((ns.length : Int) = is.length))) && !Nd.anyBad V is (dp - 1)) := by
      rw [hbv, Nd.validB]; rfl
    rw [hval]
    have hns : bv = false → k ≠ 5 → ns = [] := fun e h5 => by
      rw [e] at hbv
      have : (Nd.mk k b n t ns is).fieldsOK = true := by
        unfold znD at hbv
        have h := hbv.symm
        simp only [Bool.or_eq_false_iff, Bool.not_eq_false'] at h
        exact h.2
      simp only [Nd.fieldsOK, Bool.and_eq_true, Bool.or_eq_true, decide_eq_true_eq] at this
      exact List.eq_nil_of_length_eq_zero (by have := this.2; omega)
    have hdp : bv = false → 1 ≤ dp := fun e => by
      rw [e] at hbv
      unfold znD at hbv
      have h := hbv.symm
      simp only [Bool.or_eq_false_iff, decide_eq_false_iff_not] at h
      omega
    generalize yh V t = tv at ht ⊢
    clear hbv hval
    cases bv with
    | true =>
      repeat' (first | refine wC ?_ | refine wK ?_ | fail)
      exact zp (zo rfl rfl (by simp)) (zc ⟨rfl, rfl, trivial⟩)
    | false =>
    cases tv with
    | false =>
      repeat' (first | refine wC ?_ | refine wK ?_ | ((with_reducible refine ze ?_); refine wN (.t (.bool false)) [] ht ?_) | fail)
      exact zp (zo rfl rfl (by simp)) (zc ⟨rfl, rfl, trivial⟩)
    | true =>
    have hdp1 := hdp rfl
    by_cases hm : is.length ≤ 256 ∧ (k = 5 → ns.length = is.length)
    · have e1 : (!(false || !true || decide (256 < (is.length : Int))) && (!decide (k = 5) || (yR (yh V) [] ns && decide ((ns.length : Int) = is.length))) && !Nd.anyBad V is (dp - 1)) = (yR (yh V) [] ns && !Nd.anyBad V is (dp - 1)) := by
        have : ¬ (256 : Int) < is.length := by omega
        by_cases h5 : k = 5
        · have := hm.2 h5
          simp [*]
        · have h0 := hns rfl h5
          subst h0
          simp [*, yR]
      rw [e1]
      refine ze6 (env1 := [(1, .t (.int .i64 dp)), (2, .ref (.loc 2) 0 0 0)]) (st1 := [(.loc 2, some (.var 30 [.t (.int .i64 k), .t (.bool b), .t (.int .i64 n), .t (.str t), .t (.sl 1 (ns.map .str)), .t (.sl 6 (is.map Nd.toT))])), (.par 100, some (.dat (.fix 0 oF))), (.par 101, some (.dat (.fix 1 oA)))]) ?_ ?_
      · repeat' (first | refine wC ?_ | refine wK ?_ | ((with_reducible refine ze ?_); refine wN (.t (.bool true)) [] ht ?_) | refine zS rfl ?_ ?_ <;> intro hc | refine zj rfl ?_ ?_ <;> intro hc)
        all_goals first | (exfalso; omega) | exact ⟨rfl, za [1, 2] [.loc 2, .par 100, .par 101] rfl rfl⟩
      · clear ht hns e1 hm
        repeat' (first | refine wC ?_ | refine wK ?_ | fail)
        refine zl (za [1, 2, 6, 103, 104, 105] [.loc 101, .loc 2, .par 100, .par 101] rfl rfl) ?_
        refine zz (fun m env st => ∃ (j : Nat) (seen : List ByteArray) (es : List (T × T)), j ≤ ns.length ∧ m = ns.length - j ∧ xp .string es = true ∧ (∀ s, (kg es (.str s)).getD (.bool false) = .bool (inB s seen)) ∧ yR (yh V) [] ns = yR (yh V) seen (ns.drop j) ∧
            env = EnvL.get [(1, .t (.int .i64 dp)), (2, .ref (.loc 2) 0 0 0), (6, .row (.loc 101)), (103, .t (.sl 1 (ns.map .str))), (104, .t (.int .i64 ns.length)), (105, .t (.int .i64 (j : Int)))] ∧
            st = StO.get [(.loc 101, some (.dat (.map es))), (.loc 2, some (.var 30 [.t (.int .i64 k), .t (.bool b), .t (.int .i64 n), .t (.str t), .t (.sl 1 (ns.map .str)), .t (.sl 6 (is.map Nd.toT))])), (.par 100, some (.dat (.fix 0 oF))), (.par 101, some (.dat (.fix 1 oA)))])
          ?_ (n := ns.length) ⟨0, [], [], by omega, rfl, rfl, fun s => rfl, rfl, rfl, rfl⟩
        rintro m env st ⟨j, seen, es, hj, rfl, hes, hget, hi, rfl, rfl⟩
        by_cases hlt : j < ns.length
        · have hd : ns.drop j = ns[j] :: ns.drop (j + 1) := List.drop_eq_getElem_cons hlt
          have hg : ns.getD (j : Int).toNat default = ns[j] := by simp [List.getD_eq_getElem?_getD, hlt]
          have ht := zdj hV (ns.getD (j : Int).toNat default)
          have hy := hget (ns.getD (j : Int).toNat default)
          have hi2 : yR (yh V) [] ns = if inB (ns.getD (j : Int).toNat default) seen || !yh V (ns.getD (j : Int).toNat default) then false else yR (yh V) (ns.getD (j : Int).toNat default :: seen) (ns.drop (j + 1)) := by rw [hi, hd, hg]; rfl
          generalize yh V (ns.getD (j : Int).toNat default) = tv at ht hi2
          generalize inB (ns.getD (j : Int).toNat default) seen = sv at hy hi2
          repeat' (first | refine wC ?_ | refine zaE rfl rfl rfl rfl hy (fun _ => rfl) rfl rfl rfl rfl ?_ ?_ | refine wK ?_ | ((with_reducible refine zA ?_); refine zq rfl rfl rfl rfl rfl rfl ?_ ?_ ?_) | ((with_reducible refine zcn ?_); refine zaA rfl rfl rfl rfl rfl rfl rfl rfl ?_ ?_) | ((with_reducible refine ze ?_); refine wN (.t (.bool tv)) [] ht ?_) | refine zd rfl ?_ ?_ <;> intro hc | refine zan rfl ?_ ?_ <;> intro hc | refine kb rfl ?_ ?_ <;> intro hc)
          all_goals try first | omega | exact hes
          · refine zp (zo rfl rfl (congrArg T.bool ?_)) (zc ⟨rfl, rfl, trivial⟩)
            rw [hi2, show tv = false by simpa using hc]; simp
          · refine zp (zo rfl rfl (congrArg T.bool ?_)) (zc ⟨rfl, rfl, trivial⟩)
            rw [hi2, hc]; simp
          · have htv : tv = true := by simpa using ‹(!tv) = false›
            refine zI (n' := ns.length - (j + 1)) (by omega) (za [1, 2, 6, 103, 104, 105] [.loc 101, .loc 2, .par 100, .par 101] rfl rfl) ⟨j + 1, ns.getD (j : Int).toNat default :: seen, zcR es (.str (ns.getD (j : Int).toNat default)) (.bool true), by omega, rfl, zbZ _ _ _ _ hes rfl, ?_, ?_, ?_, rfl⟩
            · intro s
              rw [jL _ _ _ _ hes]
              by_cases e : s = ns.getD (j : Int).toNat default
              · rw [if_pos e]; simp [inB, e]
              · rw [if_neg e, hget s]
                simp only [inB, List.any_cons]
                rw [decide_eq_false e]; rfl
            · rw [hi2, hc, htv]; rfl
            · rw [zr (by omega) (by omega)]; rfl
        · have hdr : ns.drop j = [] := List.drop_eq_nil_of_le (by omega)
          rw [hdr] at hi
          have hi3 : yR (yh V) [] ns = true := hi
          rw [hi3, Bool.true_and]
          clear hi hi3 hget hdr
          repeat' (first | refine wC ?_ | refine wK ?_ | ((with_reducible refine zA ?_); refine zq rfl rfl rfl rfl rfl rfl ?_ ?_ ?_) | ((with_reducible refine ze ?_); exact absurd hlt (by omega)) | refine zd rfl ?_ ?_ <;> intro hc)
          all_goals try (exfalso; omega)
          refine zl (za [1, 2, 121, 122, 123] [.loc 2, .par 100, .par 101] rfl rfl) ?_
          refine zz (fun m env st => ∃ (j : Nat), j ≤ is.length ∧ m = is.length - j ∧ Nd.anyBad V is (dp - 1) = Nd.anyBad V (is.drop j) (dp - 1) ∧
              env = EnvL.get [(1, .t (.int .i64 dp)), (2, .ref (.loc 2) 0 0 0), (121, .t (.sl 6 (is.map Nd.toT))), (122, .t (.int .i64 is.length)), (123, .t (.int .i64 (j : Int)))] ∧
              st = StO.get [(.loc 2, some (.var 30 [.t (.int .i64 k), .t (.bool b), .t (.int .i64 n), .t (.str t), .t (.sl 1 (ns.map .str)), .t (.sl 6 (is.map Nd.toT))])), (.par 100, some (.dat (.fix 0 oF))), (.par 101, some (.dat (.fix 1 oA)))])
            ?_ (n := is.length) ⟨0, by omega, rfl, rfl, rfl, rfl⟩
          clear hj hlt hes
          rintro m env st ⟨j, hj, rfl, hi, rfl, rfl⟩
          by_cases hlt : j < is.length
          · have hd : is.drop j = is[j] :: is.drop (j + 1) := List.drop_eq_getElem_cons hlt
            have hg : is.getD (j : Int).toNat default = is[j] := by simp [List.getD_eq_getElem?_getD, hlt]
            have hX := ih is[j] (List.getElem_mem hlt) (dp - 1) (by omega) (by omega)
            rw [← hg] at hX
            rw [hd, ← hg, Nd.anyBad] at hi
            have eX := (is.getD (j : Int).toNat default).toT_full
            rw [eX, ← zr (n := dp - 1) (by omega) (by omega)] at hX
            rw [zr (n := dp - 1) (by omega) (by omega)] at hX
            generalize (is.getD (j : Int).toNat default).validB V (dp - 1) = v at hX hi
            rw [← zr (n := dp - 1) (by omega) (by omega)] at hX
            repeat' (first | refine wC ?_ | refine zR rfl rfl eX rfl rfl rfl rfl rfl rfl ?_ | refine wK ?_ | ((with_reducible refine zA ?_); refine zq rfl rfl rfl rfl rfl rfl ?_ ?_ ?_) | ((with_reducible refine ze ?_); refine wN (.t (.bool v)) [] hX ?_) | refine zd rfl ?_ ?_ <;> intro hc | refine zan rfl ?_ ?_ <;> intro hc)
            all_goals try omega
            · refine zp (zo rfl rfl (congrArg T.bool ?_)) (zc ⟨rfl, rfl, trivial⟩)
              rw [hi, show v = false by simpa using hc]; rfl
            · refine zI (n' := is.length - (j + 1)) (by omega) (za [1, 2, 121, 122, 123] [.loc 2, .par 100, .par 101] rfl rfl) ⟨j + 1, by omega, rfl, ?_, by rw [zr (by omega) (by omega)]; rfl, rfl⟩
              rw [hi, show v = true by simpa using hc]; rfl
          · have hdr : is.drop j = [] := List.drop_eq_nil_of_le (by omega)
            rw [hdr] at hi
            repeat' (first | refine wC ?_ | refine wK ?_ | ((with_reducible refine zA ?_); refine zq rfl rfl rfl rfl rfl rfl ?_ ?_ ?_) | refine zd rfl ?_ ?_ <;> intro hc)
            all_goals try (exfalso; omega)
            refine zp (zo rfl rfl (congrArg T.bool ?_)) (zc ⟨rfl, rfl, trivial⟩)
            rw [hi]; rfl
    · have e1 : (!(false || !true || decide (256 < (is.length : Int))) && (!decide (k = 5) || (yR (yh V) [] ns && decide ((ns.length : Int) = is.length))) && !Nd.anyBad V is (dp - 1)) = false := by
        by_cases h : is.length ≤ 256
        · have h5 : k = 5 ∧ ns.length ≠ is.length := ⟨Classical.byContradiction fun h5 => hm ⟨h, fun e => absurd e h5⟩, fun e => hm ⟨h, fun _ => e⟩⟩
          have : ¬ ((ns.length : Int) = is.length) := by omega
          simp [h5.1, this]
        · have : (256 : Int) < is.length := by omega
          simp [this]
      rw [e1]
      repeat' (first | refine wC ?_ | refine wK ?_ | ((with_reducible refine ze ?_); refine wN (.t (.bool true)) [] ht ?_) | refine zS rfl ?_ ?_ <;> intro hc | refine zj rfl ?_ ?_ <;> intro hc)
      all_goals first | exact zp (zo rfl rfl rfl) (zc ⟨rfl, rfl, trivial⟩) | (exfalso; omega)
set_option maxHeartbeats 2000000 in
theorem x7 {oF oA : Obj} {V : ByteArray → Bool} (hV : xH oF oA V) (x : Nd) (hx : x.Ok) : Spec Tryz.prog 24 [.t x.toT] [(.par 100, .dat (.fix 0 oF)), (.par 101, .dat (.fix 1 oA))] (.t (.bool (x.validB V 8))) [(.par 100, .dat (.fix 0 oF)), (.par 101, .dat (.fix 1 oA))] := by
  have h := zgw hV x hx 8 (by omega) (by omega)
  generalize x.validB V 8 = v at h ⊢
  have eX := x.toT_full
  rw [eX] at h ⊢
  refine wI Tryz.func24 ?_
  repeat' (first | refine wC ?_ | refine wK ?_ | ((with_reducible refine ze ?_); refine wN (.t (.bool v)) [] h ?_) | fail)
  exact zp (zo rfl rfl rfl) (zc ⟨rfl, rfl, trivial⟩)
theorem znO {n : Int} (h0 : -9223372036854775808 ≤ n) (h1 : n < 0) : IntKind.u64.wrap ((BitVec.ofInt IntKind.u64.bits (if IntKind.u64.signed then -1 else IntKind.u64.max)) ^^^ BitVec.ofInt IntKind.u64.bits (IntKind.u64.wrap n)).toNat = -1 - n := by
  show IntKind.u64.wrap (((BitVec.ofInt 64 IntKind.u64.max) ^^^ BitVec.ofInt 64 (IntKind.u64.wrap n)).toNat : Int) = _
  have e0 : IntKind.u64.wrap n = n + 18446744073709551616 := by
    simp only [IntKind.wrap, IntKind.bits, IntKind.signed, Bool.false_and, Bool.false_eq_true, if_false]; omega
  have e2 : ((BitVec.ofInt 64 IntKind.u64.max) ^^^ BitVec.ofInt 64 (IntKind.u64.wrap n)).toNat = 18446744073709551615 - (n + 18446744073709551616).toNat := by
    rw [e0, show BitVec.ofInt 64 IntKind.u64.max = BitVec.allOnes 64 by decide, BitVec.allOnes_xor, BitVec.toNat_not, BitVec.toNat_ofInt]
    have : ((n + 18446744073709551616) % ((2 ^ 64 : Nat) : Int)).toNat = (n + 18446744073709551616).toNat := by omega
    rw [this]
  rw [e2, ye (by omega) (by omega)]
  omega
set_option maxHeartbeats 8000000 in
theorem ziU (k : Int) (hk45 : k = 4 ∨ k = 5) (b : Bool) (n : Int) (t : ByteArray) (ns : List ByteArray) (is : List Nd) (hlen : is.length ≤ 256) (hk : k = 5 → ns.length = is.length)
    (hns : ∀ s ∈ ns, s.size ≤ 65536) (hb : (hdL k.toNat is.length).length + (qc k ns is is.length).length ≤ 50000000)
    (IH : ∀ i, i < is.length → (is.getD i default).cb.length ≤ 50000000 → Spec Tryz.prog 107 [.t (is.getD i default).toT] [] (.t (.str (ofL (is.getD i default).cb))) []) :
    Spec Tryz.prog 107 [.t (.agg [.int .i64 k, .bool b, .int .i64 n, .str t, .sl 1 (ns.map .str), .sl 6 (is.map Nd.toT)])] [] (.t (.str (ofL (hdL k.toNat is.length ++ qc k ns is is.length)))) [] := by
  have hH : Spec Tryz.prog 173 [.t (.int .i64 k), .t (.int .u64 (IntKind.u64.wrap (is.length : Int)))] [] (.t (.str (ofL (hdL k.toNat is.length)))) [] := by
    rw [ye (by omega) (by omega)]
    have := vQ k.toNat (by omega) is.length (by omega)
    rw [show (k.toNat : Int) = k by omega] at this
    exact this
  obtain ⟨H0, hH0⟩ : ∃ H, H = hdL k.toNat is.length := ⟨_, rfl⟩
  rw [← hH0] at hH hb ⊢
  have hmono := fun i j (hij : i ≤ j) (hj : j ≤ is.length) => zb5 (k := k) hk hij hj
  obtain ⟨S0, hS0⟩ : ∃ S, S = ofL H0 := ⟨_, rfl⟩
  rw [← hS0] at hH
  obtain rfl | rfl := hk45
  · refine wI Tryz.func107 ?_
    repeat' (first | refine wC ?_ | refine wK ?_ | ((with_reducible refine ze ?_); refine wL hH ?_) | fail)
    refine zl (za [1, 3, 47, 48, 49] [.loc 1] rfl rfl) ?_
    refine zz (fun p env st => ∃ (j : Nat) (S : ByteArray), j ≤ is.length ∧ p = is.length - j ∧ S = ofL (H0 ++ qc 4 ns is j) ∧
        env = EnvL.get [(1, .ref (.loc 1) 0 0 0), (3, .t (.str S)), (47, .t (.sl 6 (is.map Nd.toT))), (48, .t (.int .i64 is.length)), (49, .t (.int .i64 (j : Int)))] ∧
        st = StO.get [(.loc 1, some (.var 30 [.t (.int .i64 4), .t (.bool b), .t (.int .i64 n), .t (.str t), .t (.sl 1 (ns.map .str)), .t (.sl 6 (is.map Nd.toT))]))])
      ?_ (n := is.length) ⟨0, S0, by omega, rfl, by rw [hS0]; simp [qc, Nd.cbs], rfl, rfl⟩
    rintro p env st ⟨j, S, hj, rfl, hS, rfl, rfl⟩
    by_cases hlt : j < is.length
    · have hle := hmono (j + 1) is.length (by omega) (by omega)
      rw [ka (by decide) hlt, List.length_append] at hle
      have hP := IH j hlt (by omega)
      have hsz : S.size = H0.length + (qc 4 ns is j).length := by rw [hS, zx, List.length_append]
      have hT := (is.getD j default).toT_full
      rw [hT] at hP
      have hw : ofL (H0 ++ qc 4 ns is (j + 1)) = S ++ ofL (is.getD j default).cb := by
        rw [ka (by decide) hlt, hS, z7, List.append_assoc]
      obtain ⟨W, hW⟩ : ∃ W, W = ofL (is.getD j default).cb := ⟨_, rfl⟩
      have hWs : W.size = (is.getD j default).cb.length := by rw [hW, zx]
      rw [← hW] at hP hw
      have hg : is.getD (j : Int).toNat default = is.getD j default := rfl
      repeat' (first | refine wC ?_ | refine zR rfl rfl hT rfl rfl rfl rfl rfl rfl ?_ | refine wK ?_ | ((with_reducible refine zM ?_); refine yj rfl rfl rfl rfl rfl rfl ?_ ?_) | ((with_reducible refine zA ?_); refine zq rfl rfl rfl rfl rfl rfl ?_ ?_ ?_) | ((with_reducible refine ze ?_); refine wL hP ?_) | refine zd rfl ?_ ?_ <;> intro hc)
      all_goals try omega
      · exact zI (n' := is.length - (j + 1)) (by omega) (za [1, 3, 47, 48, 49] [.loc 1] rfl rfl) ⟨j + 1, S ++ W, by omega, rfl, hw.symm, by rw [zr (by omega) (by omega)]; rfl, rfl⟩
    · repeat' (first | refine wC ?_ | refine wK ?_ | ((with_reducible refine zA ?_); refine zq rfl rfl rfl rfl rfl rfl ?_ ?_ ?_) | refine zd rfl ?_ ?_ <;> intro hc)
      all_goals try (exfalso; omega)
      obtain rfl : j = is.length := by omega
      exact zp (zo rfl rfl (congrArg T.str hS)) (by simp)
  · refine wI Tryz.func107 ?_
    repeat' (first | refine wC ?_ | refine wK ?_ | ((with_reducible refine ze ?_); refine wL hH ?_) | fail)
    refine zl (za [1, 3, 47, 48, 49] [.loc 1] rfl rfl) ?_
    refine zz (fun p env st => ∃ (j : Nat) (S : ByteArray), j ≤ is.length ∧ p = is.length - j ∧ S = ofL (H0 ++ qc 5 ns is j) ∧
        env = EnvL.get [(1, .ref (.loc 1) 0 0 0), (3, .t (.str S)), (47, .t (.sl 6 (is.map Nd.toT))), (48, .t (.int .i64 is.length)), (49, .t (.int .i64 (j : Int)))] ∧
        st = StO.get [(.loc 1, some (.var 30 [.t (.int .i64 5), .t (.bool b), .t (.int .i64 n), .t (.str t), .t (.sl 1 (ns.map .str)), .t (.sl 6 (is.map Nd.toT))]))])
      ?_ (n := is.length) ⟨0, S0, by omega, rfl, by rw [hS0]; simp [qc, Nd.cbm], rfl, rfl⟩
    rintro p env st ⟨j, S, hj, rfl, hS, rfl, rfl⟩
    by_cases hlt : j < is.length
    · have hle := hmono (j + 1) is.length (by omega) (by omega)
      have hl5 := hk rfl
      rw [jM hl5 hlt, List.length_append, List.length_append, List.length_append, ya] at hle
      have hP := IH j hlt (by omega)
      have hsn : (ns.getD j default).size ≤ 65536 := hns _ (by rw [List.getD_eq_getElem?_getD, List.getElem?_eq_getElem (by omega)]; simp)
      have hsz : S.size = H0.length + (qc 5 ns is j).length := by rw [hS, zx, List.length_append]
      have hT := (is.getD j default).toT_full
      rw [hT] at hP
      have hw : ofL (H0 ++ qc 5 ns is (j + 1)) = S ++ (ofL (hdL 3 (ns.getD j default).size) ++ ns.getD j default) ++ ofL (is.getD j default).cb := by
        rw [jM hl5 hlt, hS, ← vI (ns.getD j default), z7, z7, z7, yV]
        simp only [List.append_assoc]
      obtain ⟨W, hW⟩ : ∃ W, W = ofL (is.getD j default).cb := ⟨_, rfl⟩
      have hWs : W.size = (is.getD j default).cb.length := by rw [hW, zx]
      rw [← hW] at hP hw
      have hH3 : Spec Tryz.prog 173 [.t (.int .i64 3), .t (.int .u64 (IntKind.u64.wrap ((ns.getD (j : Int).toNat default).size : Int)))] [] (.t (.str (ofL (hdL 3 (ns.getD j default).size)))) [] := by
        have : (ns.getD (j : Int).toNat default) = ns.getD j default := rfl
        rw [this, ye (by omega) (by omega)]
        exact vQ 3 (by omega) _ (by omega)
      obtain ⟨H3, hH3e⟩ : ∃ H, H = ofL (hdL 3 (ns.getD j default).size) := ⟨_, rfl⟩
      have hH3s : H3.size ≤ 9 := by rw [hH3e, zx]; exact qC
      rw [← hH3e] at hH3 hw
      have hgn : (ns.getD (j : Int).toNat default) = ns.getD j default := rfl
      repeat' (first | refine wC ?_ | refine zR rfl rfl hT rfl rfl rfl rfl rfl rfl ?_ | refine wK ?_ | ((with_reducible refine zM ?_); refine yj rfl rfl rfl rfl rfl rfl ?_ ?_) | ((with_reducible refine zA ?_); refine zq rfl rfl rfl rfl rfl rfl ?_ ?_ ?_) | ((with_reducible refine ze ?_); first | refine wL hP ?_ | refine wL hH3 ?_) | refine zd rfl ?_ ?_ <;> intro hc)
      all_goals try rw [hgn]
      all_goals try (simp only [ByteArray.size_append] at *; omega)
      exact zI (n' := is.length - (j + 1)) (by omega) (za [1, 3, 47, 48, 49] [.loc 1] rfl rfl) ⟨j + 1, S ++ (H3 ++ ns.getD j default) ++ W, by omega, rfl, hw.symm, by rw [zr (by omega) (by omega)]; rfl, rfl⟩
    · repeat' (first | refine wC ?_ | refine wK ?_ | ((with_reducible refine zA ?_); refine zq rfl rfl rfl rfl rfl rfl ?_ ?_ ?_) | refine zd rfl ?_ ?_ <;> intro hc)
      all_goals try (exfalso; omega)
      obtain rfl : j = is.length := by omega
      exact zp (zo rfl rfl (congrArg T.str hS)) (by simp)
theorem sF6 : (⟨#[246]⟩ : ByteArray) = ofL (hdL 7 22) := by decide
theorem sF5 : (⟨#[245]⟩ : ByteArray) = ofL (hdL 7 21) := by decide
theorem sF4 : (⟨#[244]⟩ : ByteArray) = ofL (hdL 7 20) := by decide
set_option maxHeartbeats 8000000 in
theorem kP {V : ByteArray → Bool} : ∀ (x : Nd) (e : Int), x.validB V e = true → x.In → x.cb.length ≤ 50000000 →
    Spec Tryz.prog 107 [.t x.toT] [] (.t (.str (ofL x.cb))) []
  | .mk k b n t ns is, e, hv, hin, hb => by
    rw [yo] at hv
    obtain ⟨h1, h2, h3, h4, h5, h6, h7, h8⟩ := hv
    cases hin with
    | mk i1 i2 i3 =>
    rw [Nd.toT_eq]
    have hk : k = 0 ∨ k = 1 ∨ k = 2 ∨ k = 3 ∨ (k = 4 ∨ k = 5) := by omega
    rcases hk with rfl | rfl | rfl | rfl | hk
    · rw [show (Nd.mk 0 b n t ns is).cb = hdL 7 22 by simp [Nd.cb], ← sF6]
      refine wI Tryz.func107 ?_
      repeat' (first | refine wC ?_ | refine wK ?_ | fail)
      exact zp (zo rfl rfl rfl) (by simp)
    · cases b with
      | true =>
        rw [show (Nd.mk 1 true n t ns is).cb = hdL 7 21 by simp [Nd.cb], ← sF5]
        refine wI Tryz.func107 ?_
        repeat' (first | refine wC ?_ | refine wK ?_ | fail)
        exact zp (zo rfl rfl rfl) (by simp)
      | false =>
        rw [show (Nd.mk 1 false n t ns is).cb = hdL 7 20 by simp [Nd.cb], ← sF4]
        refine wI Tryz.func107 ?_
        repeat' (first | refine wC ?_ | refine wK ?_ | fail)
        exact zp (zo rfl rfl rfl) (by simp)
    · have ec : (Nd.mk 2 b n t ns is).cb = if n < 0 then hdL 1 (-1 - n).toNat else hdL 0 n.toNat := by simp [Nd.cb]
      rw [ec]
      by_cases hn : n < 0
      · rw [if_pos hn]
        have hH : Spec Tryz.prog 173 [.t (.int .i64 1), .t (.int .u64 (IntKind.u64.wrap ((BitVec.ofInt IntKind.u64.bits (if IntKind.u64.signed then -1 else IntKind.u64.max)) ^^^ BitVec.ofInt IntKind.u64.bits (IntKind.u64.wrap n)).toNat))] [] (.t (.str (ofL (hdL 1 (-1 - n).toNat)))) [] := by
          have := vQ 1 (by omega) (-1 - n).toNat (by omega)
          rw [znO i1 hn]
          rw [show (((-1 - n).toNat : Nat) : Int) = -1 - n by omega] at this
          exact this
        generalize ofL (hdL 1 (-1 - n).toNat) = R at hH ⊢
        refine wI Tryz.func107 ?_
        repeat' (first | refine wC ?_ | refine wK ?_ | ((with_reducible refine ze ?_); refine wL hH ?_) | refine zd rfl ?_ ?_ <;> intro hc)
        all_goals try (exfalso; omega)
        exact zp (zo rfl rfl rfl) (by simp)
      · rw [if_neg hn]
        have hH : Spec Tryz.prog 173 [.t (.int .i64 0), .t (.int .u64 (IntKind.u64.wrap n))] [] (.t (.str (ofL (hdL 0 n.toNat)))) [] := by
          have := vQ 0 (by omega) n.toNat (by omega)
          rw [show ((n.toNat : Nat) : Int) = IntKind.u64.wrap n by rw [ye (by omega) (by omega)]; omega] at this
          exact this
        generalize ofL (hdL 0 n.toNat) = R at hH ⊢
        refine wI Tryz.func107 ?_
        repeat' (first | refine wC ?_ | refine wK ?_ | ((with_reducible refine ze ?_); refine wL hH ?_) | refine zd rfl ?_ ?_ <;> intro hc)
        all_goals try (exfalso; omega)
        exact zp (zo rfl rfl rfl) (by simp)
    · have ec : ofL (Nd.mk 3 b n t ns is).cb = ofL (hdL 3 t.size) ++ t := by
        rw [show (Nd.mk 3 b n t ns is).cb = hdL 3 t.size ++ t.data.toList by simp [Nd.cb], ← z7, vI]
      have ht : t.size ≤ 65536 := by
        simp only [yh, Bool.and_eq_true, decide_eq_true_eq] at h5; omega
      rw [ec]
      have hH : Spec Tryz.prog 173 [.t (.int .i64 3), .t (.int .u64 (IntKind.u64.wrap (t.size : Int)))] [] (.t (.str (ofL (hdL 3 t.size)))) [] := by
        rw [ye (by omega) (by omega)]
        exact vQ 3 (by omega) t.size (by omega)
      have hs : (ofL (hdL 3 t.size)).size ≤ 9 := by rw [zx]; exact qC
      generalize ofL (hdL 3 t.size) = R at hH hs ⊢
      refine wI Tryz.func107 ?_
      repeat' (first | refine wC ?_ | refine wK ?_ | ((with_reducible refine zM ?_); refine yj rfl rfl rfl rfl rfl rfl ?_ ?_) | ((with_reducible refine ze ?_); refine wL hH ?_) | fail)
      · omega
      exact zp (zo rfl rfl rfl) (by simp)
    · have hl : k = 5 → ns.length = is.length := fun h => by have := (h7 h).2; omega
      have ec : (Nd.mk k b n t ns is).cb = hdL k.toNat is.length ++ qc k ns is is.length := by
        have e1 : is.take is.length = is := List.take_length
        rcases hk with rfl | rfl
        · simp [Nd.cb, qc]
        · have e2 : ns.take is.length = ns := by rw [← (h7 rfl).2]; exact List.take_length
          simp [Nd.cb, qc, e2]
      rw [ec] at hb ⊢
      rw [List.length_append] at hb
      refine ziU k hk b n t ns is (by omega) hl (fun s hs => ?_) (by omega) fun i hi hb' => ?_
      · by_cases h : k = 5
        · have := ((yF (yh V) ns []).1 (h7 h).1).2 s hs
          have := this.2
          simp only [yh, Bool.and_eq_true, decide_eq_true_eq] at this; omega
        · have hz : ns.length = 0 := by
            simp only [Nd.fieldsOK, Bool.and_eq_true, Bool.or_eq_true, decide_eq_true_eq] at h4
            have := h4.2; omega
          rw [List.eq_nil_of_length_eq_zero hz] at hs; cases hs
      · have hm : is.getD i default ∈ is := by rw [List.getD_eq_getElem?_getD, List.getElem?_eq_getElem hi]; exact List.getElem_mem _
        exact kP (is.getD i default) (e - 1) (h8 _ hm) (i3 _ hm) hb'
termination_by x => SizeOf.sizeOf x
decreasing_by
  have := List.sizeOf_lt_of_mem hm
  simp only [Nd.mk.sizeOf_spec]
  omega
set_option maxHeartbeats 4000000 in
theorem zjE {oF oA : Obj} {V : ByteArray → Bool} (hS : xH oF oA V) (x : Nd) (hx : x.Ok) (hin : x.In) (hsz : x.validB V 8 = true → x.cb.length ≤ 49999999) : Spec Tryz.prog 53 [.t x.toT] [(.par 100, .dat (.fix 0 oF)), (.par 101, .dat (.fix 1 oA))] (.tup [.t (.str (zdn V x).1), .t (.int .i64 (zdn V x).2)]) [(.par 100, .dat (.fix 0 oF)), (.par 101, .dat (.fix 1 oA))] := by
  have hV := x7 hS x hx
  have hT := x.toT_full
  unfold zdn
  cases hv : x.validB V 8 with
  | false =>
    rw [hv] at hV
    rw [hT] at hV ⊢
    refine wI Tryz.func53 ?_
    repeat' (first | refine wC ?_ | refine wK ?_ | ((with_reducible refine ze ?_); refine wN (.t (.bool false)) [] hV ?_) | fail)
    exact zp (zD rfl rfl rfl rfl rfl) (zc ⟨rfl, rfl, trivial⟩)
  | true =>
    have hP := kP x 8 hv hin (by have := hsz hv; omega)
    rw [hv] at hV
    have hlen : (ofL x.cb).size = x.cb.length := zx _
    generalize ofL x.cb = W at hP hlen ⊢
    rw [hT] at hV hP ⊢
    refine wI Tryz.func53 ?_
    repeat' (first | refine wC ?_ | refine wK ?_ | ((with_reducible refine ze ?_); first | refine wN (.t (.bool true)) [] hV ?_ | refine wL hP ?_) | refine zd rfl ?_ ?_ <;> intro hc)
    · exact zp (zD rfl rfl rfl (by rw [if_pos rfl, if_pos (by omega)]; rfl) (by rw [if_pos rfl, if_pos (by omega)])) (zc ⟨rfl, rfl, trivial⟩)
    · exact zp (zD rfl rfl rfl (by rw [if_pos rfl, if_neg (by omega)]) (by rw [if_pos rfl, if_neg (by omega)])) (zc ⟨rfl, rfl, trivial⟩)
structure Enc1 (V : ByteArray → Bool) (x : Nd) : Prop where
  ok : x.Ok
  inn : x.In
  sz : x.validB V 8 = true → x.cb.length ≤ 49999999
set_option maxHeartbeats 2000000 in
theorem qK (s t : ByteArray) : Spec Tryz.prog 215 [.t (.str s), .t (.str t)] [] (.t (.bool (zdQ s t))) [] := by
  unfold zdQ
  by_cases h : t.size ≤ s.size
  · rw [decide_eq_true h, Bool.true_and]
    refine wI Tryz.func215 ?_
    repeat' (first | refine wC ?_ | (exfalso; omega) | refine wK ?_ | ((with_reducible refine vB ?_); refine yx rfl rfl rfl ⟨_, rfl⟩ rfl rfl rfl ?_ ?_ ?_ ?_) | refine zj rfl ?_ ?_ <;> intro hc)
    all_goals try omega
    all_goals exact zp (zo rfl rfl (by simp_all)) (by simp)
  · rw [decide_eq_false h, Bool.false_and]
    refine wI Tryz.func215 ?_
    repeat' (first | refine wC ?_ | (exfalso; omega) | refine wK ?_ | refine zj rfl ?_ ?_ <;> intro hc)
    all_goals try omega
    all_goals exact zp (zo rfl rfl (by simp_all)) (by simp)
set_option maxHeartbeats 2000000 in
theorem zcE (s t : ByteArray) : Spec Tryz.prog 141 [.t (.str s), .t (.str t)] [] (.t (.bool (zdQ s t))) [] := by
  have h := qK s t
  refine wI Tryz.func141 ?_
  repeat' (first | refine wC ?_ | refine wK ?_ | ((with_reducible refine ze ?_); refine wL h ?_) | fail)
  exact zp (zo rfl rfl rfl) (by simp)
def zon (s t : ByteArray) : ByteArray := if zdQ s t = true then s.extract t.size s.size else s
set_option maxHeartbeats 2000000 in
theorem zb7 (s t : ByteArray) (hs : s.size ≤ 1000000000) : Spec Tryz.prog 295 [.t (.str s), .t (.str t)] [] (.tup [.t (.str (zon s t)), .t (.bool (zdQ s t))]) [] := by
  have h := qK s t
  unfold zon
  cases hp : zdQ s t with
  | true =>
    rw [hp] at h
    have hsz : t.size ≤ s.size := by
      unfold zdQ at hp
      simp only [Bool.and_eq_true, decide_eq_true_eq] at hp
      exact hp.1
    rw [if_pos rfl]
    refine wI Tryz.func295 ?_
    repeat' (first | refine wC ?_ | refine wK ?_ | ((with_reducible refine vB ?_); refine yx rfl rfl ⟨_, rfl⟩ rfl rfl rfl rfl ?_ ?_ ?_ ?_) | ((with_reducible refine ze ?_); refine wL h ?_) | fail)
    all_goals try omega
    exact zp (zD rfl rfl rfl rfl rfl) (by simp)
  | false =>
    rw [hp] at h
    rw [if_neg (by simp)]
    refine wI Tryz.func295 ?_
    repeat' (first | refine wC ?_ | refine wK ?_ | ((with_reducible refine ze ?_); refine wL h ?_) | fail)
    all_goals try omega
    exact zp (zD rfl rfl rfl rfl rfl) (by simp)
set_option maxHeartbeats 2000000 in
theorem zcO (s t : ByteArray) (hs : s.size ≤ 1000000000) : Spec Tryz.prog 278 [.t (.str s), .t (.str t)] [] (.tup [.t (.str (zon s t)), .t (.bool (zdQ s t))]) [] := by
  have h := zb7 s t hs
  refine wI Tryz.func278 ?_
  repeat' (first | refine wC ?_ | refine wK ?_ | ((with_reducible refine ze ?_); refine wL h ?_) | fail)
  exact zp (zD rfl rfl rfl rfl rfl) (by simp)
set_option maxHeartbeats 4000000 in
theorem kA (r : Rs) (t : ByteArray) (hs : r.s.size ≤ 1000000000) : Spec Tryz.prog 234 [.ref (.par 0) 0 0 0, .t (.str t)] [(.par 0, r.row 190)] (.t (.bool (r.skip t).1)) [(.par 0, (r.skip t).2.row 190)] := by
  have h := zcO r.s t hs
  obtain ⟨s, bad⟩ := r
  simp only at h hs
  unfold Rs.skip zon Rs.row at *
  simp only
  generalize zdQ s t = hp at *
  cases hp <;> cases bad
  all_goals simp only [Bool.not_true, Bool.not_false, Bool.and_true, Bool.and_false, Bool.true_and, Bool.false_and, if_true, Bool.false_eq_true, if_false] at h ⊢
  · refine wI Tryz.func234 ?_
    repeat' (first | refine wC ?_ | refine wK ?_ | ((with_reducible refine ze ?_); refine wL h ?_) | fail)
    exact zp (zo rfl rfl rfl) (zc ⟨rfl, trivial⟩)
  · refine wI Tryz.func234 ?_
    repeat' (first | refine wC ?_ | refine wK ?_ | ((with_reducible refine ze ?_); refine wL h ?_) | fail)
    exact zp (zo rfl rfl rfl) (zc ⟨rfl, trivial⟩)
  · refine wI Tryz.func234 ?_
    repeat' (first | refine wC ?_ | refine wK ?_ | ((with_reducible refine ze ?_); refine wL h ?_) | fail)
    exact zp (zo rfl rfl rfl) (zc ⟨rfl, trivial⟩)
  · refine wI Tryz.func234 ?_
    repeat' (first | refine wC ?_ | refine wK ?_ | ((with_reducible refine ze ?_); refine wL h ?_) | fail)
    exact zp (zo rfl rfl rfl) (zc ⟨rfl, trivial⟩)
set_option maxHeartbeats 4000000 in
theorem q9 (r : Rs) (t : ByteArray) (hs : r.s.size ≤ 1000000000) : Spec Tryz.prog 279 [.ref (.par 0) 0 0 0, .t (.str t)] [(.par 0, r.row 190)] (.tup []) [(.par 0, (r.expect t).row 190)] := by
  have h := kA r t hs
  unfold Rs.expect
  have hn : ¬ (r.skip t).1 = true → (r.skip t).2 = r := zeD
  generalize r.skip t = q at *
  obtain ⟨b, q, qb⟩ := q
  obtain ⟨s, bad⟩ := r
  unfold Rs.row at *
  simp only at h hn ⊢
  cases b with
  | true =>
    rw [if_pos rfl]
    refine wI Tryz.func279 ?_
    repeat' (first | refine wC ?_ | refine wK ?_ | ((with_reducible refine ze ?_); refine wN (.t (.bool true)) [] h ?_) | fail)
    exact zns (zcw rfl) (zc ⟨rfl, trivial⟩)
  | false =>
    have := hn (by simp)
    cases this
    rw [if_neg (by simp)]
    refine wI Tryz.func279 ?_
    repeat' (first | refine wC ?_ | refine wK ?_ | ((with_reducible refine ze ?_); refine wN (.t (.bool false)) [] h ?_) | fail)
    exact zns (zcw rfl) (zc ⟨rfl, trivial⟩)
theorem zjs {e : T × T} (he : e ∈ zl1) : ∃ c l : UInt8, e = (.int .u8 (c.toNat : Int), .int .u8 (l.toNat : Int)) ∧ zi8 (l.toNat : Int) = some c := by
  have key : ∀ x ∈ zmo, zi8 (x.2.toNat : Int) = some x.1 := by decide
  obtain ⟨x, hx, rfl⟩ := List.mem_map.1 he
  exact ⟨x.1, x.2, rfl, key x hx⟩
theorem zlL {l : Int} {c : UInt8} (h : zi8 l = some c) : (T.int .u8 (c.toNat : Int), T.int .u8 l) ∈ zl1 := by
  unfold zi8 at h
  rw [Option.map_eq_some_iff] at h
  obtain ⟨x, hx, rfl⟩ := h
  have h1 := List.find?_some hx
  simp only [decide_eq_true_eq] at h1
  refine List.mem_map.2 ⟨x, List.mem_of_find?_eq_some hx, ?_⟩
  rw [h1]
def zn0 (q : Rs) : Option UInt8 → Int × Rs
  | some c => ((c.toNat : Int), q)
  | none => (0, ⟨q.s, true⟩)
theorem zlC (r : Rs) : qi r = if r.byte.1 = 117 then ((pu8 (r.byte.2.take 4).1).1, if (pu8 (r.byte.2.take 4).1).2 = true then (r.byte.2.take 4).2 else ⟨(r.byte.2.take 4).2.s, true⟩) else zn0 r.byte.2 (zi8 r.byte.1) := by
  unfold qi zn0
  split
  · rfl
  · cases zi8 r.byte.1 <;> rfl
set_option maxHeartbeats 8000000 in
theorem zfh {oS oR : Obj} (G : EOk oS oR) (r : Rs) (hs : r.s.size ≤ 1000000000) : Spec Tryz.prog 280 [.ref (.par 0) 0 0 0] [(.par 0, r.row 190), (.par 103, .dat (.fix 3 oS)), (.par 104, .dat (.fix 4 oR))] (.t (.int .u8 (qi r).1)) [(.par 0, (qi r).2.row 190), (.par 103, .dat (.fix 3 oS)), (.par 104, .dat (.fix 4 oR))] := by
  have hB := vG 190 r hs
  have hbl := wW r
  have hbr := xK r
  have hE := zaJ
  rw [zlC]
  generalize r.byte = b at *
  obtain ⟨l, q⟩ := b
  simp only at hB hbl hbr ⊢
  have hT := wH 190 q 4 (by omega)
  have hts := zby q 4
  generalize q.take 4 = t at *
  obtain ⟨t, z⟩ := t
  simp only at hT hts ⊢
  have hP := zcB G t (by omega)
  have hpr := zeL t
  generalize pu8 t = n at *
  obtain ⟨n, ok⟩ := n
  simp only at hP hpr ⊢
  have hw : IntKind.u8.wrap n = n := xo (by omega) (by omega)
  obtain ⟨s, bad⟩ := r
  obtain ⟨qs, qb⟩ := q
  obtain ⟨zs, zb⟩ := z
  unfold Rs.row at *
  simp only at hB hT ⊢
  by_cases h117 : l = 117
  · subst h117
    rw [if_pos rfl]
    cases ok with
    | true =>
      unfold eT at hP
      rw [if_pos rfl] at hP ⊢
      refine wI Tryz.func280 ?_
      repeat' (first | refine wC ?_ | refine wK ?_ | ((with_reducible refine ze ?_); first | refine wN (.t (.int .u8 117)) [] hB ?_ | refine wN (.t (.str t)) [] hT ?_ | refine wN ((.tup [.t (.int .u64 n), .t .nili])) [] hP ?_) | ((with_reducible refine zM ?_); refine xt rfl rfl rfl rfl rfl rfl ?_))
      all_goals try omega
      exact zp (zo rfl rfl (congrArg (T.int .u8) hw)) (zc ⟨rfl, rfl, rfl, trivial⟩)
    | false =>
      unfold eT at hP
      rw [if_neg (by simp)] at hP ⊢
      refine wI Tryz.func280 ?_
      repeat' (first | refine wC ?_ | refine wK ?_ | ((with_reducible refine ze ?_); first | refine wN (.t (.int .u8 117)) [] hB ?_ | refine wN (.t (.str t)) [] hT ?_ | refine wN ((.tup [.t (.int .u64 n), .t .iface])) [] hP ?_) | ((with_reducible refine zM ?_); refine xt rfl rfl rfl rfl rfl rfl ?_))
      all_goals try omega
      exact zp (zo rfl rfl (congrArg (T.int .u8) hw)) (zc ⟨rfl, rfl, rfl, trivial⟩)
  · rw [if_neg h117]
    clear hT hP
    obtain ⟨R, hR⟩ : ∃ R, R = zn0 ⟨qs, qb⟩ (zi8 l) := ⟨_, rfl⟩
    rw [← hR]
    refine wI Tryz.func280 ?_
    repeat' (first | refine wC ?_ | (exfalso; omega) | refine wK ?_ | ((with_reducible refine ze ?_); first | refine wN (.t (.int .u8 l)) [] hB ?_ | refine wN (.row (.loc 900)) [(.res 0, .loc 900)] hE ?_) | ((with_reducible refine zmQ ?_); refine zfn rfl rfl rfl rfl rfl rfl rfl ?_) | refine zd rfl ?_ ?_ <;> intro hc)
    refine zl (za [0, 3, 31] [.par 0, .loc 31, .par 103, .par 104] rfl rfl) ?_
    refine zz (fun k env st => ∃ (left : List (T × T)) (last : Option (T × T)), k = left.length ∧ (∀ e ∈ left, e ∈ zl1) ∧ (∀ e ∈ zl1, e.2 = .int .u8 l → e ∈ left) ∧
        env = EnvL.get [(0, .ref (.par 0) 0 0 0), (3, .t (.int .u8 l)), (31, .ref (.loc 31) 0 0 0)] ∧
        st = StO.get [(.par 0, some (.var 190 [.t (.str qs), .t (.bool qb)])), (.loc 31, some (.dat (.miter last left))), (.par 103, some (.dat (.fix 3 oS))), (.par 104, some (.dat (.fix 4 oR)))])
      ?_ (n := 7) ⟨zl1, none, rfl, fun e he => he, fun e he _ => he, rfl, rfl⟩
    rintro k env st ⟨left, last, rfl, hsub, hall, rfl, rfl⟩
    refine jy ?_
    refine zcS rfl rfl rfl rfl rfl rfl (fun h0 => ?_) (fun k v l1 l2 hl => ?_)
    · have hN : zi8 l = none := by
        cases h : zi8 l with
        | none => rfl
        | some c =>
          have := hall _ (zlL h) rfl
          rw [h0] at this; cases this
      rw [hN, zn0] at hR
      repeat' (first | refine wC ?_ | refine wK ?_ | fail)
      rw [hR]
      exact zp (zo rfl rfl rfl) (zc ⟨rfl, rfl, rfl, trivial⟩)
    · obtain ⟨c, x, hkv, hx⟩ := zjs (hsub (k, v) (by rw [hl]; simp))
      cases hkv
      by_cases hxl : (x.toNat : Int) = l
      · rw [← hxl, hx, zn0] at hR
        repeat' (first | refine wC ?_ | (exfalso; omega) | refine wK ?_ | ((with_reducible refine zj3 ?_); refine zg9 rfl rfl rfl rfl rfl rfl ?_) | refine zd rfl ?_ ?_ <;> intro hc)
        rw [hR]
        exact zp (zo rfl rfl rfl) (zc ⟨rfl, rfl, rfl, trivial⟩)
      · repeat' (first | refine wC ?_ | (exfalso; omega) | refine wK ?_ | ((with_reducible refine zj3 ?_); refine zg9 rfl rfl rfl rfl rfl rfl ?_) | refine zd rfl ?_ ?_ <;> intro hc)
        exact zI (n' := (l1 ++ l2).length) (by rw [hl]; simp) (za [0, 3, 31] [.par 0, .loc 31, .par 103, .par 104] rfl rfl) ⟨l1 ++ l2, _, rfl, fun e he => hsub e (by rw [hl]; simp at he ⊢; rcases he with h | h <;> simp [h]), fun e he h => by
          have h2 := hall e he h
          rw [hl] at h2
          simp only [List.mem_append, List.mem_cons] at h2 ⊢
          rcases h2 with h3 | rfl | h3
          · exact .inl h3
          · simp only [T.int.injEq, true_and] at h
            exact absurd h hxl
          · exact .inr h3, rfl, rfl⟩
theorem wF (l : List UInt8) (c : Int) (h0 : 0 ≤ c) (h1 : c < 256) : u8L l ++ [T.int .u8 c] = u8L (l ++ [UInt8.ofNat c.toNat]) := by
  rw [zP]
  congr 1
  show [T.int .u8 c] = [T.int .u8 ((UInt8.ofNat c.toNat).toNat : Int)]
  rw [UInt8.toNat_ofNat', Nat.mod_eq_of_lt (by omega), Int.toNat_of_nonneg h0]
set_option maxHeartbeats 8000000 in
theorem zcT {oS oR : Obj} (G : EOk oS oR) (r : Rs) (hs : r.s.size ≤ 1000000) : Spec Tryz.prog 236 [.ref (.par 0) 0 0 0] [(.par 0, r.row 190), (.par 103, .dat (.fix 3 oS)), (.par 104, .dat (.fix 4 oR))] (.t (.str (xf r).1)) [(.par 0, (xf r).2.row 190), (.par 103, .dat (.fix 3 oS)), (.par 104, .dat (.fix 4 oR))] := by
  have hX := q9 r qS (by omega)
  have hXl := qY r qS
  obtain ⟨res, hres⟩ : ∃ res, res = xf r := ⟨_, rfl⟩
  rw [← hres]
  unfold xf at hres
  generalize r.expect qS = q0 at *
  obtain ⟨s, bad⟩ := r
  obtain ⟨q0s, q0b⟩ := q0
  unfold Rs.row at *
  simp only at hX hXl hres hs ⊢
  refine wIG Tryz.func236 ?_
  repeat' (first | refine wC ?_ | refine wK ?_ | ((with_reducible refine ze ?_); refine wN (.tup []) [] hX ?_) | fail)
  refine zl (kz 3 (.loc 1000) 5 1 rfl rfl rfl) ?_
  refine zl (za [0, 3] [.par 0, .loc 1000, .par 103, .par 104] rfl rfl) ?_
  refine zz (fun m env st => ∃ (out : List UInt8) (q : Rs), q.s.size ≤ 1000000 ∧ (q.bad = false → q.s.size + 1 ≤ m) ∧ out.length + m ≤ 1000002 ∧ res = wM m out q ∧
      env = EnvL.get [(0, .ref (.par 0) 0 0 0), (3, .row (.loc 1000))] ∧
      st = StO.get [(.par 0, some (.var 190 [.t (.str q.s), .t (.bool q.bad)])), (.loc 1000, some (.slt 5 1 (u8L out))), (.par 103, some (.dat (.fix 3 oS))), (.par 104, some (.dat (.fix 4 oR)))])
    ?_ (n := s.size + 2) ⟨[], ⟨q0s, q0b⟩, by simp only; omega, fun _ => by simp only; omega, by simp only [List.length_nil]; omega, hres, rfl, rfl⟩
  rintro m env st ⟨out, ⟨qs, qb⟩, hq, hm, hol, hi, rfl, rfl⟩
  simp only at hq hm ⊢
  clear hX hres
  cases qb with
  | true =>
    have hi2 : res = (eS, ⟨qs, true⟩) := by
      rw [hi]
      cases m with
      | zero => rfl
      | succ m => rw [wM, if_pos rfl]
    rw [hi2]
    repeat' (first | refine wC ?_ | refine wK ?_ | fail)
    exact zL (zp (zo rfl rfl rfl) (zc ⟨rfl, rfl, rfl, trivial⟩))
  | false =>
    have hm1 := hm rfl
    obtain ⟨m, rfl⟩ : ∃ k, m = k + 1 := ⟨m - 1, by omega⟩
    rw [wM, if_neg (by simp)] at hi
    have hB := vG 190 ⟨qs, false⟩ (by simp only; omega)
    have hbl := wW ⟨qs, false⟩
    have hbr := xK ⟨qs, false⟩
    have hbg : (Rs.byte ⟨qs, false⟩).2.bad = false → (Rs.byte ⟨qs, false⟩).2.s.size + 1 = qs.size := fun h => (xC h).2
    generalize Rs.byte ⟨qs, false⟩ = b at *
    obtain ⟨c, z⟩ := b
    simp only at hB hbl hbr hbg hi
    have hE := zfh G z (by omega)
    have hEl := zhE z
    have hEr := zgI z
    have hEg := @zdN z
    generalize qi z = e at *
    obtain ⟨v, y⟩ := e
    obtain ⟨zs, zb⟩ := z
    obtain ⟨ys, yb⟩ := y
    unfold Rs.row at *
    simp only at hB hbl hbr hbg hE hEl hEr hEg hi
    by_cases h34 : c = 34
    · rw [if_pos h34] at hi
      rw [hi]
      repeat' (first | refine wC ?_ | (exfalso; omega) | refine wK ?_ | ((with_reducible refine yJ ?_); refine z6 rfl rfl rfl rfl rfl rfl ?_ ?_) | ((with_reducible refine ze ?_); refine wN (.t (.int .u8 c)) [] hB ?_) | refine zd rfl ?_ ?_ <;> intro hc)
      all_goals try exact vt _
      exact zL (zp (zo rfl rfl (congrArg T.str (by rw [xU]))) (zc ⟨rfl, rfl, rfl, trivial⟩))
    rw [if_neg h34] at hi
    by_cases h92 : c = 92
    · rw [if_pos h92] at hi
      repeat' (first | refine wC ?_ | (exfalso; omega) | refine wK ?_ | ((with_reducible refine zw ?_); refine zh rfl rfl rfl rfl rfl rfl rfl rfl rfl rfl ?_ ?_ ?_) | ((with_reducible refine ze ?_); first | refine wN (.t (.int .u8 c)) [] hB ?_ | refine wN (.t (.int .u8 v)) [] hE ?_) | refine zd rfl ?_ ?_ <;> intro hc)
      all_goals try (simp only [zZ, List.length_singleton]; omega)
      exact zI (n' := m) (by omega) ((za [0, 3] [.par 0, .loc 32, .par 103, .par 104] rfl rfl).trans (zg (.loc 32) (.loc 1000) rfl rfl rfl rfl)) ⟨out ++ [UInt8.ofNat v.toNat], ⟨ys, yb⟩, by simp only; omega, fun h => by
        have h1 := hEg h
        have h2 := hbg h1.1
        have h3 := h1.2
        simp only at h3 ⊢; omega, by simp only [List.length_append, List.length_singleton]; omega, hi, rfl, by rw [← wF out v hEr.1 hEr.2]; rfl⟩
    · rw [if_neg h92] at hi
      repeat' (first | refine wC ?_ | (exfalso; omega) | refine wK ?_ | ((with_reducible refine zw ?_); refine zh rfl rfl rfl rfl rfl rfl rfl rfl rfl rfl ?_ ?_ ?_) | ((with_reducible refine ze ?_); refine wN (.t (.int .u8 c)) [] hB ?_) | refine zd rfl ?_ ?_ <;> intro hc)
      all_goals try (simp only [zZ, List.length_singleton]; omega)
      exact zI (n' := m) (by omega) ((za [0, 3] [.par 0, .loc 21, .par 103, .par 104] rfl rfl).trans (zg (.loc 21) (.loc 1000) rfl rfl rfl rfl)) ⟨out ++ [UInt8.ofNat c.toNat], ⟨zs, zb⟩, by simp only; omega, fun h => by
        have h2 := hbg h
        simp only at h2 ⊢; omega, by simp only [List.length_append, List.length_singleton]; omega, hi, rfl, by rw [← wF out c hbr.1 hbr.2]; rfl⟩
theorem zm6 (p : UInt8 → Bool) : ∀ (l : List UInt8) (j : Nat), j < (l.takeWhile p).length → j < l.length ∧ p (l.getD j default) = true
  | [], j, h => by simp at h
  | c :: l, j, h => by
    rw [List.takeWhile_cons] at h
    cases hp : p c with
    | false => rw [hp] at h; simp at h
    | true =>
      rw [hp] at h
      cases j with
      | zero => exact ⟨by simp, by simpa using hp⟩
      | succ j =>
        have := zm6 p l j (by simpa using h)
        exact ⟨by simpa using this.1, by simpa using this.2⟩
theorem zk0 (p : UInt8 → Bool) : ∀ (l : List UInt8), (l.takeWhile p).length < l.length → p (l.getD (l.takeWhile p).length default) = false
  | [], h => by simp at h
  | c :: l, h => by
    rw [List.takeWhile_cons] at h ⊢
    cases hp : p c with
    | false => rw [if_neg (by simp)]; simpa using hp
    | true =>
      rw [hp] at h
      rw [if_pos rfl]
      have := zk0 p l (by simpa using h)
      simpa using this
theorem zoe (p : UInt8 → Bool) : ∀ (l : List UInt8), (l.takeWhile p).length ≤ l.length
  | [] => by simp
  | c :: l => by
    rw [List.takeWhile_cons]
    have := zoe p l
    split <;> simp <;> omega
theorem zc6 (b : UInt8) : xY b = true ↔ ((b.toNat : Int) = 45 ∨ (48 ≤ (b.toNat : Int) ∧ (b.toNat : Int) ≤ 57)) := by
  have h : b = 45 ↔ (b.toNat : Int) = 45 := by
    constructor
    · rintro rfl; rfl
    · intro h; exact UInt8.toNat_inj.1 (by show b.toNat = 45; omega)
  unfold xY
  simp only [Bool.or_eq_true, Bool.and_eq_true, decide_eq_true_eq, h]
  omega
theorem zlM (r : Rs) : vE r = ((zgx (r.take (zcA r.s)).1.data.toList).1, if (zgx (r.take (zcA r.s)).1.data.toList).2 = true then (r.take (zcA r.s)).2 else ⟨(r.take (zcA r.s)).2.s, true⟩) := by
  unfold vE zgx
  cases Lib.atoiAll (r.take (zcA r.s)).1.data.toList <;> simp
set_option maxHeartbeats 8000000 in
theorem zkF {oS oR : Obj} (G : EOk oS oR) (r : Rs) (hs : r.s.size ≤ 1000000) : Spec Tryz.prog 237 [.ref (.par 0) 0 0 0] [(.par 0, r.row 190), (.par 103, .dat (.fix 3 oS)), (.par 104, .dat (.fix 4 oR))] (.t (.int .i64 (vE r).1)) [(.par 0, (vE r).2.row 190), (.par 103, .dat (.fix 3 oS)), (.par 104, .dat (.fix 4 oR))] := by
  have hT := wH 190 r (zcA r.s) (by omega)
  have hts := zby r (zcA r.s)
  rw [zlM]
  generalize r.take (zcA r.s) = t at *
  obtain ⟨t, z⟩ := t
  simp only at hT hts ⊢
  have hA := zkX G t (by omega)
  generalize zgx t.data.toList = n at *
  obtain ⟨n, ok⟩ := n
  obtain ⟨s, bad⟩ := r
  obtain ⟨zs, zb⟩ := z
  unfold Rs.row at *
  simp only at hT hts hA hs ⊢
  have hlen : s.data.toList.length = s.size := by rw [Array.length_toList]; rfl
  have hlt := zm6 xY s.data.toList
  have hend := zk0 xY s.data.toList
  have hle := zoe xY s.data.toList
  rw [show (s.data.toList.takeWhile xY).length = zcA s from rfl] at hlt hend hle
  generalize zcA s = k at *
  refine wI Tryz.func237 ?_
  repeat' (first | refine wC ?_ | refine wK ?_ | fail)
  refine zl (za [0, 3] [.par 0, .par 103, .par 104] rfl rfl) ?_
  refine zz (fun p env st => ∃ (j : Nat), j ≤ k ∧ p = k - j ∧
      env = EnvL.get [(0, .ref (.par 0) 0 0 0), (3, .t (.int .i64 (j : Int)))] ∧
      st = StO.get [(.par 0, some (.var 190 [.t (.str s), .t (.bool bad)])), (.par 103, some (.dat (.fix 3 oS))), (.par 104, some (.dat (.fix 4 oR)))])
    ?_ (n := k) ⟨0, by omega, rfl, rfl, rfl⟩
  rintro p env st ⟨j, hj, rfl, rfl, rfl⟩
  have hbt : bAt s (j : Int) = ((s.data.toList.getD j default).toNat : Int) := rfl
  by_cases hlk : j < k
  · have hc := hlt j hlk
    have hb := (zc6 _).1 hc.2
    rw [← hbt] at hb
    have hjs : j < s.size := by rw [← hlen]; exact hc.1
    clear hlt hend hT hA hc
    have wj : IntKind.i64.wrap ((j : Int) + 1) = ((j + 1 : Nat) : Int) := by rw [zr (by omega) (by omega)]; omega
    repeat' (first | refine wC ?_ | (exfalso; omega) | refine wK ?_ | ((with_reducible refine zy ?_); refine zf rfl rfl rfl rfl rfl rfl ?_ ?_ ?_) | refine zd rfl ?_ ?_ <;> intro hc | refine zj rfl ?_ ?_ <;> intro hc)
    all_goals try omega
    all_goals exact zI (n' := k - (j + 1)) (by omega) (za [0, 3] [.par 0, .par 103, .par 104] rfl rfl) ⟨j + 1, by omega, rfl, by rw [wj]; rfl, rfl⟩
  · obtain rfl : j = k := by omega
    have hb : (j : Int) < s.size → ¬ (bAt s (j : Int) = 45 ∨ (48 ≤ bAt s (j : Int) ∧ bAt s (j : Int) ≤ 57)) := fun h h2 => by
      have := hend (by omega)
      rw [hbt] at h2
      rw [(zc6 _).2 h2] at this
      cases this
    clear hlt hend
    cases ok with
    | true =>
      unfold eT at hA
      rw [if_pos rfl] at hA ⊢
      repeat' (first | refine wC ?_ | (exfalso; omega) | refine wK ?_ | ((with_reducible refine zy ?_); refine zf rfl rfl rfl rfl rfl rfl ?_ ?_ ?_) | ((with_reducible refine ze ?_); first | refine wN (.t (.str t)) [] hT ?_ | refine wN ((.tup [.t (.int .i64 n), .t .nili])) [] hA ?_) | ((with_reducible refine zM ?_); refine xt rfl rfl rfl rfl rfl rfl ?_) | refine zd rfl ?_ ?_ <;> intro hc | refine zj rfl ?_ ?_ <;> intro hc)
      all_goals try omega
      all_goals exact zp (zo rfl rfl rfl) (zc ⟨rfl, rfl, rfl, trivial⟩)
    | false =>
      unfold eT at hA
      rw [if_neg (by simp)] at hA ⊢
      repeat' (first | refine wC ?_ | (exfalso; omega) | refine wK ?_ | ((with_reducible refine zy ?_); refine zf rfl rfl rfl rfl rfl rfl ?_ ?_ ?_) | ((with_reducible refine ze ?_); first | refine wN (.t (.str t)) [] hT ?_ | refine wN ((.tup [.t (.int .i64 n), .t .iface])) [] hA ?_) | ((with_reducible refine zM ?_); refine xt rfl rfl rfl rfl rfl rfl ?_) | refine zd rfl ?_ ?_ <;> intro hc | refine zj rfl ?_ ?_ <;> intro hc)
      all_goals try omega
      all_goals exact zp (zo rfl rfl rfl) (zc ⟨rfl, rfl, rfl, trivial⟩)
theorem zg8 (f : Rs → Nd × Rs) (k : Int) (e : ByteArray) (c : Nat) (first : Bool) (ns : List ByteArray) (is : List Nd) (s : ByteArray) : zX f k e c first ns is ⟨s, true⟩ = (.mk k false 0 eS ns is, ⟨s, true⟩) := by
  cases c with
  | zero => rfl
  | succ c => rw [zX, if_pos rfl]
set_option maxHeartbeats 16000000 in
theorem zco {oS oR : Obj} (G : EOk oS oR) (d : Nat) (hd : d ≤ 1000) (B : Nat) (hB : B ≤ 1000000)
    (IH : ∀ q : Rs, q.s.size ≤ B → Spec Tryz.prog 165 [.ref (.par 0) 0 0 0, .t (.int .i64 (d : Int))] [(.par 0, q.row 190), (.par 103, .dat (.fix 3 oS)), (.par 104, .dat (.fix 4 oR))] (.t (yy d q).1.toT) [(.par 0, (yy d q).2.row 190), (.par 103, .dat (.fix 3 oS)), (.par 104, .dat (.fix 4 oR))])
    (k : Int) (hk : k = 4 ∨ k = 5) (e : ByteArray) (r : Rs) (hr : r.s.size ≤ B) :
    Spec Tryz.prog 235 [.ref (.par 0) 0 0 0, .t (.agg [.int .i64 k, .bool false, .int .i64 0, .str ⟨#[]⟩, .nilsl, .nilsl]), .t (.str e), .t (.int .i64 ((d + 1 : Nat) : Int))] [(.par 0, r.row 190), (.par 103, .dat (.fix 3 oS)), (.par 104, .dat (.fix 4 oR))] (.t (zX (yy d) k e (r.s.size + 2) true [] [] r).1.toT) [(.par 0, (zX (yy d) k e (r.s.size + 2) true [] [] r).2.row 190), (.par 103, .dat (.fix 3 oS)), (.par 104, .dat (.fix 4 oR))] := by
  generalize hres : zX (yy d) k e (r.s.size + 2) true [] [] r = res
  have hNB := zbf B (by omega) d
  have hLs := zif d
  generalize yy d = f at *
  unfold Rs.row
  refine wIG Tryz.func235 ?_
  repeat' (first | refine wC ?_ | refine wK ?_ | fail)
  refine zl (zH (r := .loc 5) 5 (.loc 900) 30 6 rfl rfl rfl rfl rfl) ?_
  refine zl (zH (r := .loc 5) 4 (.loc 901) 9 1 rfl rfl rfl rfl rfl) ?_
  refine zl (za [0, 2, 3, 5, 8, 9] [.par 0, .loc 5, .loc 8, .loc 900, .loc 901, .par 103, .par 104] rfl rfl) ?_
  refine zz (fun m env st => ∃ (first : Bool) (ns : List ByteArray) (is : List Nd) (q : Rs), m ≤ 1000002 ∧ ns.length + m ≤ 1000002 ∧ is.length + m ≤ 1000002 ∧ q.s.size ≤ B ∧ (q.bad = false → q.s.size + 1 ≤ m) ∧ zX f k e m first ns is q = res ∧
      env = EnvL.get [(0, .ref (.par 0) 0 0 0), (2, .t (.str e)), (3, .t (.int .i64 ((d + 1 : Nat) : Int))), (5, .ref (.loc 5) 0 0 0), (8, .ref (.loc 8) 0 0 0), (9, .t (.bool first))] ∧
      st = StO.get [(.par 0, some (.var 190 [.t (.str q.s), .t (.bool q.bad)])), (.loc 5, some (.var 30 [.t (.int .i64 k), .t (.bool false), .t (.int .i64 0), .t (.str ⟨#[]⟩), .row (.loc 901), .row (.loc 900)])), (.loc 8, some (.var 30 [.t (.int .i64 0), .t (.bool false), .t (.int .i64 0), .t (.str ⟨#[]⟩), .t .nilsl, .t .nilsl])), (.loc 900, some (.slt 30 6 (is.map Nd.toT))), (.loc 901, some (.slt 9 1 (ns.map .str))), (.par 103, some (.dat (.fix 3 oS))), (.par 104, some (.dat (.fix 4 oR)))])
    ?_ (n := r.s.size + 2) ⟨true, [], [], r, by omega, by simp; omega, by simp; omega, hr, fun _ => by omega, hres, rfl, rfl⟩
  rintro m env st ⟨first, ns, is, ⟨qs, qb⟩, hm, hns, his, hq, hfu, hi, rfl, rfl⟩
  have hN : ∀ (v : Int) (q : Rs), v = (d : Int) → q.s.size ≤ B → Spec Tryz.prog 165 [.ref (.par 0) 0 0 0, .t (.int .i64 v)] [(.par 0, .var 190 [.t (.str q.s), .t (.bool q.bad)]), (.par 103, .dat (.fix 3 oS)), (.par 104, .dat (.fix 4 oR))] (.t (f q).1.toT) [(.par 0, .var 190 [.t (.str (f q).2.s), .t (.bool (f q).2.bad)]), (.par 103, .dat (.fix 3 oS)), (.par 104, .dat (.fix 4 oR))] := fun v q hv hq => by subst hv; exact IH q hq
  clear hres IH hr
  simp only at hq hfu ⊢
  cases qb with
  | true =>
    rw [zg8] at hi
    repeat' (first | refine wC ?_ | refine wK ?_ | fail)
    all_goals try (exfalso; omega)
    rw [← hi]
    simp only
    rw [Nd.toT_eq]
    refine zv (za [8] [.par 0, .loc 8, .loc 900, .loc 901, .par 103, .par 104] rfl rfl) ?_
    refine zv (zB (id := .loc 900) rfl rfl rfl) ?_; refine zv (zB (id := .loc 901) rfl rfl rfl) ?_
    exact wB
  | false =>
    have hm1 := hfu rfl
    obtain ⟨m, rfl⟩ : ∃ k, m = k + 1 := ⟨m - 1, by omega⟩
    have hS := kA ⟨qs, false⟩ e (by simp only; omega)
    have hSn := @zeD ⟨qs, false⟩ e
    rw [zX, if_neg (by simp)] at hi
    generalize Rs.skip ⟨qs, false⟩ e = S at hS hSn hi
    obtain ⟨sb, ⟨ss, sbad⟩⟩ := S
    unfold Rs.row at hS
    simp only at hS hSn hi
    cases sb with
    | true =>
      rw [if_pos rfl] at hi
      repeat' (first | refine wC ?_ | refine wK ?_ | ((with_reducible refine ze ?_); refine wN (.t (.bool true)) [] hS ?_) | fail)
      all_goals try (exfalso; omega)
      rw [← hi]
      simp only
      rw [Nd.toT_eq]
      refine zv (za [8] [.par 0, .loc 8, .loc 900, .loc 901, .par 103, .par 104] rfl rfl) ?_
      refine zv (zB (id := .loc 900) rfl rfl rfl) ?_; refine zv (zB (id := .loc 901) rfl rfl rfl) ?_
      exact wB
    | false =>
      have := hSn (by simp)
      cases this
      clear hSn
      rw [if_neg (by simp)] at hi
      have hJl := zjl first ⟨qs, false⟩
      have hJ : first = false → Spec Tryz.prog 279 [.ref (.par 0) 0 0 0, .t (.str ⟨#[44]⟩)] [(.par 0, .var 190 [.t (.str qs), .t (.bool false)])] (.tup []) [(.par 0, .var 190 [.t (.str (kD first ⟨qs, false⟩).s), .t (.bool (kD first ⟨qs, false⟩).bad)])] := fun h => by
        subst h
        exact q9 ⟨qs, false⟩ ⟨#[44]⟩ (by simp only; omega)
      have hJt : first = true → kD first ⟨qs, false⟩ = ⟨qs, false⟩ := fun h => by subst h; rfl
      generalize kD first ⟨qs, false⟩ = J at *
      obtain ⟨js, jb⟩ := J
      simp only at hJl hJ hJt
      rcases hk with rfl | rfl
      · rw [if_neg (by decide)] at hi
        replace hN := hN (IntKind.i64.wrap (((d + 1 : Nat) : Int) - 1)) ⟨js, jb⟩ (by rw [zr (by omega) (by omega)]; omega) (by simp only; omega)
        have hb := hNB ⟨js, jb⟩ (by simp only; omega)
        have hl := hLs ⟨js, jb⟩
        generalize f ⟨js, jb⟩ = y at hi hN hb hl
        obtain ⟨x, us, ub⟩ := y
        have hT := x.toT_full
        simp only at hN hi hb hl
        rw [hT] at hN
        cases first with
        | true =>
          cases hJt rfl
          clear hJ hJt
          repeat' (first | refine wC ?_ | refine wK ?_ | ((with_reducible refine zw ?_); refine zh rfl rfl rfl rfl rfl rfl rfl rfl rfl rfl ?_ ?_ ?_) | ((with_reducible refine ze ?_); first | refine wN (.t (.bool false)) [] hS ?_ | refine wN (.t (.agg [.int .i64 x.kind, .bool x.bool, .int .i64 x.num, .str x.text, .sl 1 (x.names.map .str), .sl 6 (x.items.map Nd.toT)])) [] hN ?_) | fail)
          all_goals try (exfalso; omega)
          all_goals try (simp only [List.length_map, List.length_cons, List.length_nil]; omega)
          refine zI (n' := m) (by omega) ((za [0, 2, 3, 5, 8, 9] [.par 0, .loc 5, .loc 8, .loc 45, .loc 901, .par 103, .par 104] rfl rfl).trans (zg (.loc 45) (.loc 900) rfl rfl rfl rfl)) ⟨false, ns, is ++ [x], ⟨us, ub⟩, by omega, by omega, by simp only [List.length_append, List.length_cons, List.length_nil]; omega, hb.1, fun h => by have := (hl h).2; simp only at this ⊢; omega, hi, rfl, ?_⟩
          rw [List.map_append, List.map_singleton, hT]; rfl
        | false =>
          replace hJ := hJ rfl
          clear hJt
          repeat' (first | refine wC ?_ | refine wK ?_ | ((with_reducible refine zw ?_); refine zh rfl rfl rfl rfl rfl rfl rfl rfl rfl rfl ?_ ?_ ?_) | ((with_reducible refine ze ?_); first | refine wN (.t (.bool false)) [] hS ?_ | refine wN (.tup []) [] hJ ?_ | refine wN (.t (.agg [.int .i64 x.kind, .bool x.bool, .int .i64 x.num, .str x.text, .sl 1 (x.names.map .str), .sl 6 (x.items.map Nd.toT)])) [] hN ?_) | fail)
          all_goals try (exfalso; omega)
          all_goals try (simp only [List.length_map, List.length_cons, List.length_nil]; omega)
          refine zI (n' := m) (by omega) ((za [0, 2, 3, 5, 8, 9] [.par 0, .loc 5, .loc 8, .loc 45, .loc 901, .par 103, .par 104] rfl rfl).trans (zg (.loc 45) (.loc 900) rfl rfl rfl rfl)) ⟨false, ns, is ++ [x], ⟨us, ub⟩, by omega, by omega, by simp only [List.length_append, List.length_cons, List.length_nil]; omega, hb.1, fun h => by have := (hl h).2; simp only at this ⊢; omega, hi, rfl, ?_⟩
          rw [List.map_append, List.map_singleton, hT]; rfl
      · rw [if_pos rfl] at hi
        have hM := zcT G ⟨js, jb⟩ (by simp only; omega)
        have hMl := zbr ⟨js, jb⟩
        generalize xf ⟨js, jb⟩ = T at hi hM hMl
        obtain ⟨nm, ⟨ts, tb⟩⟩ := T
        simp only at hi hMl
        have hC := q9 ⟨ts, tb⟩ ⟨#[58]⟩ (by simp only; omega)
        have hCl := qY ⟨ts, tb⟩ ⟨#[58]⟩
        have hCg := @qh ⟨ts, tb⟩ ⟨#[58]⟩
        generalize Rs.expect ⟨ts, tb⟩ ⟨#[58]⟩ = C at hi hC hCl hCg
        obtain ⟨cs, cb⟩ := C
        simp only at hCl hCg
        replace hN := hN (IntKind.i64.wrap (((d + 1 : Nat) : Int) - 1)) ⟨cs, cb⟩ (by rw [zr (by omega) (by omega)]; omega) (by simp only; omega)
        have hb := hNB ⟨cs, cb⟩ (by simp only; omega)
        have hl := hLs ⟨cs, cb⟩
        generalize f ⟨cs, cb⟩ = y at hi hN hb hl
        unfold Rs.row at hM hC
        obtain ⟨x, us, ub⟩ := y
        have hT := x.toT_full
        simp only at hN hi hb hl hM hC
        rw [hT] at hN
        cases first with
        | true =>
          cases hJt rfl
          clear hJ hJt
          repeat' (first | refine wC ?_ | refine wK ?_ | ((with_reducible refine zw ?_); refine zh rfl rfl rfl rfl rfl rfl rfl rfl rfl rfl ?_ ?_ ?_) | ((with_reducible refine ze ?_); first | refine wN (.t (.bool false)) [] hS ?_ | refine wN (.t (.str nm)) [] hM ?_ | refine wN (.tup []) [] hC ?_ | refine wN (.t (.agg [.int .i64 x.kind, .bool x.bool, .int .i64 x.num, .str x.text, .sl 1 (x.names.map .str), .sl 6 (x.items.map Nd.toT)])) [] hN ?_) | fail)
          all_goals try (exfalso; omega)
          all_goals try (simp only [List.length_map, List.length_cons, List.length_nil]; omega)
          refine zI (n' := m) (by omega) ((za [0, 2, 3, 5, 8, 9] [.par 0, .loc 5, .loc 8, .loc 45, .loc 34, .par 103, .par 104] rfl rfl).trans ((zg (.loc 45) (.loc 900) rfl rfl rfl rfl).trans (zg (.loc 34) (.loc 901) rfl rfl rfl rfl))) ⟨false, ns ++ [nm], is ++ [x], ⟨us, ub⟩, by omega, by simp only [List.length_append, List.length_cons, List.length_nil]; omega, by simp only [List.length_append, List.length_cons, List.length_nil]; omega, hb.1, fun h => by have := (hl h).2; simp only at this ⊢; omega, hi, rfl, ?_⟩
          rw [List.map_append, List.map_append, List.map_singleton, List.map_singleton, hT]; rfl
        | false =>
          replace hJ := hJ rfl
          clear hJt
          repeat' (first | refine wC ?_ | refine wK ?_ | ((with_reducible refine zw ?_); refine zh rfl rfl rfl rfl rfl rfl rfl rfl rfl rfl ?_ ?_ ?_) | ((with_reducible refine ze ?_); first | refine wN (.t (.bool false)) [] hS ?_ | refine wN (.tup []) [] hJ ?_ | refine wN (.t (.str nm)) [] hM ?_ | refine wN (.tup []) [] hC ?_ | refine wN (.t (.agg [.int .i64 x.kind, .bool x.bool, .int .i64 x.num, .str x.text, .sl 1 (x.names.map .str), .sl 6 (x.items.map Nd.toT)])) [] hN ?_) | fail)
          all_goals try (exfalso; omega)
          all_goals try (simp only [List.length_map, List.length_cons, List.length_nil]; omega)
          refine zI (n' := m) (by omega) ((za [0, 2, 3, 5, 8, 9] [.par 0, .loc 5, .loc 8, .loc 45, .loc 34, .par 103, .par 104] rfl rfl).trans ((zg (.loc 45) (.loc 900) rfl rfl rfl rfl).trans (zg (.loc 34) (.loc 901) rfl rfl rfl rfl))) ⟨false, ns ++ [nm], is ++ [x], ⟨us, ub⟩, by omega, by simp only [List.length_append, List.length_cons, List.length_nil]; omega, by simp only [List.length_append, List.length_cons, List.length_nil]; omega, hb.1, fun h => by have := (hl h).2; simp only at this ⊢; omega, hi, rfl, ?_⟩
          rw [List.map_append, List.map_append, List.map_singleton, List.map_singleton, hT]; rfl
theorem jG {s : ByteArray} {bad : Bool} {t : ByteArray} (hs : s.size ≤ 1000000000) (h : ¬ (Rs.skip ⟨s, bad⟩ t).1 = true) : Spec Tryz.prog 234 [.ref (.par 0) 0 0 0, .t (.str t)] [(.par 0, .var 190 [.t (.str s), .t (.bool bad)])] (.t (.bool false)) [(.par 0, .var 190 [.t (.str s), .t (.bool bad)])] := by
  have h1 := kA ⟨s, bad⟩ t hs
  rw [zeD h] at h1
  have h2 : (Rs.skip ⟨s, bad⟩ t).1 = false := by simpa using h
  rw [h2] at h1
  exact h1
theorem qV {s : ByteArray} {bad : Bool} {t : ByteArray} (hs : s.size ≤ 1000000000) (h : (Rs.skip ⟨s, bad⟩ t).1 = true) : Spec Tryz.prog 234 [.ref (.par 0) 0 0 0, .t (.str t)] [(.par 0, .var 190 [.t (.str s), .t (.bool bad)])] (.t (.bool true)) [(.par 0, .var 190 [.t (.str (Rs.skip ⟨s, bad⟩ t).2.s), .t (.bool (Rs.skip ⟨s, bad⟩ t).2.bad)])] := by
  have h1 := kA ⟨s, bad⟩ t hs
  rw [h] at h1
  exact h1
set_option maxHeartbeats 16000000 in
theorem zcV {oS oR : Obj} (G : EOk oS oR) : ∀ (d : Nat), d ≤ 1000 → ∀ r : Rs, r.s.size ≤ 1000000 → Spec Tryz.prog 165 [.ref (.par 0) 0 0 0, .t (.int .i64 (d : Int))] [(.par 0, r.row 190), (.par 103, .dat (.fix 3 oS)), (.par 104, .dat (.fix 4 oR))] (.t (yy d r).1.toT) [(.par 0, (yy d r).2.row 190), (.par 103, .dat (.fix 3 oS)), (.par 104, .dat (.fix 4 oR))]
  | 0, hd, r, hr => by
    obtain ⟨s, bad⟩ := r
    rw [yy]
    unfold Rs.row
    simp only
    rw [zJ]
    refine wI Tryz.func165 ?_
    repeat' (first | refine wC ?_ | refine wK ?_ | fail)
    all_goals try (exfalso; omega)
    exact wD
  | d + 1, hd, r, hr => by
    have IH := zcV G d (by omega)
    obtain ⟨s, bad⟩ := r
    simp only at hr
    have hs : s.size ≤ 1000000000 := by omega
    rw [yy]
    by_cases h0 : (Rs.skip ⟨s, bad⟩ vA).1 = true
    · rw [if_pos h0]
      have y := qV hs h0
      have yl := qR ⟨s, bad⟩ vA
      generalize Rs.skip ⟨s, bad⟩ vA = S at *
      obtain ⟨sb, ⟨qs, qb⟩⟩ := S
      simp only at y yl h0
      subst h0
      clear IH
      unfold Rs.row
      simp only
      rw [zJ]
      replace y : Spec _ _ [_, .t (.str ⟨#[110, 117, 108, 108]⟩)] _ _ _ := y
      refine wI Tryz.func165 ?_
      repeat' (first | refine wC ?_ | refine wK ?_ | ((with_reducible refine ze ?_); refine wN (.t (.bool true)) [] y ?_) | fail)
      all_goals try (exfalso; omega)
      exact wD
    rw [if_neg h0]
    have n0 : Spec Tryz.prog 234 [.ref (.par 0) 0 0 0, .t (.str ⟨#[110, 117, 108, 108]⟩)] [(.par 0, .var 190 [.t (.str s), .t (.bool bad)])] (.t (.bool false)) [(.par 0, .var 190 [.t (.str s), .t (.bool bad)])] := jG hs h0
    clear h0
    by_cases h1 : (Rs.skip ⟨s, bad⟩ qo).1 = true
    · rw [if_pos h1]
      have y := qV hs h1
      have yl := qR ⟨s, bad⟩ qo
      generalize Rs.skip ⟨s, bad⟩ qo = S at *
      obtain ⟨sb, ⟨qs, qb⟩⟩ := S
      simp only at y yl h1
      subst h1
      clear IH
      unfold Rs.row
      simp only
      rw [Nd.toT_eq]
      replace y : Spec _ _ [_, .t (.str ⟨#[116, 114, 117, 101]⟩)] _ _ _ := y
      refine wI Tryz.func165 ?_
      repeat' (first | refine wC ?_ | refine wK ?_ | ((with_reducible refine ze ?_); first | refine wN (.t (.bool false)) [] n0 ?_ | refine wN (.t (.bool true)) [] y ?_) | fail)
      all_goals try (exfalso; omega)
      exact wD
    rw [if_neg h1]
    have n1 : Spec Tryz.prog 234 [.ref (.par 0) 0 0 0, .t (.str ⟨#[116, 114, 117, 101]⟩)] [(.par 0, .var 190 [.t (.str s), .t (.bool bad)])] (.t (.bool false)) [(.par 0, .var 190 [.t (.str s), .t (.bool bad)])] := jG hs h1
    clear h1
    by_cases h2 : (Rs.skip ⟨s, bad⟩ wO).1 = true
    · rw [if_pos h2]
      have y := qV hs h2
      have yl := qR ⟨s, bad⟩ wO
      generalize Rs.skip ⟨s, bad⟩ wO = S at *
      obtain ⟨sb, ⟨qs, qb⟩⟩ := S
      simp only at y yl h2
      subst h2
      clear IH
      unfold Rs.row
      simp only
      rw [Nd.toT_eq]
      replace y : Spec _ _ [_, .t (.str ⟨#[102, 97, 108, 115, 101]⟩)] _ _ _ := y
      refine wI Tryz.func165 ?_
      repeat' (first | refine wC ?_ | refine wK ?_ | ((with_reducible refine ze ?_); first | refine wN (.t (.bool false)) [] n0 ?_ | refine wN (.t (.bool false)) [] n1 ?_ | refine wN (.t (.bool true)) [] y ?_) | fail)
      all_goals try (exfalso; omega)
      exact wD
    rw [if_neg h2]
    have n2 : Spec Tryz.prog 234 [.ref (.par 0) 0 0 0, .t (.str ⟨#[102, 97, 108, 115, 101]⟩)] [(.par 0, .var 190 [.t (.str s), .t (.bool bad)])] (.t (.bool false)) [(.par 0, .var 190 [.t (.str s), .t (.bool bad)])] := jG hs h2
    clear h2
    by_cases h3 : (Rs.skip ⟨s, bad⟩ ⟨#[91]⟩).1 = true
    · rw [if_pos h3]
      have y := qV hs h3
      have yl := qR ⟨s, bad⟩ ⟨#[91]⟩
      generalize Rs.skip ⟨s, bad⟩ ⟨#[91]⟩ = S at *
      obtain ⟨sb, ⟨qs, qb⟩⟩ := S
      simp only at y yl h3
      subst h3
      have hI := zco G d (by omega) 1000000 (by omega) (fun q hq => IH q hq) 4 (by omega) ⟨#[93]⟩ ⟨qs, qb⟩ (by simp only; omega)
      clear IH
      simp only at hI ⊢
      generalize zX (yy d) 4 ⟨#[93]⟩ (qs.size + 2) true [] [] ⟨qs, qb⟩ = z at hI ⊢
      obtain ⟨x, us, ub⟩ := z
      have hx := x.toT_full
      unfold Rs.row at *
      simp only at hI ⊢
      rw [hx] at hI ⊢
      refine wI Tryz.func165 ?_
      repeat' (first | refine wC ?_ | refine wK ?_ | ((with_reducible refine ze ?_); first | refine wN (.t (.bool false)) [] n0 ?_ | refine wN (.t (.bool false)) [] n1 ?_ | refine wN (.t (.bool false)) [] n2 ?_ | refine wN (.t (.bool true)) [] y ?_ | refine wN (.t (.agg [.int .i64 x.kind, .bool x.bool, .int .i64 x.num, .str x.text, .sl 1 (x.names.map .str), .sl 6 (x.items.map Nd.toT)])) [] hI ?_) | fail)
      all_goals try (exfalso; omega)
      exact wD
    rw [if_neg h3]
    have n3 : Spec Tryz.prog 234 [.ref (.par 0) 0 0 0, .t (.str ⟨#[91]⟩)] [(.par 0, .var 190 [.t (.str s), .t (.bool bad)])] (.t (.bool false)) [(.par 0, .var 190 [.t (.str s), .t (.bool bad)])] := jG hs h3
    clear h3
    by_cases h4 : (Rs.skip ⟨s, bad⟩ ⟨#[123]⟩).1 = true
    · rw [if_pos h4]
      have y := qV hs h4
      have yl := qR ⟨s, bad⟩ ⟨#[123]⟩
      generalize Rs.skip ⟨s, bad⟩ ⟨#[123]⟩ = S at *
      obtain ⟨sb, ⟨qs, qb⟩⟩ := S
      simp only at y yl h4
      subst h4
      have hI := zco G d (by omega) 1000000 (by omega) (fun q hq => IH q hq) 5 (by omega) ⟨#[125]⟩ ⟨qs, qb⟩ (by simp only; omega)
      clear IH
      simp only at hI ⊢
      generalize zX (yy d) 5 ⟨#[125]⟩ (qs.size + 2) true [] [] ⟨qs, qb⟩ = z at hI ⊢
      obtain ⟨x, us, ub⟩ := z
      have hx := x.toT_full
      unfold Rs.row at *
      simp only at hI ⊢
      rw [hx] at hI ⊢
      refine wI Tryz.func165 ?_
      repeat' (first | refine wC ?_ | refine wK ?_ | ((with_reducible refine ze ?_); first | refine wN (.t (.bool false)) [] n0 ?_ | refine wN (.t (.bool false)) [] n1 ?_ | refine wN (.t (.bool false)) [] n2 ?_ | refine wN (.t (.bool false)) [] n3 ?_ | refine wN (.t (.bool true)) [] y ?_ | refine wN (.t (.agg [.int .i64 x.kind, .bool x.bool, .int .i64 x.num, .str x.text, .sl 1 (x.names.map .str), .sl 6 (x.items.map Nd.toT)])) [] hI ?_) | fail)
      all_goals try (exfalso; omega)
      exact wD
    rw [if_neg h4]
    have n4 : Spec Tryz.prog 234 [.ref (.par 0) 0 0 0, .t (.str ⟨#[123]⟩)] [(.par 0, .var 190 [.t (.str s), .t (.bool bad)])] (.t (.bool false)) [(.par 0, .var 190 [.t (.str s), .t (.bool bad)])] := jG hs h4
    clear h4
    clear IH
    have hP := zcE s qS
    simp only
    cases hq : zdQ s qS with
    | true =>
      rw [hq] at hP
      rw [if_pos rfl]
      have hT := zcT G ⟨s, bad⟩ hr
      generalize xf ⟨s, bad⟩ = z at hT ⊢
      obtain ⟨t, us, ub⟩ := z
      unfold Rs.row at *
      simp only at hT ⊢
      rw [Nd.toT_eq]
      refine wI Tryz.func165 ?_
      repeat' (first | refine wC ?_ | refine wK ?_ | ((with_reducible refine ze ?_); first | refine wN (.t (.bool false)) [] n0 ?_ | refine wN (.t (.bool false)) [] n1 ?_ | refine wN (.t (.bool false)) [] n2 ?_ | refine wN (.t (.bool false)) [] n3 ?_ | refine wN (.t (.bool false)) [] n4 ?_ | refine wL hP ?_ | refine wN (.t (.str t)) [] hT ?_) | fail)
      all_goals try (exfalso; omega)
      exact wD
    | false =>
      rw [hq] at hP
      rw [if_neg (by simp)]
      have hT := zkF G ⟨s, bad⟩ hr
      generalize vE ⟨s, bad⟩ = z at hT ⊢
      obtain ⟨t, us, ub⟩ := z
      unfold Rs.row at *
      simp only at hT ⊢
      rw [Nd.toT_eq]
      refine wI Tryz.func165 ?_
      repeat' (first | refine wC ?_ | refine wK ?_ | ((with_reducible refine ze ?_); first | refine wN (.t (.bool false)) [] n0 ?_ | refine wN (.t (.bool false)) [] n1 ?_ | refine wN (.t (.bool false)) [] n2 ?_ | refine wN (.t (.bool false)) [] n3 ?_ | refine wN (.t (.bool false)) [] n4 ?_ | refine wL hP ?_ | refine wN (.t (.int .i64 t)) [] hT ?_) | fail)
      all_goals try (exfalso; omega)
      exact wD
theorem zdc (l : List UInt8) : yW (ofL l) = u8L l := by simp [yW, u8L, ofL]
theorem zlv (l : List UInt8) : ∀ e ∈ u8L l, e.isAgg = false := fun e he => by
  obtain ⟨b, _, rfl⟩ := List.mem_map.1 he
  rfl
def zeQ : List UInt8 := List.replicate 24 0
set_option maxHeartbeats 8000000 in
theorem qQ {oP : Obj} (hP : y3 .u64 Lib.pow10Tab oP) (es : List T) (hb : es.length ≤ 100000000) (u : Nat) (hu : u < 18446744073709551616) : Spec Tryz.prog 294 [.row (.par 0), .t (.int .u64 (u : Int)), .t (.int .i64 10)] [(.par 0, .slt 5 1 es), (.par 102, .dat (.fix 2 oP))] (.row (.res 0)) [(.res 0, .slt 5 1 (es ++ u8L (Lib.decDigits u))), (.par 102, .dat (.fix 2 oP))] := by
  have hl := zgW u hu
  by_cases h : u < 100
  · have ws : IntKind.i64.wrap (u : Int) = (u : Int) := zr (by omega) (by omega)
    have hS := zil u h
    rw [← ws] at hS
    have hbl : (yW (ofL (Lib.decDigits u))).length ≤ 20 := by rw [zdc, zZ]; omega
    rw [← zdc]
    generalize ofL (Lib.decDigits u) = D at hS hbl ⊢
    refine wIG Tryz.func294 ?_
    repeat' (first | refine wC ?_ | (exfalso; omega) | refine wK ?_ | ((with_reducible refine zw ?_); refine yH rfl rfl rfl rfl rfl rfl rfl rfl rfl ?_ ?_ ?_) | ((with_reducible refine ze ?_); refine wL hS ?_) | refine zd rfl ?_ ?_ <;> intro hc)
    all_goals try omega
    refine zv ((za [6] [.par 102, .loc 17] rfl rfl).trans (zg (.loc 17) (.res 0) rfl rfl rfl rfl)) ?_
    exact zL (zp (zK rfl (AVLE.of_eq rfl)) (zc ⟨rfl, rfl, trivial⟩))
  · have hD := zcL hP u (by omega) hu
    have hn : Lib.nDigits u ≤ 20 := by rw [Lib.decDigits_length] at hl; omega
    have hF := zh2 (aty := 227) zeQ u hu (by show _ ≤ 24; omega) (by decide)
    have hfin : (u8L (Lib.decDigits u ++ zeQ.drop (Lib.nDigits u))).take (Lib.nDigits u) = u8L (Lib.decDigits u) := by
      rw [zP, List.take_append_of_le_length (by rw [zZ, Lib.decDigits_length]; omega), List.take_of_length_le (by rw [zZ, Lib.decDigits_length]; omega)]
    have hfl : Lib.nDigits u ≤ (u8L (Lib.decDigits u ++ zeQ.drop (Lib.nDigits u))).length := by rw [zZ, List.length_append, Lib.decDigits_length]; omega
    rw [← hfin]
    generalize u8L (Lib.decDigits u ++ zeQ.drop (Lib.nDigits u)) = W at hF hfl ⊢
    clear hfin
    generalize Lib.nDigits u = nd at *
    refine wIG Tryz.func294 ?_
    repeat' (first | refine zl (x := Code.seq (Code.region 5 _ _) _) (zav (id := .loc 7) rfl (RowLE.arr (es := u8L zeQ) rfl (zlv _)) rfl) ?_ | refine wC ?_ | (exfalso; omega) | refine zd1 rfl rfl rfl rfl rfl rfl rfl ?_ ?_ ?_ | refine zcH rfl rfl rfl rfl rfl rfl rfl rfl rfl rfl ?_ ?_ ?_ ?_ | refine wK ?_ | ((with_reducible refine ze ?_); first | refine wN (.t (.int .i64 (nd : Int))) [] hD ?_ | refine wN (.tup []) [(.par 0, .loc 7)] hF ?_) | refine zd rfl ?_ ?_ <;> intro hc)
    all_goals try omega
    all_goals try (show _ ≤ (24 : Int); omega)
    all_goals try exact hfl
    refine zv ((za [6] [.par 102, .loc 27] rfl rfl).trans (zg (.loc 27) (.res 0) rfl rfl rfl rfl)) ?_
    exact zL (zp (zK rfl (AVLE.of_eq rfl)) (zc ⟨rfl, rfl, trivial⟩))
set_option maxHeartbeats 4000000 in
theorem zcP {oP : Obj} (hP : y3 .u64 Lib.pow10Tab oP) (es : List T) (hb : es.length ≤ 99999999) (n : Int) (h0 : -9223372036854775808 ≤ n) (h1 : n ≤ 9223372036854775807) : Spec Tryz.prog 232 [.row (.par 0), .t (.int .i64 n), .t (.int .i64 10)] [(.par 0, .slt 5 1 es), (.par 102, .dat (.fix 2 oP))] (.row (.res 0)) [(.res 0, .slt 5 1 (es ++ u8L (Lib.itoa n))), (.par 102, .dat (.fix 2 oP))] := by
  have hI : Spec Tryz.prog 276 [.row (.par 0), .t (.int .i64 n), .t (.int .i64 10)] [(.par 0, .slt 5 1 es), (.par 102, .dat (.fix 2 oP))] (.row (.res 0)) [(.res 0, .slt 5 1 (es ++ u8L (Lib.itoa n))), (.par 102, .dat (.fix 2 oP))] := by
    by_cases hn : n < 0
    · have hU := qQ hP (es ++ [T.int .u8 45]) (by simp; omega) n.natAbs (by omega)
      have hw : IntKind.u64.wrap (0 - IntKind.u64.wrap n) = ((n.natAbs : Nat) : Int) := by
        have e1 : ∀ x : Int, IntKind.u64.wrap x = x % 18446744073709551616 := fun x => rfl
        rw [e1, e1]; omega
      have hr : es ++ u8L (Lib.itoa n) = es ++ [T.int .u8 45] ++ u8L (Lib.decDigits n.natAbs) := by
        unfold Lib.itoa
        rw [if_pos hn, List.append_assoc]; rfl
      rw [hr]
      rw [← hw] at hU
      generalize u8L (Lib.decDigits n.natAbs) = D at hU ⊢
      refine wIG Tryz.func276 ?_
      repeat' (first | refine wC ?_ | (exfalso; omega) | refine wK ?_ | ((with_reducible refine zw ?_); refine zh rfl rfl rfl rfl rfl rfl rfl rfl rfl rfl ?_ ?_ ?_) | ((with_reducible refine ze ?_); refine wN (.row (.loc 903)) [(.par 0, .loc 14), (.res 0, .loc 903)] hU ?_) | refine zd rfl ?_ ?_ <;> intro hc)
      all_goals try (simp only [List.length_singleton]; omega)
      refine zv ((za [6] [.par 102, .loc 903] rfl rfl).trans (zg (.loc 903) (.res 0) rfl rfl rfl rfl)) ?_
      exact zL (zp (zK rfl (AVLE.of_eq rfl)) (zc ⟨rfl, rfl, trivial⟩))
    · have hU := qQ hP es (by omega) n.toNat (by omega)
      have hw : IntKind.u64.wrap n = ((n.toNat : Nat) : Int) := by
        have e1 : ∀ x : Int, IntKind.u64.wrap x = x % 18446744073709551616 := fun x => rfl
        rw [e1]; omega
      have hr : Lib.itoa n = Lib.decDigits n.toNat := by unfold Lib.itoa; rw [if_neg hn]
      rw [hr]
      rw [← hw] at hU
      generalize u8L (Lib.decDigits n.toNat) = D at hU ⊢
      refine wIG Tryz.func276 ?_
      repeat' (first | refine wC ?_ | (exfalso; omega) | refine wK ?_ | ((with_reducible refine ze ?_); refine wN (.row (.loc 903)) [(.res 0, .loc 903)] hU ?_) | refine zd rfl ?_ ?_ <;> intro hc)
      refine zv ((za [6] [.par 102, .loc 903] rfl rfl).trans (zg (.loc 903) (.res 0) rfl rfl rfl rfl)) ?_
      exact zL (zp (zK rfl (AVLE.of_eq rfl)) (zc ⟨rfl, rfl, trivial⟩))
  generalize u8L (Lib.itoa n) = D at hI ⊢
  refine wIG Tryz.func232 ?_
  repeat' (first | refine wC ?_ | refine wK ?_ | ((with_reducible refine ze ?_); refine wN (.row (.loc 903)) [(.res 0, .loc 903)] hI ?_) | fail)
  refine zv ((za [6] [.par 102, .loc 903] rfl rfl).trans (zg (.loc 903) (.res 0) rfl rfl rfl rfl)) ?_
  exact zL (zp (zK rfl (AVLE.of_eq rfl)) (zc ⟨rfl, rfl, trivial⟩))
end Go.AL
