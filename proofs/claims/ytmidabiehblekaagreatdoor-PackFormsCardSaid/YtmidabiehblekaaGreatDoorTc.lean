/- What functions of the program and of the document answer, and the plain laws behind it; each under the conditions that its own theorem names. -/
import Derived.Test.YtmidabiehblekaaGreatDoorTb
import Derived.Test.YtmidabiehblekaaGreatDoorAl3
import Derived.Test.YtmidabiehblekaaGreatDoorTa
import Derived.Lib.LaidU8T
set_option linter.unusedVariables false
namespace Go.AL
open Go Go.Proofs Go.RowKit
def qc (k : Int) (ns : List ByteArray) (is : List Nd) (i : Nat) : List UInt8 := if k = 5 then Nd.cbm (ns.take i) (is.take i) else Nd.cbs (is.take i)
theorem zdH : ∀ (a b : List Nd), Nd.cbs (a ++ b) = Nd.cbs a ++ Nd.cbs b
  | [], b => rfl
  | x :: a, b => by simp [Nd.cbs, zdH a b]
theorem zdm : ∀ (a : List ByteArray) (b : List Nd) (s : ByteArray) (x : Nd), a.length = b.length → Nd.cbm (a ++ [s]) (b ++ [x]) = Nd.cbm a b ++ (hdL 3 s.size ++ s.data.toList ++ x.cb)
  | [], [], s, x, _ => by simp [Nd.cbm]
  | n :: a, y :: b, s, x, h => by simp [Nd.cbm, zdm a b s x (by simpa using h), List.append_assoc]
  | [], _ :: _, _, _, h => by simp at h
  | _ :: _, [], _, _, h => by simp at h
theorem ka {k : Int} {ns : List ByteArray} {is : List Nd} {i : Nat} (hk : k ≠ 5) (hi : i < is.length) : qc k ns is (i + 1) = qc k ns is i ++ (is.getD i default).cb := by
  have e : is.take (i + 1) = is.take i ++ [is.getD i default] := by
    rw [List.take_add_one, List.getElem?_eq_getElem hi]; simp [List.getD_eq_getElem?_getD, hi]
  simp only [qc, if_neg hk, e, zdH, Nd.cbs, List.append_nil]
theorem jM {ns : List ByteArray} {is : List Nd} {i : Nat} (hl : ns.length = is.length) (hi : i < is.length) : qc 5 ns is (i + 1) = qc 5 ns is i ++ (hdL 3 (ns.getD i default).size ++ (ns.getD i default).data.toList ++ (is.getD i default).cb) := by
  have e : is.take (i + 1) = is.take i ++ [is.getD i default] := by
    rw [List.take_add_one, List.getElem?_eq_getElem hi]; simp [List.getD_eq_getElem?_getD, hi]
  have e2 : ns.take (i + 1) = ns.take i ++ [ns.getD i default] := by
    rw [List.take_add_one, List.getElem?_eq_getElem (by omega)]; simp [List.getD_eq_getElem?_getD, show i < ns.length by omega]
  simp only [qc, if_true, e, e2]
  exact zdm _ _ _ _ (by simp; omega)
theorem zb5 {k : Int} {ns : List ByteArray} {is : List Nd} (hk : k = 5 → ns.length = is.length) {i j : Nat} (hij : i ≤ j) (hj : j ≤ is.length) : (qc k ns is i).length ≤ (qc k ns is j).length := by
  induction j with
  | zero => rw [show i = 0 by omega]; exact Nat.le_refl _
  | succ j ih =>
    rcases Nat.lt_or_ge i (j + 1) with h | h
    · refine Nat.le_trans (ih (by omega) (by omega)) ?_
      by_cases h5 : k = 5
      · subst h5
        rw [jM (hk rfl) (by omega), List.length_append]; omega
      · rw [ka h5 (by omega), List.length_append]; omega
    · rw [show i = j + 1 by omega]; exact Nat.le_refl _
set_option maxHeartbeats 8000000 in
theorem zk9 (k : Int) (hk45 : k = 4 ∨ k = 5) (b : Bool) (n : Int) (t : ByteArray) (ns : List ByteArray) (is : List Nd) (hlen : is.length ≤ 256) (hk : k = 5 → ns.length = is.length)
    (hns : ∀ s ∈ ns, s.size ≤ 65536) (es : List T) (hb : es.length + (hdL k.toNat is.length).length + (qc k ns is is.length).length ≤ 50000000)
    (IH : ∀ i, i < is.length → ∀ es' : List T, es'.length + (is.getD i default).cb.length ≤ 50000000 → Spec Tryz.prog 167 [.row (.par 0), .t (is.getD i default).toT] [(.par 0, .slt 5 1 es')] (.row (.res 0)) [(.res 0, .slt 5 1 (es' ++ u8L (is.getD i default).cb))]) :
    Spec Tryz.prog 167 [.row (.par 0), .t (.agg [.int .i64 k, .bool b, .int .i64 n, .str t, .sl 1 (ns.map .str), .sl 6 (is.map Nd.toT)])] [(.par 0, .slt 5 1 es)] (.row (.res 0)) [(.res 0, .slt 5 1 (es ++ u8L (hdL k.toNat is.length) ++ u8L (qc k ns is is.length)))] := by
  have hI := zdk k b n t ns is
  have hH : Spec Tryz.prog 238 [.row (.par 0), .t (.int .i64 k), .t (.int .u64 (IntKind.u64.wrap (is.length : Int)))] [(.par 0, .slt 5 1 es)] (.row (.res 0)) [(.res 0, .slt 5 1 (es ++ u8L (hdL k.toNat is.length)))] := by
    have e : IntKind.u64.wrap (is.length : Int) = (is.length : Int) := by
      simp only [IntKind.wrap, IntKind.bits, IntKind.signed, Bool.false_and, Bool.false_eq_true, if_false]; omega
    rw [e]
    have := xN es (by omega) k.toNat (by omega) is.length (by omega)
    rw [show (k.toNat : Int) = k by omega] at this
    exact this
  obtain rfl | rfl := hk45
  · refine wIG Tryz.func167 ?_
    repeat' (first | refine wC ?_ | refine wK ?_ | ((with_reducible refine ze ?_); first | refine wN (.row (.loc 903)) [(.res 0, .loc 903)] hH ?_ | refine wN (.fn 230 [.ref (.loc 904) 0 0 0]) [(.res 0, .loc 904)] hI ?_) | fail)
    refine zl ((za [2, 3, 63] [.loc 2, .loc 3, .loc 903, .loc 904] rfl rfl).trans ((jC 3 (.loc 3) [.int .i64 4, .bool b, .int .i64 n, .str t, .sl 1 (ns.map .str), .sl 6 (is.map Nd.toT)] rfl rfl rfl rfl rfl).trans (jH 63 (.loc 904) [.int .i64 4, .bool b, .int .i64 n, .str t, .sl 1 (ns.map .str), .sl 6 (is.map Nd.toT)] rfl rfl rfl rfl rfl))) ?_
    refine xD (.par 50) (.loc 905) [(.par 50, .loc 905), (.par 10, .loc 2), (.par 11, .loc 903), (.res 0, .loc 906)] rfl (fun fn B => qx 4 b n t ns is (by omega) hk ⟨80, fn, #[64, 65], _, _, B⟩ 2 3 (.agg [.int .i64 4, .bool b, .int .i64 n, .str t, .sl 1 (ns.map .str), .sl 6 (is.map Nd.toT)]) (fun i => es ++ u8L (hdL (Int.toNat 4) is.length) ++ u8L (qc 4 ns is i)) ?_) (fun _ _ => rfl) rfl rfl rfl (ArgsLE.refl _) ⟨AVLE.refl _, AVLE.refl _, trivial⟩ rfl rfl ⟨rfl, ?_, trivial⟩ rfl rfl rfl rfl rfl rfl ?_
    rotate_left
    · have e0 : u8L (qc 4 ns is 0) = [] := by simp [qc, Nd.cbs, u8L]
      rw [e0, List.append_nil]; rfl
    · repeat' (first | refine wC ?_ | refine wK ?_ | fail)
      refine zv ((za [4] [.loc 906] rfl rfl).trans (zg (.loc 906) (.res 0) rfl rfl rfl rfl)) ?_
      exact zL (zp (zK rfl (AVLE.of_eq rfl)) (zc ⟨rfl, trivial⟩))
    intro i hi
    have hle : (qc 4 ns is (i + 1)).length ≤ (qc 4 ns is is.length).length := zb5 hk (by omega) (by omega)
    have hP := IH i hi (es ++ u8L (hdL (Int.toNat 4) is.length) ++ u8L (qc 4 ns is i)) (by
      rw [ka (by decide) hi, List.length_append] at hle
      simp only [List.length_append, zZ]; omega)
    have hT := (is.getD i default).toT_full
    rw [hT] at hP ⊢
    rw [ka (by decide) hi, zP, ← List.append_assoc]
    generalize es ++ u8L (hdL (Int.toNat 4) is.length) ++ u8L (qc 4 ns is i) = xs at hP ⊢
    refine vq rfl rfl rfl rfl rfl ?_
    repeat' (first | refine wC ?_ | refine wK ?_ | ((with_reducible refine ze ?_); refine wN (.row (.loc 907)) [(.par 0, .par 11), (.res 0, .loc 907)] hP ?_) | fail)
    refine zv ((za [] [.par 10, .loc 907] rfl rfl).trans (zg (.loc 907) (.res 0) rfl rfl rfl rfl)) ?_
    exact zd2 ⟨rfl, rfl, trivial⟩
  · refine wIG Tryz.func167 ?_
    repeat' (first | refine wC ?_ | refine wK ?_ | ((with_reducible refine ze ?_); first | refine wN (.row (.loc 903)) [(.res 0, .loc 903)] hH ?_ | refine wN (.fn 230 [.ref (.loc 904) 0 0 0]) [(.res 0, .loc 904)] hI ?_) | fail)
    refine zl ((za [2, 3, 63] [.loc 2, .loc 3, .loc 903, .loc 904] rfl rfl).trans ((jC 3 (.loc 3) [.int .i64 5, .bool b, .int .i64 n, .str t, .sl 1 (ns.map .str), .sl 6 (is.map Nd.toT)] rfl rfl rfl rfl rfl).trans (jH 63 (.loc 904) [.int .i64 5, .bool b, .int .i64 n, .str t, .sl 1 (ns.map .str), .sl 6 (is.map Nd.toT)] rfl rfl rfl rfl rfl))) ?_
    refine xD (.par 50) (.loc 905) [(.par 50, .loc 905), (.par 10, .loc 2), (.par 11, .loc 903), (.res 0, .loc 906)] rfl (fun fn B => qx 5 b n t ns is (by omega) hk ⟨80, fn, #[64, 65], _, _, B⟩ 2 3 (.agg [.int .i64 5, .bool b, .int .i64 n, .str t, .sl 1 (ns.map .str), .sl 6 (is.map Nd.toT)]) (fun i => es ++ u8L (hdL (Int.toNat 5) is.length) ++ u8L (qc 5 ns is i)) ?_) (fun _ _ => rfl) rfl rfl rfl (ArgsLE.refl _) ⟨AVLE.refl _, AVLE.refl _, trivial⟩ rfl rfl ⟨rfl, ?_, trivial⟩ rfl rfl rfl rfl rfl rfl ?_
    rotate_left
    · have e0 : u8L (qc 5 ns is 0) = [] := by simp [qc, Nd.cbm, u8L]
      rw [e0, List.append_nil]; rfl
    · repeat' (first | refine wC ?_ | refine wK ?_ | fail)
      refine zv ((za [4] [.loc 906] rfl rfl).trans (zg (.loc 906) (.res 0) rfl rfl rfl rfl)) ?_
      exact zL (zp (zK rfl (AVLE.of_eq rfl)) (zc ⟨rfl, trivial⟩))
    intro i hi
    have hle : (qc 5 ns is (i + 1)).length ≤ (qc 5 ns is is.length).length := zb5 hk (by omega) (by omega)
    have hl5 := hk rfl
    have hsz : (ns.getD i default).size ≤ 65536 := hns _ (by rw [List.getD_eq_getElem?_getD, List.getElem?_eq_getElem (by omega)]; simp)
    have hnm : jr 5 ns i = ns.getD i default := by simp [jr]
    rw [hnm]
    rw [jM hl5 hi, List.length_append, List.length_append, List.length_append] at hle
    rw [jM hl5 hi, zP, zP, zP, ← List.append_assoc, ← List.append_assoc, ← List.append_assoc]
    have hd : (ns.getD i default).data.toList.length = (ns.getD i default).size := by rw [Array.length_toList]; rfl
    have hxs : (es ++ u8L (hdL (Int.toNat 5) is.length) ++ u8L (qc 5 ns is i)).length + (hdL 3 (ns.getD i default).size).length + (ns.getD i default).size + (is.getD i default).cb.length ≤ 50000000 := by
      simp only [List.length_append, zZ]; omega
    have hP := IH i hi
    have hT := (is.getD i default).toT_full
    rw [hT] at hP ⊢
    generalize es ++ u8L (hdL (Int.toNat 5) is.length) ++ u8L (qc 5 ns is i) = xs at hP hxs ⊢
    generalize ns.getD i default = s at hd hsz hxs ⊢
    have hH3 : Spec Tryz.prog 238 [.row (.par 0), .t (.int .i64 3), .t (.int .u64 (IntKind.u64.wrap (s.size : Int)))] [(.par 0, .slt 5 1 xs)] (.row (.res 0)) [(.res 0, .slt 5 1 (xs ++ u8L (hdL 3 s.size)))] := by
      have e : IntKind.u64.wrap (s.size : Int) = (s.size : Int) := by
        simp only [IntKind.wrap, IntKind.bits, IntKind.signed, Bool.false_and, Bool.false_eq_true, if_false]; omega
      rw [e]
      exact xN xs (by omega) 3 (by omega) s.size (by omega)
    have hP2 := hP (xs ++ u8L (hdL 3 s.size) ++ u8L s.data.toList) (by simp only [List.length_append, zZ]; omega)
    refine vq rfl rfl rfl rfl rfl ?_
    repeat' (first | refine wC ?_ | refine wK ?_ | ((with_reducible refine zw ?_); refine yH rfl rfl rfl rfl rfl rfl rfl rfl rfl ?_ ?_ ?_) | ((with_reducible refine ze ?_); first | refine wN (.row (.loc 908)) [(.par 0, .par 11), (.res 0, .loc 908)] hH3 ?_ | refine wN (.row (.loc 907)) [(.par 0, .loc 75), (.res 0, .loc 907)] hP2 ?_) | fail)
    · simp only [List.length_append, zZ, yW, List.length_map]; omega
    · simp only [List.length_append, zZ, yW, List.length_map]; omega
    refine zv ((za [] [.par 10, .loc 907] rfl rfl).trans (zg (.loc 907) (.res 0) rfl rfl rfl rfl)) ?_
    exact zd2 ⟨rfl, rfl, trivial⟩
theorem zn3 {n : Int} (h0 : -9223372036854775808 ≤ n) (h1 : n ≤ 9223372036854775807) : IntKind.i64.wrap ((BitVec.ofInt IntKind.i64.bits (if IntKind.i64.signed then -1 else IntKind.i64.max)) ^^^ BitVec.ofInt IntKind.i64.bits n).toNat = -1 - n := by
  show IntKind.i64.wrap (((BitVec.ofInt 64 (-1)) ^^^ BitVec.ofInt 64 n).toNat : Int) = _
  have e2 : ((BitVec.ofInt 64 (-1)) ^^^ BitVec.ofInt 64 n).toNat = 18446744073709551615 - (n % 18446744073709551616).toNat := by
    rw [show BitVec.ofInt 64 (-1) = BitVec.allOnes 64 by decide, BitVec.allOnes_xor, BitVec.toNat_not, BitVec.toNat_ofInt]
    rfl
  rw [e2]
  simp only [IntKind.wrap, IntKind.signed, IntKind.bits]
  simp
  split <;> omega
theorem ye {n : Int} (h0 : 0 ≤ n) (h : n < 18446744073709551616) : IntKind.u64.wrap n = n := by
  simp only [IntKind.wrap, IntKind.bits, IntKind.signed, Bool.false_and, Bool.false_eq_true, if_false]
  omega
set_option maxHeartbeats 8000000 in
theorem zff {V : ByteArray → Bool} : ∀ (x : Nd) (e : Int), x.validB V e = true → x.In → ∀ es : List T, es.length + x.cb.length ≤ 50000000 →
    Spec Tryz.prog 167 [.row (.par 0), .t x.toT] [(.par 0, .slt 5 1 es)] (.row (.res 0)) [(.res 0, .slt 5 1 (es ++ u8L x.cb))]
  | .mk k b n t ns is, e, hv, hin, es, hb => by
    rw [yo] at hv
    obtain ⟨h1, h2, h3, h4, h5, h6, h7, h8⟩ := hv
    cases hin with
    | mk i1 i2 i3 =>
    rw [Nd.toT_eq]
    have hk : k = 0 ∨ k = 1 ∨ k = 2 ∨ k = 3 ∨ (k = 4 ∨ k = 5) := by omega
    rcases hk with rfl | rfl | rfl | rfl | hk
    · have hH : Spec Tryz.prog 238 [.row (.par 0), .t (.int .i64 7), .t (.int .u64 22)] [(.par 0, .slt 5 1 es)] (.row (.res 0)) [(.res 0, .slt 5 1 (es ++ u8L (hdL 7 22)))] := xN es (by omega) 7 (by omega) 22 (by omega)
      have ec : (Nd.mk 0 b n t ns is).cb = hdL 7 22 := by simp [Nd.cb]
      rw [ec]
      refine wIG Tryz.func167 ?_
      repeat' (first | refine wC ?_ | refine wK ?_ | ((with_reducible refine ze ?_); refine wN (.row (.loc 903)) [(.res 0, .loc 903)] hH ?_) | fail)
      refine zv ((za [4] [.loc 903] rfl rfl).trans (zg (.loc 903) (.res 0) rfl rfl rfl rfl)) ?_
      exact zL (zp (zK rfl (AVLE.of_eq rfl)) (zc ⟨rfl, trivial⟩))
    · have ec : (Nd.mk 1 b n t ns is).cb = hdL 7 (if b then 21 else 20) := by simp [Nd.cb]
      rw [ec]
      cases b with
      | true =>
        have hH : Spec Tryz.prog 238 [.row (.par 0), .t (.int .i64 7), .t (.int .u64 21)] [(.par 0, .slt 5 1 es)] (.row (.res 0)) [(.res 0, .slt 5 1 (es ++ u8L (hdL 7 21)))] := xN es (by omega) 7 (by omega) 21 (by omega)
        refine wIG Tryz.func167 ?_
        repeat' (first | refine wC ?_ | refine wK ?_ | ((with_reducible refine ze ?_); refine wN (.row (.loc 903)) [(.res 0, .loc 903)] hH ?_) | fail)
        refine zv ((za [4] [.loc 903] rfl rfl).trans (zg (.loc 903) (.res 0) rfl rfl rfl rfl)) ?_
        exact zL (zp (zK rfl (AVLE.of_eq rfl)) (zc ⟨rfl, trivial⟩))
      | false =>
        have hH : Spec Tryz.prog 238 [.row (.par 0), .t (.int .i64 7), .t (.int .u64 20)] [(.par 0, .slt 5 1 es)] (.row (.res 0)) [(.res 0, .slt 5 1 (es ++ u8L (hdL 7 20)))] := xN es (by omega) 7 (by omega) 20 (by omega)
        refine wIG Tryz.func167 ?_
        repeat' (first | refine wC ?_ | refine wK ?_ | ((with_reducible refine ze ?_); refine wN (.row (.loc 903)) [(.res 0, .loc 903)] hH ?_) | fail)
        refine zv ((za [4] [.loc 903] rfl rfl).trans (zg (.loc 903) (.res 0) rfl rfl rfl rfl)) ?_
        exact zL (zp (zK rfl (AVLE.of_eq rfl)) (zc ⟨rfl, trivial⟩))
    · have ec : (Nd.mk 2 b n t ns is).cb = if n < 0 then hdL 1 (-1 - n).toNat else hdL 0 n.toNat := by simp [Nd.cb]
      rw [ec]
      by_cases hn : n < 0
      · rw [if_pos hn]
        have hH : Spec Tryz.prog 238 [.row (.par 0), .t (.int .i64 1), .t (.int .u64 (IntKind.u64.wrap (IntKind.i64.wrap ((BitVec.ofInt IntKind.i64.bits (if IntKind.i64.signed then -1 else IntKind.i64.max)) ^^^ BitVec.ofInt IntKind.i64.bits n).toNat)))] [(.par 0, .slt 5 1 es)] (.row (.res 0)) [(.res 0, .slt 5 1 (es ++ u8L (hdL 1 (-1 - n).toNat)))] := by
          have := xN es (by omega) 1 (by omega) (-1 - n).toNat (by omega)
          rw [zn3 i1 i2]
          rw [show (((-1 - n).toNat : Nat) : Int) = IntKind.u64.wrap (-1 - n) by rw [ye (by omega) (by omega)]; omega] at this
          exact this
        refine wIG Tryz.func167 ?_
        repeat' (first | refine wC ?_ | refine wK ?_ | ((with_reducible refine ze ?_); refine wN (.row (.loc 903)) [(.res 0, .loc 903)] hH ?_) | refine zd rfl ?_ ?_ <;> intro hc)
        all_goals try (exfalso; omega)
        refine zv ((za [4] [.loc 903] rfl rfl).trans (zg (.loc 903) (.res 0) rfl rfl rfl rfl)) ?_
        exact zL (zp (zK rfl (AVLE.of_eq rfl)) (zc ⟨rfl, trivial⟩))
      · rw [if_neg hn]
        have hH : Spec Tryz.prog 238 [.row (.par 0), .t (.int .i64 0), .t (.int .u64 (IntKind.u64.wrap n))] [(.par 0, .slt 5 1 es)] (.row (.res 0)) [(.res 0, .slt 5 1 (es ++ u8L (hdL 0 n.toNat)))] := by
          have := xN es (by omega) 0 (by omega) n.toNat (by omega)
          rw [show ((n.toNat : Nat) : Int) = IntKind.u64.wrap n by rw [ye (by omega) (by omega)]; omega] at this
          exact this
        refine wIG Tryz.func167 ?_
        repeat' (first | refine wC ?_ | refine wK ?_ | ((with_reducible refine ze ?_); refine wN (.row (.loc 903)) [(.res 0, .loc 903)] hH ?_) | refine zd rfl ?_ ?_ <;> intro hc)
        all_goals try (exfalso; omega)
        refine zv ((za [4] [.loc 903] rfl rfl).trans (zg (.loc 903) (.res 0) rfl rfl rfl rfl)) ?_
        exact zL (zp (zK rfl (AVLE.of_eq rfl)) (zc ⟨rfl, trivial⟩))
    · have ec : (Nd.mk 3 b n t ns is).cb = hdL 3 t.size ++ t.data.toList := by simp [Nd.cb]
      have ht : t.size ≤ 65536 := by
        simp only [yh, Bool.and_eq_true, decide_eq_true_eq] at h5; omega
      rw [ec] at hb ⊢
      have hd : t.data.toList.length = t.size := by rw [Array.length_toList]; rfl
      have hH : Spec Tryz.prog 238 [.row (.par 0), .t (.int .i64 3), .t (.int .u64 (IntKind.u64.wrap (t.size : Int)))] [(.par 0, .slt 5 1 es)] (.row (.res 0)) [(.res 0, .slt 5 1 (es ++ u8L (hdL 3 t.size)))] := by
        rw [ye (by omega) (by omega)]
        exact xN es (by omega) 3 (by omega) t.size (by omega)
      rw [zP, ← List.append_assoc]
      refine wIG Tryz.func167 ?_
      repeat' (first | refine wC ?_ | refine wK ?_ | ((with_reducible refine zw ?_); refine yH rfl rfl rfl rfl rfl rfl rfl rfl rfl ?_ ?_ ?_) | ((with_reducible refine ze ?_); refine wN (.row (.loc 903)) [(.res 0, .loc 903)] hH ?_) | fail)
      · simp only [List.length_append, zZ, yW, List.length_map] at hb ⊢; omega
      · simp only [List.length_append, zZ, yW, List.length_map] at hb ⊢; omega
      refine zv ((za [4] [.loc 53] rfl rfl).trans (zg (.loc 53) (.res 0) rfl rfl rfl rfl)) ?_
      exact zL (zp (zK rfl (AVLE.of_eq rfl)) (zc ⟨rfl, trivial⟩))
    · have ec : (Nd.mk k b n t ns is).cb = hdL k.toNat is.length ++ qc k ns is is.length := by
        have e1 : is.take is.length = is := List.take_length
        rcases hk with rfl | rfl
        · simp [Nd.cb, qc]
        · have e2 : ns.take is.length = ns := by rw [← (h7 rfl).2]; exact List.take_length
          simp [Nd.cb, qc, e2]
      rw [ec] at hb ⊢
      rw [zP, ← List.append_assoc]
      rw [List.length_append] at hb
      have hl : k = 5 → ns.length = is.length := fun h => by have := (h7 h).2; omega
      refine zk9 k hk b n t ns is (by omega) hl (fun s hs => ?_) es (by omega) fun i hi es' hb' => ?_
      · by_cases h : k = 5
        · have := ((yF (yh V) ns []).1 (h7 h).1).2 s hs
          have := this.2
          simp only [yh, Bool.and_eq_true, decide_eq_true_eq] at this; omega
        · have hz : ns.length = 0 := by
            simp only [Nd.fieldsOK, Bool.and_eq_true, Bool.or_eq_true, decide_eq_true_eq] at h4
            have := h4.2; omega
          rw [List.eq_nil_of_length_eq_zero hz] at hs; cases hs
      · have hm : is.getD i default ∈ is := by rw [List.getD_eq_getElem?_getD, List.getElem?_eq_getElem hi]; exact List.getElem_mem _
        exact zff (is.getD i default) (e - 1) (h8 _ hm) (i3 _ hm) es' hb'
termination_by x => SizeOf.sizeOf x
decreasing_by
  have := List.sizeOf_lt_of_mem hm
  simp only [Nd.mk.sizeOf_spec]
  omega
end Go.AL
namespace Go.AL
open Go Go.RowKit
theorem zbS (f : Rs → Nd × Rs) : ∀ (xs : List Nd) (ns : List ByteArray) (acc : List Nd) (t : List UInt8), (∀ x ∈ xs, ∀ t : List UInt8, f ⟨ofL (x.cb ++ t), false⟩ = (x, ⟨ofL t, false⟩)) →
    yA f 4 xs.length ns acc ⟨ofL (Nd.cbs xs ++ t), false⟩ = (.mk 4 false 0 eS ns (acc ++ xs), ⟨ofL t, false⟩)
  | [], ns, acc, t, _ => by simp [yA, Nd.cbs]
  | x :: xs, ns, acc, t, h => by
    have h1 := h x (by simp) (Nd.cbs xs ++ t)
    have ih := zbS f xs ns (acc ++ [x]) t (fun y hy => h y (by simp [hy]))
    simp only [List.length_cons, yA, Bool.false_eq_true, if_false, Nd.cbs, List.append_assoc]
    rw [if_neg (by decide), h1]
    simp only
    rw [ih]; simp
theorem zc8 (f : Rs → Nd × Rs) : ∀ (ss : List ByteArray) (xs : List Nd) (ns : List ByteArray) (acc : List Nd) (t : List UInt8), ss.length = xs.length → (∀ s ∈ ss, s.size ≤ 65536) → (∀ x ∈ xs, ∀ t : List UInt8, f ⟨ofL (x.cb ++ t), false⟩ = (x, ⟨ofL t, false⟩)) →
    yA f 5 xs.length ns acc ⟨ofL (Nd.cbm ss xs ++ t), false⟩ = (.mk 5 false 0 eS (ns ++ ss) (acc ++ xs), ⟨ofL t, false⟩)
  | [], [], ns, acc, t, _, _, _ => by simp [yA, Nd.cbm]
  | s :: ss, x :: xs, ns, acc, t, hl, hs, h => by
    have h1 := h x (by simp) (Nd.cbm ss xs ++ t)
    have h2 := zl0 s (x.cb ++ (Nd.cbm ss xs ++ t)) (by have := hs s (by simp); omega)
    have ih := zc8 f ss xs (ns ++ [s]) (acc ++ [x]) t (by simpa using hl) (fun y hy => hs y (by simp [hy])) (fun y hy => h y (by simp [hy]))
    simp only [List.length_cons, yA, Bool.false_eq_true, if_false, Nd.cbm, List.append_assoc] at h2 ⊢
    rw [if_pos trivial, h2]
    simp only
    rw [h1]
    simp only
    rw [ih]; simp
  | [], _ :: _, _, _, _, hl, _, _ => by simp at hl
  | _ :: _, [], _, _, _, hl, _, _ => by simp at hl
theorem vl {n : Int} (h0 : -9223372036854775808 ≤ n) (h1 : n ≤ 9223372036854775807) : i64 n = n := zr h0 h1
theorem x6 {d : Nat} {r q : Rs} {m n : Int} (h : yE r = ((m, n), q)) : xu (d + 1) r =
    if m = 0 then (.mk 2 false (i64 n) eS [] [], q)
    else if m = 1 then (.mk 2 false (-1 - i64 n) eS [] [], q)
    else if m = 3 then (.mk 3 false 0 (xQ q n).1 [] [], (xQ q n).2)
    else if m = 4 then yA (xu d) 4 (q.fits n).1.toNat [] [] (q.fits n).2
    else if m = 5 then yA (xu d) 5 (q.fits n).1.toNat [] [] (q.fits n).2
    else if m = 7 ∧ (n = 21 ∨ n = 20) then (.mk 1 (decide (n = 21)) 0 eS [] [], q)
    else (Nd.zero, q) := by simp only [xu, h]
theorem zdp {V : ByteArray → Bool} : ∀ (x : Nd) (d : Nat), x.validB V d = true → x.In → ∀ t : List UInt8, xu d ⟨ofL (x.cb ++ t), false⟩ = (x, ⟨ofL t, false⟩)
  | .mk k b n tx ns is, 0, hv, _, t => by
    rw [yo] at hv
    have := hv.1
    simp at this
  | .mk k b n tx ns is, d + 1, hv, hin, t => by
    rw [yo] at hv
    obtain ⟨_, h2, h3, h4, h5, h6, h7, h8⟩ := hv
    cases hin with
    | mk i1 i2 i3 =>
    simp only [Nd.fieldsOK, Bool.and_eq_true, Bool.or_eq_true, decide_eq_true_eq, Bool.not_eq_true'] at h4
    obtain ⟨⟨⟨⟨f1, f2⟩, f3⟩, f4⟩, f5⟩ := h4
    have hk : k = 0 ∨ k = 1 ∨ k = 2 ∨ k = 3 ∨ k = 4 ∨ k = 5 := by omega
    have hi : ∀ y ∈ is, ∀ t : List UInt8, xu d ⟨ofL (y.cb ++ t), false⟩ = (y, ⟨ofL t, false⟩) := fun y hy t =>
      zdp y d (by have := h8 y hy; rwa [show ((d + 1 : Nat) : Int) - 1 = d by omega] at this) (i3 y hy) t
    have e0 : k ≠ 1 → b = false := fun h => f1.resolve_left h
    have e1 : k ≠ 2 → n = 0 := fun h => f2.resolve_left h
    have e2 : k ≠ 3 → tx = eS := fun h => f3.resolve_left h
    have e3 : k ≠ 4 → k ≠ 5 → is = [] := fun h h' => List.eq_nil_of_length_eq_zero (by rcases f4 with (h'' | h'') | h'' <;> first | (exact absurd h'' h) | (exact absurd h'' h') | omega)
    have e4 : k ≠ 5 → ns = [] := fun h => List.eq_nil_of_length_eq_zero (by rcases f5 with h' | h'; exact absurd h' h; omega)
    rcases hk with rfl | rfl | rfl | rfl | rfl | rfl
    · rw [e0 (by decide), e1 (by decide), e2 (by decide), e3 (by decide) (by decide), e4 (by decide)]
      rw [show (Nd.mk 0 false 0 eS [] []).cb = hdL 7 22 by simp [Nd.cb], x6 (va 7 22 t (by omega) (by omega))]
      simp [Nd.zero, eS]
    · rw [e1 (by decide), e2 (by decide), e3 (by decide) (by decide), e4 (by decide)]
      cases b with
      | true =>
        rw [show (Nd.mk 1 true 0 eS [] []).cb = hdL 7 21 by simp [Nd.cb], x6 (va 7 21 t (by omega) (by omega))]
        simp
      | false =>
        rw [show (Nd.mk 1 false 0 eS [] []).cb = hdL 7 20 by simp [Nd.cb], x6 (va 7 20 t (by omega) (by omega))]
        simp
    · rw [e0 (by decide), e2 (by decide), e3 (by decide) (by decide), e4 (by decide)]
      by_cases hn : n < 0
      · rw [show (Nd.mk 2 false n eS [] []).cb = hdL 1 (-1 - n).toNat by simp [Nd.cb, hn], x6 (va 1 (-1 - n).toNat t (by omega) (by omega))]
        rw [if_neg (by decide), if_pos (by decide), show (((-1 - n).toNat : Nat) : Int) = -1 - n by omega, vl (by omega) (by omega), show -1 - (-1 - n) = n by omega]
      · rw [show (Nd.mk 2 false n eS [] []).cb = hdL 0 n.toNat by simp [Nd.cb, hn], x6 (va 0 n.toNat t (by omega) (by omega))]
        rw [if_pos (by decide), show ((n.toNat : Nat) : Int) = n by omega, vl (by omega) (by omega)]
    · rw [e0 (by decide), e1 (by decide), e3 (by decide) (by decide), e4 (by decide)]
      have ht : tx.size ≤ 65536 := by simp only [yh, Bool.and_eq_true, decide_eq_true_eq] at h5; omega
      have htx := zhr tx.data.toList t
      rw [show tx.data.toList.length = tx.size by rw [Array.length_toList]; rfl, vI] at htx
      rw [show (Nd.mk 3 false 0 tx [] []).cb = hdL 3 tx.size ++ tx.data.toList by simp [Nd.cb], List.append_assoc, x6 (va 3 tx.size (tx.data.toList ++ t) (by omega) (by omega))]
      rw [if_neg (by decide), if_neg (by decide), if_pos (by decide), htx]
    · rw [e0 (by decide), e1 (by decide), e2 (by decide), e4 (by decide)]
      have hfit : (Rs.mk (ofL (Nd.cbs is ++ t)) false).fits is.length = ((is.length : Int), ⟨ofL (Nd.cbs is ++ t), false⟩) := by
        unfold Rs.fits
        rw [if_neg]
        have := zkP is
        rw [zx, List.length_append]; omega
      rw [show (Nd.mk 4 false 0 eS [] is).cb = hdL 4 is.length ++ Nd.cbs is by simp [Nd.cb], List.append_assoc, x6 (va 4 is.length (Nd.cbs is ++ t) (by omega) (by omega))]
      rw [if_neg (by decide), if_neg (by decide), if_neg (by decide), if_pos (by decide), hfit]
      simp only [Int.toNat_natCast]
      rw [zbS (xu d) is [] [] t hi]
      simp
    · rw [e0 (by decide), e1 (by decide), e2 (by decide)]
      have hl := (h7 rfl).2
      have hs : ∀ s ∈ ns, s.size ≤ 65536 := fun s hs => by
        have := (((yF (yh V) ns []).1 (h7 rfl).1).2 s hs).2
        simp only [yh, Bool.and_eq_true, decide_eq_true_eq] at this; omega
      have hfit : (Rs.mk (ofL (Nd.cbm ns is ++ t)) false).fits is.length = ((is.length : Int), ⟨ofL (Nd.cbm ns is ++ t), false⟩) := by
        unfold Rs.fits
        rw [if_neg]
        have := zjS ns is hl
        rw [zx, List.length_append]; omega
      rw [show (Nd.mk 5 false 0 eS ns is).cb = hdL 5 is.length ++ Nd.cbm ns is by simp [Nd.cb], List.append_assoc, x6 (va 5 is.length (Nd.cbm ns is ++ t) (by omega) (by omega))]
      rw [if_neg (by decide), if_neg (by decide), if_neg (by decide), if_neg (by decide), if_pos (by decide), hfit]
      simp only [Int.toNat_natCast]
      rw [zc8 (xu d) ns is [] [] t hl hs hi]
      simp
termination_by x => SizeOf.sizeOf x
decreasing_by
  have := List.sizeOf_lt_of_mem hy
  simp only [Nd.mk.sizeOf_spec]
  omega
theorem qC {m n : Nat} : (hdL m n).length ≤ 9 := by
  unfold hdL; repeat' split
  all_goals simp [zO]
theorem zk6 {m n : Nat} (h : n < 65536) : (hdL m n).length ≤ 3 := by
  unfold hdL; repeat' split
  all_goals first | (simp [zO]; done) | omega
theorem ki {m n : Nat} (h : n < 24) : (hdL m n).length = 1 := by
  unfold hdL; rw [if_pos h]; rfl
theorem ya (s : ByteArray) : s.data.toList.length = s.size := by rw [Array.length_toList]; rfl
theorem zed : Nd.zero.cb.length = 1 := by simp [Nd.zero, Nd.cb, hdL]
theorem zjR {B : Nat} : ∀ {l : List Nd}, (∀ x ∈ l, x.cb.length ≤ B) → (Nd.cbs l).length ≤ l.length * B
  | [], _ => by simp [Nd.cbs]
  | x :: l, h => by
    have h1 := h x (by simp)
    have h2 := zjR (l := l) (fun y hy => h y (by simp [hy]))
    simp only [Nd.cbs, List.length_append, List.length_cons, Nat.add_mul]; omega
theorem zkp {C : Nat} : ∀ {ns : List ByteArray} {l : List Nd}, (∀ s ∈ ns, s.size ≤ C) → C < 65536 → (Nd.cbm ns l).length ≤ (Nd.cbs l).length + l.length * (C + 3)
  | [], l, _, _ => by cases l <;> simp [Nd.cbm]
  | s :: ns, [], _, _ => by simp [Nd.cbm, Nd.cbs]
  | s :: ns, x :: l, h, hC => by
    have h1 := h s (by simp)
    have h2 := zkp (ns := ns) (l := l) (fun y hy => h y (by simp [hy])) hC
    have h3 := zk6 (m := 3) (n := s.size) (by omega)
    simp only [Nd.cbm, Nd.cbs, List.length_append, List.length_cons, ya, Nat.add_mul]; omega
theorem kV : ∀ (f : Nat) (l : List Nd) (d : Dc), l.length ≤ 17 → ∃ m, (vC f l d).1 = l ++ List.replicate m Nd.zero ∧ l.length + m ≤ 17
  | 0, l, d, h => ⟨0, by simp [vC], by omega⟩
  | f + 1, l, d, h => by
    have := d.next_lt 3 (by omega)
    simp only [vC]; split
    · obtain ⟨m, h1, h2⟩ := kV f (l ++ [Nd.zero]) (d.next 3).2 (by simp; omega)
      refine ⟨m + 1, ?_, by simp at h2; omega⟩
      rw [h1, List.append_assoc]; rfl
    · exact ⟨0, by simp, by omega⟩
theorem zfl : ∀ m, (Nd.cbs (List.replicate m Nd.zero)).length = m
  | 0 => rfl
  | m + 1 => by simp only [List.replicate_succ, Nd.cbs, List.length_append, zed, zfl m]; omega
theorem zjk : ∀ (a b : List Nd), Nd.cbs (a ++ b) = Nd.cbs a ++ Nd.cbs b
  | [], b => rfl
  | x :: a, b => by simp [Nd.cbs, zjk a b]
theorem kX : Nd.zero.In := .mk (by decide) (by decide) (by simp)
theorem zb6 (c i : Nat) (d : Dc) : ∀ s ∈ (yd c i d).1, s.size ≤ 3 := by
  intro s hs
  obtain ⟨w, hw, j, _, _, rfl⟩ := km c i d s hs
  have := (vc w hw).2
  rw [ByteArray.size_append]
  have : (zgr j).size = 2 := rfl
  omega
theorem zmF (k : Int) (hk : k = 4 ∨ k = 5) (f : Dc → Nd × Dc) (B : Nat) (hB : 1 ≤ B) (hf : ∀ d, (f d).1.cb.length ≤ B ∧ (f d).1.In) (d : Dc) : (zfW k f d).1.cb.length ≤ 3 * B + 150 ∧ (zfW k f d).1.In := by
  have hq := d.next_lt 4 (by omega)
  have hl := xy f (d.next 4).1.toNat (d.next 4).2
  have ha := x9 f (fun x => x.cb.length ≤ B ∧ x.In) hf (d.next 4).1.toNat (d.next 4).2
  unfold zfW
  simp only
  generalize yQ f (d.next 4).1.toNat (d.next 4).2 = is at hl ha ⊢
  have hg : ∃ g : List Nd × Dc, (if (is.2.next 20).1 = 1 then vC 20 is.1 (is.2.next 20).2 else (is.1, (is.2.next 20).2)) = g ∧ g.1.length ≤ 17 ∧ (Nd.cbs g.1).length ≤ 3 * B + 17 ∧ ∀ x ∈ g.1, x.In := by
    have hb := zjR (B := B) (l := is.1) (fun x hx => (ha x hx).1)
    have hb3 : is.1.length * B ≤ 3 * B := Nat.mul_le_mul_right _ (by omega)
    refine ⟨_, rfl, ?_⟩
    split
    · obtain ⟨m, h1, h2⟩ := kV 20 is.1 (is.2.next 20).2 (by omega)
      rw [h1]
      refine ⟨by simp; omega, ?_, fun x hx => ?_⟩
      · rw [zjk, List.length_append, zfl]; omega
      · rcases List.mem_append.1 hx with h | h
        · exact (ha x h).2
        · rw [List.eq_of_mem_replicate h]; exact kX
    · exact ⟨by simp only; omega, by simp only; omega, fun x hx => (ha x hx).2⟩
  obtain ⟨g, e1, e2, e3, e4⟩ := hg
  rw [e1]
  refine ⟨?_, .mk (by decide) (by decide) e4⟩
  have h1 := ki (m := 4) (n := g.1.length) (by omega)
  have h2 := ki (m := 5) (n := g.1.length) (by omega)
  rcases hk with rfl | rfl
  · rw [show (Nd.mk 4 false 0 eS (if (4 : Int) = 5 then yd g.1.length 0 g.2 else ([], g.2)).1 g.1).cb = hdL 4 g.1.length ++ Nd.cbs g.1 by simp [Nd.cb]]
    rw [List.length_append, h1]; omega
  · have h3 := zkp (C := 3) (ns := (yd g.1.length 0 g.2).1) (l := g.1) (zb6 _ _ _) (by omega)
    rw [show (Nd.mk 5 false 0 eS (if (5 : Int) = 5 then yd g.1.length 0 g.2 else ([], g.2)).1 g.1).cb = hdL 5 g.1.length ++ Nd.cbm (yd g.1.length 0 g.2).1 g.1 by simp [Nd.cb]]
    rw [List.length_append, h2]; omega
theorem zdD (d : Dc) : (qp d).1.size ≤ 256 := (zhD (V := fun _ => true) ⟨fun _ _ => rfl, fun _ _ => rfl, rfl⟩ d).2
theorem zhL (j : Nat) : 0 ≤ vY.getD j 0 ∧ vY.getD j 0 ≤ 9223372036854775807 := by
  match j with
  | 0 | 1 | 2 | 3 | 4 | 5 | 6 | 7 | 8 | 9 | 10 | 11 => simp [vY]
  | j + 12 => simp [vY]
theorem zof (n : Int) : (Nd.mk 2 false n eS [] []).cb.length ≤ 9 := by
  by_cases h : n < 0
  · rw [show (Nd.mk 2 false n eS [] []).cb = hdL 1 (-1 - n).toNat by simp [Nd.cb, h]]; exact qC
  · rw [show (Nd.mk 2 false n eS [] []).cb = hdL 0 n.toNat by simp [Nd.cb, h]]; exact qC
theorem zdY (rec : Option (Dc → Nd × Dc)) (B : Nat) (hB : 1 ≤ B) (hf : ∀ f, rec = some f → ∀ d, (f d).1.cb.length ≤ B ∧ (f d).1.In) (d : Dc) : (kM rec d).1.cb.length ≤ 3 * B + 300 ∧ (kM rec d).1.In := by
  unfold kM
  simp only
  split
  · refine ⟨?_, .mk (by decide) (by decide) (by simp)⟩
    simp only [Nd.cb]
    have h1 := qC (m := 7) (n := if (decide (((d.next 6).2.next 2).1 = 1)) = true then 21 else 20)
    simp only [show ((1 : Int) = 0) = False from by simp, if_false, if_true]
    omega
  · split
    · have h := zhL ((d.next 6).2.next 12).1.toNat
      refine ⟨?_, .mk ?_ ?_ (by simp)⟩
      · have := zof (if (((d.next 6).2.next 12).2.next 2).1 = 1 then -1 - vY.getD ((d.next 6).2.next 12).1.toNat 0 else vY.getD ((d.next 6).2.next 12).1.toNat 0)
        exact Nat.le_trans this (by omega)
      · split <;> omega
      · split <;> omega
    · split
      · have h := zdD (d.next 6).2
        refine ⟨?_, .mk (by decide) (by decide) (by simp)⟩
        rw [show (Nd.mk 3 false 0 (qp (d.next 6).2).1 [] []).cb = hdL 3 (qp (d.next 6).2).1.size ++ (qp (d.next 6).2).1.data.toList by simp [Nd.cb]]
        rw [List.length_append, ya]
        have := qC (m := 3) (n := (qp (d.next 6).2).1.size)
        omega
      · split
        · rename_i hk
          split
          · refine ⟨?_, .mk (by decide) (by decide) (by simp)⟩
            have h1 := qC (m := 4) (n := 0)
            have h2 := qC (m := 5) (n := 0)
            rcases hk with h | h <;> rw [h] <;> simp [Nd.cb, Nd.cbs, Nd.cbm] <;> omega
          · rename_i f
            have := zmF _ hk f B hB (hf f rfl) (d.next 6).2
            exact ⟨by omega, this.2⟩
        · exact ⟨by rw [zed]; omega, kX⟩
def kB : Nat → Nat
  | 0 => 303
  | 1 => 303
  | n + 2 => 3 * kB (n + 1) + 300
theorem zn1 : ∀ n, 1 ≤ kB n
  | 0 => by decide
  | 1 => by decide
  | n + 2 => by simp only [kB]; omega
theorem zhh : ∀ (n : Nat) (d : Dc), (qA n d).1.cb.length ≤ kB n ∧ (qA n d).1.In
  | 0, d => zdY none 1 (by omega) (by simp) d
  | 1, d => zdY none 1 (by omega) (by simp) d
  | n + 2, d => zdY _ (kB (n + 1)) (zn1 _) (by
      rintro f h
      cases h
      exact fun d => zhh (n + 1) d) d
theorem znk (n : Nat) (d : Dc) : (zih n d).1.cb.length ≤ 3 * kB (n - 1) + 20 ∧ (zih n d).1.In := by
  have hq := d.next_lt 4 (by omega)
  unfold zih
  have hl := xy (qA (n - 1)) (d.next 4).1.toNat (d.next 4).2
  have ha := x9 (qA (n - 1)) (fun x => x.cb.length ≤ kB (n - 1) ∧ x.In) (fun d => zhh _ d) (d.next 4).1.toNat (d.next 4).2
  generalize yQ (qA (n - 1)) (d.next 4).1.toNat (d.next 4).2 = is at hl ha ⊢
  refine ⟨?_, .mk (by decide) (by decide) fun x hx => (ha x hx).2⟩
  have hb := zjR (B := kB (n - 1)) (l := is.1) (fun x hx => (ha x hx).1)
  have hb3 : is.1.length * kB (n - 1) ≤ 3 * kB (n - 1) := Nat.mul_le_mul_right _ (by omega)
  have h3 := zkp (C := 1) (ns := yu.take (d.next 4).1.toNat) (l := is.1) (fun s hs => by
    have := List.mem_of_mem_take hs
    simp only [yu, List.mem_cons, List.not_mem_nil, or_false] at this
    rcases this with rfl | rfl | rfl | rfl <;> decide) (by omega)
  have h1 := ki (m := 5) (n := is.1.length) (by omega)
  rw [show (Nd.mk 5 false 0 eS (yu.take (d.next 4).1.toNat) is.1).cb = hdL 5 is.1.length ++ Nd.cbm (yu.take (d.next 4).1.toNat) is.1 by simp [Nd.cb]]
  rw [List.length_append, h1]
  omega
theorem xR {r : Rs} {n : Int} (h : (r.take n).2.bad = false) : r.bad = false ∧ 0 ≤ n ∧ n ≤ r.s.size ∧ (r.take n).1.size = n.toNat ∧ (r.take n).2.s.size + n.toNat = r.s.size := by
  unfold Rs.take at h ⊢
  split at h
  · simp at h
  · rename_i hn
    rw [if_neg hn]
    simp only [not_or, Bool.not_eq_true, Int.not_lt] at hn
    refine ⟨hn.1, hn.2.1, hn.2.2, ?_, ?_⟩
    · simp only [ByteArray.size_extract]; omega
    · simp only [ByteArray.size_extract]; omega
theorem xC {r : Rs} (h : r.byte.2.bad = false) : r.bad = false ∧ r.byte.2.s.size + 1 = r.s.size := by
  have := xR (r := r) (n := 1) h
  exact ⟨this.1, this.2.2.2.2⟩
theorem xj (s : ByteArray) (i : Int) : 0 ≤ bAt s i ∧ bAt s i < 256 := by
  unfold bAt
  have := (s.data.toList.getD i.toNat 0).toNat_lt
  omega
theorem xK (r : Rs) : 0 ≤ r.byte.1 ∧ r.byte.1 < 256 := by
  unfold Rs.byte
  simp only
  split
  · omega
  · exact xj _ _
theorem kw : ∀ (l : List UInt8) (k : Nat) (acc : Int), 0 ≤ acc → acc < (256 : Int) ^ k → k + l.length ≤ 8 → 0 ≤ l.foldl xe acc ∧ l.foldl xe acc < (256 : Int) ^ (k + l.length)
  | [], k, acc, h0, h1, _ => by simpa using ⟨h0, h1⟩
  | b :: l, k, acc, h0, h1, hk => by
    have hb := b.toNat_lt
    have hp : (256 : Int) ^ (k + 1) = 256 ^ k * 256 := by rw [Int.pow_succ]
    have h8 : (256 : Int) ^ (k + 1) ≤ 18446744073709551616 := by
      have hk1 : k + 1 ≤ 8 := by simp at hk; omega
      have h1 : (256 : Nat) ^ (k + 1) ≤ 256 ^ 8 := Nat.pow_le_pow_right (by decide) hk1
      have h2 : (256 : Nat) ^ 8 = 18446744073709551616 := by decide +kernel
      have h3 : (256 : Int) ^ (k + 1) = ((256 ^ (k + 1) : Nat) : Int) := by simp
      rw [h3]; omega
    have hs : xe acc b = acc * 256 + b.toNat := by
      unfold xe
      rw [Int.emod_eq_of_lt (by omega) (by omega)]
    have := kw l (k + 1) (xe acc b) (by rw [hs]; omega) (by rw [hs, hp]; omega) (by simp at hk; omega)
    rw [List.foldl_cons, List.length_cons, show k + (l.length + 1) = k + 1 + l.length by omega]
    exact this
theorem vT {r : Rs} {i : Nat} (hi : i ≤ 3) (h : (r.uint (2 ^ i)).2.bad = false) : r.bad = false ∧ (r.uint (2 ^ i)).2.s.size + 2 ^ i = r.s.size ∧ 0 ≤ (r.uint (2 ^ i)).1 ∧ (r.uint (2 ^ i)).1 < (256 : Int) ^ (2 ^ i) := by
  have e : ((2 : Int) ^ i).toNat = 2 ^ i := by
    match i, hi with
    | 0, _ | 1, _ | 2, _ | 3, _ => decide
  obtain ⟨h1, h2, h3, h4, h5⟩ := xR (r := r) (n := 2 ^ i) h
  rw [e] at h4 h5
  have h8 : 2 ^ i ≤ 8 := by
    match i, hi with
    | 0, _ | 1, _ | 2, _ | 3, _ => decide
  have := kw (r.take (2 ^ i)).1.data.toList 0 0 (by omega) (by decide) (by rw [ya, h4]; omega)
  rw [ya, h4, Nat.zero_add] at this
  exact ⟨h1, h5, this.1, this.2⟩
theorem zcx {m n i : Nat} (hi : i ≤ 3) (h : n < 256 ^ (2 ^ i)) : (hdL m n).length ≤ 1 + 2 ^ i := by
  unfold hdL
  match i, hi with
  | 0, _ => simp at h; repeat' split
            all_goals first | (simp [zO]; done) | omega
  | 1, _ => simp at h; repeat' split
            all_goals first | (simp [zO]; done) | omega
  | 2, _ => simp at h; repeat' split
            all_goals first | (simp [zO]; done) | omega
  | 3, _ => repeat' split
            all_goals (simp [zO])
theorem zac {r : Rs} (h : (yE r).2.bad = false) : r.bad = false ∧ 0 ≤ (yE r).1.1 ∧ (yE r).1.1 < 8 ∧ 0 ≤ (yE r).1.2 ∧ (yE r).1.2 < 18446744073709551616 ∧ (yE r).2.s.size < r.s.size ∧
    ∀ m n' : Nat, ((n' : Int) ≤ (yE r).1.2 ∨ 4294967296 ≤ (yE r).1.2) → (hdL m n').length + (yE r).2.s.size ≤ r.s.size := by
  have hb := xK r
  unfold yE at h ⊢
  split at h
  · rename_i hc
    rw [if_pos hc]
    obtain ⟨h1, h2⟩ := xC h
    refine ⟨h1, by simp only; omega, by simp only; omega, by simp only; omega, by simp only; omega, by simp only; omega, fun m n' hn => ?_⟩
    simp only at hn ⊢
    rw [ki (by omega)]; omega
  · split at h
    · simp at h
    · rename_i hc1 hc2
      rw [if_neg hc1, if_neg hc2]
      obtain ⟨i, hi, hi3⟩ : ∃ i : Nat, (r.byte.1 % 32 - 24).toNat = i ∧ i ≤ 3 := ⟨_, rfl, by omega⟩
      rw [hi] at h ⊢
      obtain ⟨h1, h2, h3, h4⟩ := vT hi3 h
      obtain ⟨h5, h6⟩ := xC h1
      have hp : 1 ≤ 2 ^ i := Nat.one_le_two_pow
      have h256 : (256 : Int) ^ (2 ^ i) ≤ 18446744073709551616 := by
        match i, hi3 with
        | 0, _ | 1, _ | 2, _ | 3, _ => decide +kernel
      refine ⟨h5, by simp only; omega, by simp only; omega, h3, by simp only; omega, by simp only; omega, fun m n' hn => ?_⟩
      simp only at hn ⊢
      have : (hdL m n').length ≤ 1 + 2 ^ i := by
        rcases hn with hn | hn
        · refine zcx hi3 ?_
          have : ((n' : Nat) : Int) < ((256 ^ (2 ^ i) : Nat) : Int) := by
            rw [show ((256 ^ (2 ^ i) : Nat) : Int) = (256 : Int) ^ (2 ^ i) by simp]; omega
          omega
        · have : i = 3 := by
            clear h h2 h1 h3 hi
            generalize (r.byte.2.uint (2 ^ i)).1 = v at hn h4
            clear hc1 hc2 h5 h6
            match i, hi3 with
            | 3, _ => rfl
            | 0, _ => simp at h4; omega
            | 1, _ => simp at h4; omega
            | 2, _ => simp at h4; omega
          subst this
          exact qC
      omega
theorem vU {r : Rs} {n : Int} (h : (r.fits n).2.bad = false) : (r.fits n).2 = r ∧ (r.fits n).1 = n ∧ n ≤ r.s.size ∧ r.bad = false := by
  unfold Rs.fits at h ⊢
  split at h
  · simp at h
  · rename_i hc
    rw [if_neg hc]
    exact ⟨rfl, rfl, by omega, h⟩
theorem zdM {r : Rs} {n : Int} (h0 : 0 ≤ n) (h : (xQ r n).2.bad = false) : r.bad = false ∧ n = (xQ r n).1.size ∧ (xQ r n).1.size + (xQ r n).2.s.size = r.s.size := by
  unfold xQ at h ⊢
  obtain ⟨h1, h2, h3, h4, h5⟩ := xR h
  obtain ⟨e1, e2, e3, e4⟩ := vU h1
  rw [e1, e2] at h4 h5 ⊢
  exact ⟨e4, by omega, by omega⟩
theorem zia {r : Rs} (h : (vh r).2.bad = false) : r.bad = false ∧ (hdL 3 (vh r).1.size).length + (vh r).1.size + (vh r).2.s.size ≤ r.s.size := by
  unfold vh at h ⊢
  have hh : (xQ (if (yE r).1.1 = 3 then (yE r).2 else ⟨(yE r).2.s, true⟩) (yE r).1.2).2.bad = false := h
  by_cases hn : 0 ≤ (yE r).1.2
  · obtain ⟨h1, h2, h3⟩ := zdM hn hh
    split at h1
    · rename_i hm
      rw [if_pos hm] at h2 h3 ⊢
      obtain ⟨g1, g2, g3, g4, g5, g6, g7⟩ := zac h1
      have := g7 3 (xQ (yE r).2 (yE r).1.2).1.size (.inl (by omega))
      exact ⟨g1, by omega⟩
    · simp at h1
  · exfalso
    unfold xQ at hh
    obtain ⟨h1, _⟩ := xR hh
    obtain ⟨e1, e2, e3, e4⟩ := vU h1
    split at e4
    · obtain ⟨g1, g2, g3, g4, g5, g6, g7⟩ := zac e4
      omega
    · simp at e4
theorem zaC (f : Rs → Nd × Rs) (hf : ∀ r, (f r).2.bad = false → r.bad = false ∧ (f r).1.cb.length + (f r).2.s.size ≤ r.s.size ∧ (f r).1.In) : ∀ (c : Nat) (ns : List ByteArray) (is : List Nd) (r : Rs), (yA f 4 c ns is r).2.bad = false →
    r.bad = false ∧ ∃ xs : List Nd, xs.length = c ∧ (yA f 4 c ns is r).1 = .mk 4 false 0 eS ns (is ++ xs) ∧ (Nd.cbs xs).length + (yA f 4 c ns is r).2.s.size ≤ r.s.size ∧ ∀ x ∈ xs, x.In
  | 0, ns, is, r, h => ⟨h, [], rfl, by simp [yA], by simp [yA, Nd.cbs], by simp⟩
  | c + 1, ns, is, r, h => by
    simp only [yA] at h ⊢
    by_cases hb : r.bad = true
    · rw [if_pos hb] at h; rw [hb] at h; simp at h
    · rw [if_neg hb, if_neg (by decide)] at h ⊢
      obtain ⟨h1, xs, h2, h3, h4, h5⟩ := zaC f hf c ns (is ++ [(f r).1]) (f r).2 h
      obtain ⟨g1, g2, g3⟩ := hf r h1
      refine ⟨g1, (f r).1 :: xs, by simp [h2], by rw [h3]; simp, ?_, ?_⟩
      · simp only [Nd.cbs, List.length_append]; omega
      · intro x hx
        rcases List.mem_cons.1 hx with rfl | hx
        · exact g3
        · exact h5 x hx
theorem zaR (f : Rs → Nd × Rs) (hf : ∀ r, (f r).2.bad = false → r.bad = false ∧ (f r).1.cb.length + (f r).2.s.size ≤ r.s.size ∧ (f r).1.In) : ∀ (c : Nat) (ns : List ByteArray) (is : List Nd) (r : Rs), (yA f 5 c ns is r).2.bad = false →
    r.bad = false ∧ ∃ (ss : List ByteArray) (xs : List Nd), ss.length = c ∧ xs.length = c ∧ (yA f 5 c ns is r).1 = .mk 5 false 0 eS (ns ++ ss) (is ++ xs) ∧ (Nd.cbm ss xs).length + (yA f 5 c ns is r).2.s.size ≤ r.s.size ∧ ∀ x ∈ xs, x.In
  | 0, ns, is, r, h => ⟨h, [], [], rfl, rfl, by simp [yA], by simp [yA, Nd.cbm], by simp⟩
  | c + 1, ns, is, r, h => by
    simp only [yA] at h ⊢
    by_cases hb : r.bad = true
    · rw [if_pos hb] at h; rw [hb] at h; simp at h
    · rw [if_neg hb, if_pos trivial] at h ⊢
      obtain ⟨h1, ss, xs, h2, h2', h3, h4, h5⟩ := zaR f hf c (ns ++ [(vh r).1]) (is ++ [(f (vh r).2).1]) (f (vh r).2).2 h
      obtain ⟨g1, g2, g3⟩ := hf _ h1
      obtain ⟨q1, q2⟩ := zia g1
      refine ⟨q1, (vh r).1 :: ss, (f (vh r).2).1 :: xs, by simp [h2], by simp [h2'], by rw [h3]; simp, ?_, ?_⟩
      · simp only [Nd.cbm, List.length_append, ya]; omega
      · intro x hx
        rcases List.mem_cons.1 hx with rfl | hx
        · exact g3
        · exact h5 x hx
theorem jc (n : Int) : -9223372036854775808 ≤ i64 n ∧ i64 n ≤ 9223372036854775807 := by
  unfold i64
  simp only [IntKind.wrap, IntKind.signed, IntKind.bits]
  simp
  split <;> omega
theorem zjz {n : Int} (h0 : 0 ≤ n) (h1 : n < 18446744073709551616) : i64 n = n ∨ (i64 n = n - 18446744073709551616 ∧ 9223372036854775808 ≤ n) := by
  unfold i64
  simp only [IntKind.wrap, IntKind.signed, IntKind.bits]
  simp
  split <;> omega
theorem jT (n : Int) : (Nd.mk 2 false n eS [] []).cb = if n < 0 then hdL 1 (-1 - n).toNat else hdL 0 n.toNat := by simp [Nd.cb]
theorem ky : ∀ (d : Nat) (r : Rs), (xu d r).2.bad = false → r.bad = false ∧ (xu d r).1.cb.length + (xu d r).2.s.size ≤ r.s.size ∧ (xu d r).1.In
  | 0, r, h => by simp [xu] at h
  | d + 1, r, h => by
    obtain ⟨m, n, q, hh⟩ : ∃ m n q, yE r = ((m, n), q) := ⟨_, _, _, rfl⟩
    rw [x6 hh] at h ⊢
    have key : q.bad = false → r.bad = false ∧ 0 ≤ m ∧ m < 8 ∧ 0 ≤ n ∧ n < 18446744073709551616 ∧ q.s.size < r.s.size ∧ ∀ m' n' : Nat, ((n' : Int) ≤ n ∨ 4294967296 ≤ n) → (hdL m' n').length + q.s.size ≤ r.s.size := fun hq => by
      have := zac (r := r) (by rw [hh]; exact hq)
      rw [hh] at this
      exact this
    have ir := jc n
    split at h
    · rename_i e; rw [if_pos e]
      obtain ⟨g1, g2, g3, g4, g5, g6, g7⟩ := key h
      refine ⟨g1, ?_, .mk ir.1 ir.2 (by simp)⟩
      simp only
      rw [jT]
      rcases zjz g4 g5 with e | ⟨e, e'⟩
      · rw [e, if_neg (by omega)]; exact g7 0 n.toNat (.inl (by omega))
      · split
        · exact g7 1 _ (.inr (by omega))
        · exact g7 0 _ (.inr (by omega))
    · rename_i c0
      rw [if_neg c0]
      split at h
      · rename_i e; rw [if_pos e]
        obtain ⟨g1, g2, g3, g4, g5, g6, g7⟩ := key h
        refine ⟨g1, ?_, .mk (by omega) (by omega) (by simp)⟩
        simp only
        rw [jT]
        rcases zjz g4 g5 with e | ⟨e, e'⟩
        · rw [e, if_pos (by omega)]; exact g7 1 _ (.inl (by omega))
        · split
          · exact g7 1 _ (.inr (by omega))
          · exact g7 0 _ (.inr (by omega))
      · rename_i c1
        rw [if_neg c1]
        split at h
        · rename_i e; rw [if_pos e]
          have hn : 0 ≤ n := by
            unfold xQ at h
            obtain ⟨h1, _⟩ := xR h
            exact (key (vU h1).2.2.2).2.2.2.1
          obtain ⟨t1, t2, t3⟩ := zdM hn h
          obtain ⟨g1, g2, g3, g4, g5, g6, g7⟩ := key t1
          refine ⟨g1, ?_, .mk (by simp) (by simp) (by simp)⟩
          simp only
          rw [show (Nd.mk 3 false 0 (xQ q n).1 [] []).cb = hdL 3 (xQ q n).1.size ++ (xQ q n).1.data.toList by simp [Nd.cb], List.length_append, ya]
          have := g7 3 (xQ q n).1.size (.inl (by omega))
          omega
        · rename_i c3
          rw [if_neg c3]
          split at h
          · rename_i e; rw [if_pos e]
            obtain ⟨h1, xs, h2, h3, h4, h5⟩ := zaC (xu d) (ky d) _ _ _ _ h
            obtain ⟨e1, e2, e3, e4⟩ := vU h1
            obtain ⟨g1, g2, g3, g4, g5, g6, g7⟩ := key e4
            refine ⟨g1, ?_, by rw [h3]; exact .mk (by simp) (by simp) (by simpa using h5)⟩
            rw [h3]
            have e1s : (q.fits n).2.s.size = q.s.size := by rw [e1]
            rw [show (Nd.mk 4 false 0 eS [] ([] ++ xs)).cb = hdL 4 xs.length ++ Nd.cbs xs by simp [Nd.cb], List.length_append]
            have := g7 4 xs.length (.inl (by omega))
            omega
          · rename_i c4
            rw [if_neg c4]
            split at h
            · rename_i e; rw [if_pos e]
              obtain ⟨h1, ss, xs, h2', h2, h3, h4, h5⟩ := zaR (xu d) (ky d) _ _ _ _ h
              obtain ⟨e1, e2, e3, e4⟩ := vU h1
              obtain ⟨g1, g2, g3, g4, g5, g6, g7⟩ := key e4
              refine ⟨g1, ?_, by rw [h3]; exact .mk (by simp) (by simp) (by simpa using h5)⟩
              rw [h3]
              have e1s : (q.fits n).2.s.size = q.s.size := by rw [e1]
              rw [show (Nd.mk 5 false 0 eS ([] ++ ss) ([] ++ xs)).cb = hdL 5 xs.length ++ Nd.cbm ss xs by simp [Nd.cb], List.length_append]
              have := g7 5 xs.length (.inl (by omega))
              omega
            · rename_i c5
              rw [if_neg c5]
              split at h
              · rename_i e; rw [if_pos e]
                obtain ⟨g1, g2, g3, g4, g5, g6, g7⟩ := key h
                refine ⟨g1, ?_, .mk (by simp) (by simp) (by simp)⟩
                simp only
                have e2 : (Nd.mk 1 (decide (n = 21)) 0 eS [] []).cb.length = 1 := by
                  by_cases h21 : n = 21 <;> simp [Nd.cb, h21, hdL]
                omega
              · rename_i c7; rw [if_neg c7]
                obtain ⟨g1, g2, g3, g4, g5, g6, g7⟩ := key h
                exact ⟨g1, by simp only; rw [zed]; omega, kX⟩
def zdn (V : ByteArray → Bool) (x : Nd) : ByteArray × Int := if x.validB V 8 = true then (if 65536 < x.cb.length then (eS, 3) else (ofL x.cb, 0)) else (eS, 1)
def w9 (s : ByteArray) : Nd × Rs := xu 8 ⟨s, false⟩
def zcI (V : ByteArray → Bool) (s : ByteArray) : Prop := (w9 s).2.bad = false ∧ (w9 s).2.s = eS ∧ (w9 s).1.validB V 8 = true ∧ zdn V (w9 s).1 = (s, 0)
instance (V : ByteArray → Bool) (s : ByteArray) : Decidable (zcI V s) := by unfold zcI; exact inferInstance
def zeG (V : ByteArray → Bool) (s : ByteArray) : Nd × Int := if zcI V s then ((w9 s).1, 0) else (Nd.zero, 4)
theorem zio {V : ByteArray → Bool} {x : Nd} (hv : x.validB V 8 = true) (hin : x.In) : w9 (ofL x.cb) = (x, ⟨eS, false⟩) := by
  have := zdp x 8 hv hin []
  rw [List.append_nil] at this
  exact this
theorem zbW {V : ByteArray → Bool} {x : Nd} (hv : x.validB V 8 = true) (hin : x.In) (hl : x.cb.length ≤ 65536) : zeG V (ofL x.cb) = (x, 0) := by
  have h := zio hv hin
  have hg : zcI V (ofL x.cb) := by
    unfold zcI
    rw [h]
    refine ⟨rfl, rfl, hv, ?_⟩
    simp only
    unfold zdn
    rw [if_pos hv, if_neg (by omega)]
  unfold zeG
  rw [if_pos hg, h]
theorem zjC {V : ByteArray → Bool} {s : ByteArray} (h : zcI V s) : (w9 s).1.In ∧ (w9 s).1.cb.length ≤ 65536 ∧ s = ofL (w9 s).1.cb := by
  obtain ⟨h1, h2, h3, h4⟩ := h
  have := ky 8 ⟨s, false⟩ h1
  unfold zdn at h4
  rw [if_pos h3] at h4
  split at h4
  · have := congrArg (·.2) h4; simp at this
  · exact ⟨this.2.2, by omega, (congrArg (·.1) h4).symm⟩
theorem zec {V : ByteArray → Bool} {s : ByteArray} : zcI V s ↔ ∃ x : Nd, x.validB V 8 = true ∧ x.In ∧ x.cb.length ≤ 65536 ∧ s = ofL x.cb := by
  constructor
  · intro h
    obtain ⟨h1, h2, h3⟩ := zjC h
    exact ⟨_, h.2.2.1, h1, h2, h3⟩
  · rintro ⟨x, h1, h2, h3, rfl⟩
    have := zbW h1 h2 h3
    unfold zeG at this
    split at this
    · assumption
    · have := congrArg (·.2) this; simp at this
theorem zeP {V : ByteArray → Bool} {s : ByteArray} (h : ¬ zcI V s) : zeG V s = (Nd.zero, 4) := if_neg h
theorem zmz {V : ByteArray → Bool} {x : Nd} (hv : x.validB V 8 = true) (hl : x.cb.length ≤ 65536) : zdn V x = (ofL x.cb, 0) := by
  unfold zdn; rw [if_pos hv, if_neg (by omega)]
theorem zja {s : ByteArray} (h : (w9 s).2.bad = false) : (w9 s).1.cb.length ≤ s.size ∧ (w9 s).1.In := by
  have := ky 8 ⟨s, false⟩ h
  exact ⟨Nat.le_trans (Nat.le_add_right _ _) this.2.1, this.2.2⟩
end Go.AL
namespace Go.AL
open Go Go.Proofs Go.RowKit Go.Lib Go.Shelf
theorem kF {P : Program} {w : World} {t e : TypeId} {n fuel : Nat} {cs : List Value} {d : DataW Unit} {p : List MemPlace} (ht : P.underlying t = some (.array n e)) (h : DataW.trod (fun _ => ()) P w 0 (fun _ => true) false fuel t cs = some (d, p)) : cs.length = P.cellsOf t := by
  cases fuel with
  | zero => simp [DataW.trod] at h
  | succ fuel =>
    simp only [DataW.trod, ht] at h
    split at h
    · assumption
    · cases h
theorem zoP {W : World} (h3 : VarReads Tryz.prog W "unicode/utf8.first" Lib.firstData) (h4 : VarReads Tryz.prog W "unicode/utf8.acceptRanges" Lib.acceptData) :
    ∃ oF oA, W.heap[0]? = some oF ∧ W.heap[1]? = some oA ∧ zou W ∧ ∀ w : World, w.heap[0]? = some oF → w.heap[1]? = some oA → Utf8Tabs 0 1 w := by
  have hu : Utf8Tabs 0 1 W := utf8Tabs_of_readsT (U8Types.of196 zol) ⟨by kernel_rfl, by kernel_rfl, by kernel_rfl, by kernel_rfl, by kernel_rfl, by kernel_rfl, by kernel_rfl⟩ h3 h4
  obtain ⟨g, t, cs, fuel, p, hg, hty, hvar, hd⟩ := h3
  obtain rfl := Option.some.inj ((show Tryz.prog.globalNamed "unicode/utf8.first" = some 0 by kernel_rfl).symm.trans hg)
  obtain rfl := Option.some.inj ((show (Tryz.prog.globals[0]?).map (·.type) = some 262 by kernel_rfl).symm.trans hty)
  obtain ⟨g, t, ds, fuel', p', hg', hty', hvar', hd'⟩ := h4
  obtain rfl := Option.some.inj ((show Tryz.prog.globalNamed "unicode/utf8.acceptRanges" = some 1 by kernel_rfl).symm.trans hg')
  obtain rfl := Option.some.inj ((show (Tryz.prog.globals[1]?).map (·.type) = some 265 by kernel_rfl).symm.trans hty')
  have l1 := kF Tryz.underlying262 hd
  have l2 := kF Tryz.underlying265 hd'
  rw [show Tryz.prog.cellsOf 262 = 256 by kernel_rfl] at l1
  rw [show Tryz.prog.cellsOf 265 = 32 by kernel_rfl] at l2
  have c1 := fun i => World.var?_cell hg hvar i
  have c2 := fun i => World.var?_cell hg' hvar' i
  have o1 : ∃ oF, W.heap[0]? = some oF := by
    simp only [World.var?, hg, Option.bind_some] at hvar
    split at hvar
    · rename_i e; exact ⟨_, e⟩
    · cases hvar
  have o2 : ∃ oA, W.heap[1]? = some oA := by
    simp only [World.var?, hg', Option.bind_some] at hvar'
    split at hvar'
    · rename_i e; exact ⟨_, e⟩
    · cases hvar'
  obtain ⟨oF, hF⟩ := o1
  obtain ⟨oA, hA⟩ := o2
  refine ⟨oF, oA, hF, hA, ?_, fun w e0 e1 => ?_⟩
  · intro b hb o u h
    rw [xh] at h
    rcases hb with rfl | rfl
    · have : o < 256 := by
        rw [c1] at h
        have := (Array.getElem?_eq_some_iff.1 h).1
        simp only [Array.length_toList] at l1
        omega
      rw [hu.1 o this] at h
      exact ⟨_, (Option.some.inj h).symm⟩
    · have : o < 32 := by
        rw [c2] at h
        have := (Array.getElem?_eq_some_iff.1 h).1
        simp only [Array.length_toList] at l2
        omega
      have hp := hu.2 (o / 2) (by omega)
      by_cases he : o % 2 = 0
      · rw [show 2 * (o / 2) = o by omega] at hp
        rw [hp.1] at h
        exact ⟨_, (Option.some.inj h).symm⟩
      · rw [show 2 * (o / 2) + 1 = o by omega] at hp
        rw [hp.2] at h
        exact ⟨_, (Option.some.inj h).symm⟩
  · have k0 : ∀ c, w.cell? ⟨0, c, none⟩ = W.cell? ⟨0, c, none⟩ := fun c => by
      rw [← xh, ← xh]; simp only [hcell, xA, e0, hF]
    have k1 : ∀ c, w.cell? ⟨1, c, none⟩ = W.cell? ⟨1, c, none⟩ := fun c => by
      rw [← xh, ← xh]; simp only [hcell, xA, e1, hA]
    exact ⟨fun c hc => by rw [k0]; exact hu.1 c hc, fun i hi => by rw [k1, k1]; exact hu.2 i hi⟩
def vD (s : ByteArray) : Bool := validD s.data.toList
theorem znF : ∀ (s : ByteArray), (∀ b ∈ s.data.toList, b.toNat < 128) → vD s = true := by
  intro s h
  unfold vD
  rw [validD_ascii s.data.toList.length _ (by rw [List.take_length]; exact h), List.drop_length]
  rfl
theorem ziX {n b1 b2 b3 sz lo hi k : Nat} (h : checkN n b1 b2 b3 sz lo hi = some k) {c1 c2 c3 : Nat} (e1 : 1 < n → c1 = b1) (e2 : 2 < n → c2 = b2) (e3 : 3 < n → c3 = b3) : checkN (n + 1) c1 c2 c3 sz lo hi = some k ∧ 1 ≤ k ∧ k ≤ n := by
  unfold checkN at h ⊢
  by_cases s2 : sz = 2
  · rw [if_pos s2] at h ⊢
    split at h
    · cases h
    · rename_i hc
      cases h
      have := e1 (by omega)
      subst this
      rw [if_neg (by omega)]
      exact ⟨rfl, by omega, by omega⟩
  · rw [if_neg s2] at h ⊢
    by_cases s3 : sz = 3
    · rw [if_pos s3] at h ⊢
      split at h
      · cases h
      · rename_i hc
        cases h
        have := e1 (by omega)
        have := e2 (by omega)
        subst c1; subst c2
        rw [if_neg (by omega)]
        exact ⟨rfl, by omega, by omega⟩
    · rw [if_neg s3] at h ⊢
      by_cases s4 : sz = 4
      · rw [if_pos s4] at h ⊢
        split at h
        · cases h
        · rename_i hc
          cases h
          have := e1 (by omega)
          have := e2 (by omega)
          have := e3 (by omega)
          subst c1; subst c2; subst c3
          rw [if_neg (by omega)]
          exact ⟨rfl, by omega, by omega⟩
      · rw [if_neg s4] at h; cases h
theorem zbK (b : UInt8) (hb : b.toNat < 128) : ∀ (n : Nat) (l : List UInt8), l.length ≤ n → validD l = true → validD (l ++ [b]) = true
  | _, [], _, _ => by rw [List.nil_append, validD_cons b [] hb]; rfl
  | 0, c :: t, h, _ => by simp at h
  | n + 1, c :: t, h, hv => by
    by_cases hc : c.toNat < 128
    · rw [List.cons_append, validD_cons c _ hc]
      rw [validD_cons c _ hc] at hv
      exact zbK b hb n t (by simpa using h) hv
    · have g0 : ((c :: t).getD 0 0) = c := rfl
      have g0' : (((c :: t) ++ [b]).getD 0 0) = c := rfl
      rw [validD_lead (c :: t) (by simp) (by rw [g0]; omega)] at hv
      rw [validD_lead ((c :: t) ++ [b]) (by simp) (by rw [g0']; omega), g0']
      rw [g0] at hv
      split at hv
      · cases hv
      · rename_i k hk
        have gi : ∀ i, i < (c :: t).length → (((c :: t) ++ [b]).getD i 0) = (c :: t).getD i 0 := fun i hi => by
          simp only [List.getD_eq_getElem?_getD, List.getElem?_append_left hi]
        obtain ⟨q1, q2, q3⟩ := ziX hk (c1 := (((c :: t) ++ [b]).getD 1 0).toNat) (c2 := (((c :: t) ++ [b]).getD 2 0).toNat) (c3 := (((c :: t) ++ [b]).getD 3 0).toNat) (fun h => by rw [gi 1 h]) (fun h => by rw [gi 2 h]) (fun h => by rw [gi 3 h])
        rw [show ((c :: t) ++ [b]).length = (c :: t).length + 1 by simp, q1]
        simp only
        rw [List.drop_append_of_le_length q3]
        exact zbK b hb n _ (by rw [List.length_drop]; simp only [List.length_cons] at h q3 ⊢; omega) hv
theorem zoz : VOk vD where
  asc := znF
  app := fun s h => by
    unfold vD at h ⊢
    rw [ByteArray.data_append, Array.toList_append]
    exact zbK 120 (by decide) _ _ (Nat.le_refl _) h
  odd := by unfold vD; decide +kernel
theorem ze4 : ∀ l : List ByteArray, T.noU8L (l.map .str) = true
  | [] => rfl
  | x :: xs => by simp [T.noU8L, T.noU8, ze4 xs]
mutual
theorem Nd.noU8 : ∀ x : Nd, x.toT.noU8 = true
  | .mk k b n t ns is => by simp [Nd.toT, T.noU8, T.noU8L, ze4, Nd.noU8s is]
theorem Nd.noU8s : ∀ l : List Nd, T.noU8L (Nd.toTs l) = true
  | [] => rfl
  | x :: xs => by simp [Nd.toTs, T.noU8L, Nd.noU8 x, Nd.noU8s xs]
end
end Go.AL
namespace Go.AL
open Go Go.Proofs Go.RowKit
theorem vt (l : List UInt8) : znU (u8L l) := by
  intro e he
  simp only [u8L, List.mem_map] at he
  obtain ⟨b, _, rfl⟩ := he
  rfl
theorem xU (l : List UInt8) : zbi (u8L l) = ofL l := by
  unfold zbi u8L strOfNums ofL
  rw [List.map_map, List.map_map]
  have : (((fun n => UInt8.ofNat n.toNat) ∘ T.num) ∘ u8T) = id := by
    funext b
    show UInt8.ofNat ((b.toNat : Int).toNat) = b
    simp
  rw [this, List.map_id]
set_option maxHeartbeats 4000000 in
theorem zfE {oF oA : Obj} {V : ByteArray → Bool} (hS : xH oF oA V) (x : Nd) (hx : x.Ok) (hin : x.In) (hsz : x.validB V 8 = true → x.cb.length ≤ 49999999) : Spec Tryz.prog 103 [.t x.toT] [(.par 100, .dat (.fix 0 oF)), (.par 101, .dat (.fix 1 oA))] (.tup [.t (.str (zdn V x).1), .t (.int .i64 (zdn V x).2)]) [(.par 100, .dat (.fix 0 oF)), (.par 101, .dat (.fix 1 oA))] := by
  have hC : Spec Tryz.prog 99 [.t x.toT, .t (.fn 167)] [(.par 100, .dat (.fix 0 oF)), (.par 101, .dat (.fix 1 oA))] (.tup [.t (.str (zdn V x).1), .t (.int .i64 (zdn V x).2)]) [(.par 100, .dat (.fix 0 oF)), (.par 101, .dat (.fix 1 oA))] := by
    have hV := v8 hS x hx
    have hT := x.toT_full
    unfold zdn
    cases hv : x.validB V 8 with
    | false =>
      rw [hv] at hV
      rw [hT] at hV ⊢
      refine wI Tryz.func99 ?_
      repeat' (first | refine wC ?_ | refine wK ?_ | ((with_reducible refine ze ?_); refine wN (.t (.bool false)) [] hV ?_) | fail)
      exact zp (zD rfl rfl rfl rfl rfl) (zc ⟨rfl, rfl, trivial⟩)
    | true =>
      have hP := Spec.nilArg (zff x 8 hv hin [] (by have := hsz hv; simp; omega)) rfl rfl rfl
      rw [List.nil_append] at hP
      rw [hv] at hV
      rw [hT] at hV hP ⊢
      have hlen : (u8L x.cb).length = x.cb.length := zZ _
      have hsz' := hsz hv
      refine wI Tryz.func99 ?_
      repeat' (first | refine wC ?_ | refine wK ?_ | ((with_reducible refine yJ ?_); refine z6 rfl rfl rfl rfl rfl rfl ?_ ?_) | ((with_reducible refine ze ?_); first | refine wN (.t (.bool true)) [] hV ?_ | refine wN (.row (.loc 903)) [(.res 0, .loc 903)] hP ?_) | refine zd rfl ?_ ?_ <;> intro hc)
      · exact zp (zD rfl rfl rfl (by rw [if_pos rfl, if_pos (by omega)]; rfl) (by rw [if_pos rfl, if_pos (by omega)])) (zc ⟨rfl, rfl, trivial⟩)
      · exact vt _
      · exact zp (zD rfl rfl rfl (by rw [if_pos rfl, if_neg (by omega), xU]) (by rw [if_pos rfl, if_neg (by omega)])) (zc ⟨rfl, rfl, trivial⟩)
  generalize (zdn V x).1 = s1 at hC ⊢
  generalize (zdn V x).2 = s2 at hC ⊢
  have hT := x.toT_full
  rw [hT] at hC ⊢
  refine wI Tryz.func103 ?_
  repeat' (first | refine wC ?_ | refine wK ?_ | ((with_reducible refine ze ?_); refine wN (.tup [.t (.str s1), .t (.int .i64 s2)]) [] hC ?_) | fail)
  exact zp (zD rfl rfl rfl rfl rfl) (zc ⟨rfl, rfl, trivial⟩)
end Go.AL
namespace Go.AL
open Go Go.RowKit
theorem kQ (r : Rs) (n : Int) : (r.take n).2.s.size ≤ r.s.size := by
  unfold Rs.take
  split
  · exact Nat.le_refl _
  · simp only [ByteArray.size_extract]; omega
theorem wW (r : Rs) : r.byte.2.s.size ≤ r.s.size := kQ r 1
theorem zbR (r : Rs) (k : Int) : (r.uint k).2.s.size ≤ r.s.size := kQ r k
theorem zau (r : Rs) (n : Int) : (r.fits n).2.s.size ≤ r.s.size ∧ ((r.fits n).1 ≤ r.s.size) := by
  unfold Rs.fits
  split
  · exact ⟨Nat.le_refl _, by omega⟩
  · exact ⟨Nat.le_refl _, by omega⟩
theorem jU (r : Rs) : (yE r).2.s.size ≤ r.s.size := by
  have h1 := wW r
  unfold yE
  split
  · exact h1
  · split
    · exact h1
    · exact Nat.le_trans (zbR _ _) h1
theorem zdW {r : Rs} {i : Nat} (hi : i ≤ 3) : 0 ≤ (r.uint (2 ^ i)).1 ∧ (r.uint (2 ^ i)).1 < 18446744073709551616 := by
  by_cases h : (r.uint (2 ^ i)).2.bad = false
  · have h256 : (256 : Int) ^ (2 ^ i) ≤ 18446744073709551616 := by
      match i, hi with
      | 0, _ | 1, _ | 2, _ | 3, _ => decide +kernel
    have := vT hi h
    omega
  · have hb : (r.take (2 ^ i)).2.bad = true := by
      have : (r.uint (2 ^ i)).2 = (r.take (2 ^ i)).2 := rfl
      rw [this] at h; simpa using h
    have he : (r.take (2 ^ i)).1 = eS := by
      unfold Rs.take at hb ⊢
      split
      · rfl
      · rename_i hn; rw [if_neg hn] at hb; simp at hb
    unfold Rs.uint
    rw [he]
    exact ⟨Int.le_refl 0, show (0 : Int) < 18446744073709551616 by decide⟩
theorem zb4 (r : Rs) : 0 ≤ (yE r).1.1 ∧ (yE r).1.1 < 8 ∧ 0 ≤ (yE r).1.2 ∧ (yE r).1.2 < 18446744073709551616 := by
  have hb := xK r
  unfold yE
  split
  · refine ⟨?_, ?_, ?_, ?_⟩ <;> (simp only; omega)
  · split
    · refine ⟨?_, ?_, ?_, ?_⟩ <;> (simp only; omega)
    · rename_i h1 h2
      have hu := zdW (r := r.byte.2) (i := (r.byte.1 % 32 - 24).toNat) (by omega)
      exact ⟨by simp only; omega, by simp only; omega, hu.1, hu.2⟩
theorem zea (r : Rs) (n : Int) : (xQ r n).2.s.size ≤ r.s.size := Nat.le_trans (kQ _ _) (zau r n).1
theorem zcY (r : Rs) (n : Int) : (xQ r n).1.size ≤ r.s.size := by
  unfold xQ Rs.take
  have := (zau r n).1
  split
  · exact Nat.zero_le _
  · simp only [ByteArray.size_extract]; omega
theorem zhn (r : Rs) : (vh r).2.s.size ≤ r.s.size ∧ (vh r).1.size ≤ r.s.size := by
  have h := jU r
  unfold vh
  split
  · exact ⟨Nat.le_trans (zea _ _) h, Nat.le_trans (zcY _ _) h⟩
  · exact ⟨Nat.le_trans (zea _ _) h, Nat.le_trans (zcY _ _) h⟩
theorem jK (f : Rs → Nd × Rs) (k : Int) (B : Nat) (hf : ∀ r : Rs, r.s.size ≤ B → (f r).2.s.size ≤ B ∧ (f r).1.Ok) : ∀ (c : Nat) (ns : List ByteArray) (is : List Nd) (r : Rs), r.s.size ≤ B → ns.length + c ≤ 1000000000 → is.length + c ≤ 1000000000 → (∀ x ∈ is, x.Ok) → (yA f k c ns is r).2.s.size ≤ B ∧ (yA f k c ns is r).1.Ok
  | 0, ns, is, r, hr, h1, h2, h3 => ⟨hr, .mk (by omega) (by omega) h3⟩
  | c + 1, ns, is, r, hr, h1, h2, h3 => by
    unfold yA
    have key : ∀ (y : Nd), y.Ok → ∀ x ∈ is ++ [y], x.Ok := fun y hy x hx => by
      rcases List.mem_append.1 hx with h | h
      · exact h3 x h
      · rw [List.mem_singleton.1 h]; exact hy
    split
    · exact ⟨hr, .mk (by omega) (by omega) h3⟩
    · split
      · have h := hf (vh r).2 (Nat.le_trans (zhn r).1 hr)
        exact jK f k B hf c _ _ _ h.1 (by simp; omega) (by simp; omega) (key _ h.2)
      · have h := hf r hr
        exact jK f k B hf c _ _ _ h.1 (by omega) (by simp; omega) (key _ h.2)
theorem xw : Nd.zero.Ok := .mk (by simp) (by simp) (by simp)
theorem zbh (B : Nat) (hB : B ≤ 1000000000) : ∀ (d : Nat) (r : Rs), r.s.size ≤ B → (xu d r).2.s.size ≤ B ∧ (xu d r).1.Ok
  | 0, r, hr => ⟨Nat.le_trans (jU r) hr, xw⟩
  | d + 1, r, hr => by
    obtain ⟨m, n, q, hh⟩ : ∃ m n q, yE r = ((m, n), q) := ⟨_, _, _, rfl⟩
    have hq : q.s.size ≤ B := by have := jU r; rw [hh] at this; exact Nat.le_trans this hr
    have hf := zau q n
    rw [x6 hh]
    split
    · exact ⟨hq, .mk (by simp) (by simp) (by simp)⟩
    split
    · exact ⟨hq, .mk (by simp) (by simp) (by simp)⟩
    split
    · exact ⟨Nat.le_trans (zea q n) hq, .mk (by simp) (by simp) (by simp)⟩
    split
    · exact jK (xu d) 4 B (zbh B hB d) _ _ _ _ (Nat.le_trans hf.1 hq) (by simp; omega) (by simp; omega) (by simp)
    split
    · exact jK (xu d) 5 B (zbh B hB d) _ _ _ _ (Nat.le_trans hf.1 hq) (by simp; omega) (by simp; omega) (by simp)
    split
    · exact ⟨hq, .mk (by simp) (by simp) (by simp)⟩
    · exact ⟨hq, xw⟩
end Go.AL
