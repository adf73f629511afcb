/- What functions of the program and of the document answer, and the plain laws behind it; each under the conditions that its own theorem names. -/
import Derived.Test.YtmidabiehblekaaGreatDoorTd
import Derived.Test.YtmidabiehblekaaGreatDoorAl3
import Derived.Test.YtmidabiehblekaaGreatDoorTb
import Derived.Test.YtmidabiehblekaaGreatDoorTc
set_option linter.unusedVariables false
namespace Go.AL
open Go Go.Proofs Go.RowKit
set_option maxHeartbeats 8000000 in
theorem zhb (es : List T) (hes : es.length ≤ 100000000) (few many n : Nat) (hf : few < 240) (hm : many < 256) (hn : n < 65536) : Spec Tryz.prog 162 [.row (.par 0), .t (.int .u8 (few : Int)), .t (.int .u8 (many : Int)), .t (.int .i64 (n : Int))] [(.par 0, .slt 5 1 es)] (.row (.res 0)) [(.res 0, .slt 5 1 (es ++ u8L (pCn few many n)))] := by
  have hP : ∀ X : T, Spec Tryz.prog 229 [.row (.par 0), .t (.int .u64 (IntKind.u64.wrap (n : Int))), .t (.int .i64 2)] [(.par 0, .slt 5 1 (es ++ [X]))] (.row (.res 0)) [(.res 0, .slt 5 1 ((es ++ [X]) ++ u8L (yr 2 n)))] := fun X => by
    rw [ye (by omega) (by omega)]
    exact jq _ (by simp; omega) n (by omega) 2 (by omega)
  unfold pCn
  by_cases h : n < 16
  · rw [if_pos h]
    refine wIG Tryz.func162 ?_
    repeat' (first | refine wC ?_ | refine wK ?_ | ((with_reducible refine zw ?_); refine zh rfl rfl rfl rfl rfl rfl rfl rfl rfl rfl ?_ ?_ ?_) | refine zd rfl ?_ ?_ <;> intro hc)
    all_goals try (exfalso; omega)
    all_goals try (simp only [List.length_cons, List.length_nil]; omega)
    refine zv ((za [8] [.loc 17] rfl rfl).trans (zg (.loc 17) (.res 0) rfl rfl rfl rfl)) ?_
    refine zL (zp (zK rfl (AVLE.refl _)) (zc ⟨?_, trivial⟩))
    have : IntKind.u8.wrap ((few : Int) + IntKind.u8.wrap (n : Int)) = ((UInt8.ofNat (few + n)).toNat : Int) := by
      rw [xo (n := (n : Int)) (by omega) (by omega), xo (by omega) (by omega), UInt8.toNat_ofNat']; omega
    rw [this]; rfl
  · rw [if_neg h]
    refine wIG Tryz.func162 ?_
    repeat' (first | refine wC ?_ | refine wK ?_ | ((with_reducible refine zw ?_); refine zh rfl rfl rfl rfl rfl rfl rfl rfl rfl rfl ?_ ?_ ?_) | ((with_reducible refine ze ?_); refine wN (.row (.loc 901)) [(.par 0, .loc 21), (.res 0, .loc 901)] (hP _) ?_) | refine zd rfl ?_ ?_ <;> intro hc)
    all_goals try (exfalso; omega)
    all_goals try (simp only [List.length_cons, List.length_nil]; omega)
    refine zv ((za [8] [.loc 901] rfl rfl).trans (zg (.loc 901) (.res 0) rfl rfl rfl rfl)) ?_
    refine zL (zp (zK rfl (AVLE.refl _)) (zc ⟨?_, trivial⟩))
    have : (many : Int) = ((UInt8.ofNat many).toNat : Int) := by rw [UInt8.toNat_ofNat']; omega
    rw [this, List.append_assoc]; rfl
set_option maxHeartbeats 8000000 in
theorem zhx (es : List T) (hes : es.length ≤ 100000000) (s : ByteArray) (hs : s.size ≤ 1000000) : Spec Tryz.prog 161 [.row (.par 0), .t (.str s)] [(.par 0, .slt 5 1 es)] (.row (.res 0)) [(.res 0, .slt 5 1 (es ++ u8L (pTx s)))] := by
  obtain ⟨z, hz⟩ : ∃ z, (s.size : Int) = z := ⟨_, rfl⟩
  have hP : ∀ (X : T) (k : Nat), k ≤ 8 → Spec Tryz.prog 229 [.row (.par 0), .t (.int .u64 (IntKind.u64.wrap z)), .t (.int .i64 (k : Int))] [(.par 0, .slt 5 1 (es ++ [X]))] (.row (.res 0)) [(.res 0, .slt 5 1 ((es ++ [X]) ++ u8L (yr k s.size)))] := fun X k hk => by
    rw [ye (by omega) (by omega), ← hz]
    exact jq _ (by simp; omega) s.size (by omega) k hk
  have hP1 := fun X => hP X 1 (by omega)
  have hP2 := fun X => hP X 2 (by omega)
  have hP4 := fun X => hP X 4 (by omega)
  have hb : (yW s).length = s.size := by unfold yW; rw [List.length_map]; exact ya s
  have hl := ya s
  have e0 : yW s = u8L s.data.toList := rfl
  unfold pTx pTh
  by_cases h32 : s.size < 32
  · rw [if_pos h32]
    refine wIG Tryz.func161 ?_
    repeat' (first | refine wC ?_ | refine qj hz rfl rfl rfl rfl rfl ?_ | refine wK ?_ | ((with_reducible refine zw ?_); first | refine zh rfl rfl rfl rfl rfl rfl rfl rfl rfl rfl ?_ ?_ ?_ | refine yH rfl rfl rfl rfl rfl rfl rfl rfl rfl ?_ ?_ ?_) | refine zd rfl ?_ ?_ <;> intro hc)
    all_goals try (exfalso; omega)
    all_goals try (simp only [List.length_append, List.length_cons, List.length_nil, hb]; omega)
    refine zv ((za [4] [.loc 43] rfl rfl).trans (zg (.loc 43) (.res 0) rfl rfl rfl rfl)) ?_
    refine zL (zp (zK rfl (AVLE.refl _)) (zc ⟨?_, trivial⟩))
    have : IntKind.u8.wrap (IntKind.i64.wrap (160 + z)) = ((UInt8.ofNat (160 + s.size)).toNat : Int) := by
      rw [zr (by omega) (by omega), xo (by omega) (by omega), UInt8.toNat_ofNat']; omega
    rw [this, e0, zP, ← List.append_assoc]; rfl
  · rw [if_neg h32]
    by_cases h256 : s.size < 256
    · rw [if_pos h256]
      refine wIG Tryz.func161 ?_
      repeat' (first | refine wC ?_ | refine qj hz rfl rfl rfl rfl rfl ?_ | refine wK ?_ | ((with_reducible refine zw ?_); first | refine zh rfl rfl rfl rfl rfl rfl rfl rfl rfl rfl ?_ ?_ ?_ | refine yH rfl rfl rfl rfl rfl rfl rfl rfl rfl ?_ ?_ ?_) | ((with_reducible refine ze ?_); refine wN (.row (.loc 901)) [(.par 0, .loc 28), (.res 0, .loc 901)] (hP1 _) ?_) | refine zd rfl ?_ ?_ <;> intro hc)
      all_goals try (exfalso; omega)
      all_goals try (simp only [List.length_append, List.length_cons, List.length_nil, zZ, zO, hb]; omega)
      refine zv ((za [4] [.loc 43] rfl rfl).trans (zg (.loc 43) (.res 0) rfl rfl rfl rfl)) ?_
      refine zL (zp (zK rfl (AVLE.refl _)) (zc ⟨?_, trivial⟩))
      rw [e0, zP, ← List.append_assoc, List.append_assoc es]; rfl
    · rw [if_neg h256]
      by_cases h64 : s.size < 65536
      · rw [if_pos h64]
        refine wIG Tryz.func161 ?_
        repeat' (first | refine wC ?_ | refine qj hz rfl rfl rfl rfl rfl ?_ | refine wK ?_ | ((with_reducible refine zw ?_); first | refine zh rfl rfl rfl rfl rfl rfl rfl rfl rfl rfl ?_ ?_ ?_ | refine yH rfl rfl rfl rfl rfl rfl rfl rfl rfl ?_ ?_ ?_) | ((with_reducible refine ze ?_); refine wN (.row (.loc 901)) [(.par 0, .loc 37), (.res 0, .loc 901)] (hP2 _) ?_) | refine zd rfl ?_ ?_ <;> intro hc)
        all_goals try (exfalso; omega)
        all_goals try (simp only [List.length_append, List.length_cons, List.length_nil, zZ, zO, hb]; omega)
        refine zv ((za [4] [.loc 43] rfl rfl).trans (zg (.loc 43) (.res 0) rfl rfl rfl rfl)) ?_
        refine zL (zp (zK rfl (AVLE.refl _)) (zc ⟨?_, trivial⟩))
        rw [e0, zP, ← List.append_assoc, List.append_assoc es]; rfl
      · rw [if_neg h64]
        refine wIG Tryz.func161 ?_
        repeat' (first | refine wC ?_ | refine qj hz rfl rfl rfl rfl rfl ?_ | refine wK ?_ | ((with_reducible refine zw ?_); first | refine zh rfl rfl rfl rfl rfl rfl rfl rfl rfl rfl ?_ ?_ ?_ | refine yH rfl rfl rfl rfl rfl rfl rfl rfl rfl ?_ ?_ ?_) | ((with_reducible refine ze ?_); refine wN (.row (.loc 901)) [(.par 0, .loc 10), (.res 0, .loc 901)] (hP4 _) ?_) | refine zd rfl ?_ ?_ <;> intro hc)
        all_goals try (exfalso; omega)
        all_goals try (simp only [List.length_append, List.length_cons, List.length_nil, zZ, zO, hb]; omega)
        refine zv ((za [4] [.loc 43] rfl rfl).trans (zg (.loc 43) (.res 0) rfl rfl rfl rfl)) ?_
        refine zL (zp (zK rfl (AVLE.refl _)) (zc ⟨?_, trivial⟩))
        rw [e0, zP, ← List.append_assoc, List.append_assoc es]; rfl
def qa (k : Int) (ns : List ByteArray) (is : List Nd) (i : Nat) : List UInt8 := if k = 5 then Nd.pbm (ns.take i) (is.take i) else Nd.pbs (is.take i)
theorem zdF : ∀ (a b : List Nd), Nd.pbs (a ++ b) = Nd.pbs a ++ Nd.pbs b
  | [], b => rfl
  | x :: a, b => by simp [Nd.pbs, zdF a b]
theorem zdT : ∀ (a : List ByteArray) (b : List Nd) (s : ByteArray) (x : Nd), a.length = b.length → Nd.pbm (a ++ [s]) (b ++ [x]) = Nd.pbm a b ++ (pTx s ++ x.pb)
  | [], [], s, x, _ => by simp [Nd.pbm]
  | n :: a, y :: b, s, x, h => by simp [Nd.pbm, zdT a b s x (by simpa using h), List.append_assoc]
  | [], _ :: _, _, _, h => by simp at h
  | _ :: _, [], _, _, h => by simp at h
theorem qZ {k : Int} {ns : List ByteArray} {is : List Nd} {i : Nat} (hk : k ≠ 5) (hi : i < is.length) : qa k ns is (i + 1) = qa k ns is i ++ (is.getD i default).pb := by
  have e : is.take (i + 1) = is.take i ++ [is.getD i default] := by
    rw [List.take_add_one, List.getElem?_eq_getElem hi]; simp [List.getD_eq_getElem?_getD, hi]
  simp only [qa, if_neg hk, e, zdF, Nd.pbs, List.append_nil]
theorem jF {ns : List ByteArray} {is : List Nd} {i : Nat} (hl : ns.length = is.length) (hi : i < is.length) : qa 5 ns is (i + 1) = qa 5 ns is i ++ (pTx (ns.getD i default) ++ (is.getD i default).pb) := by
  have e : is.take (i + 1) = is.take i ++ [is.getD i default] := by
    rw [List.take_add_one, List.getElem?_eq_getElem hi]; simp [List.getD_eq_getElem?_getD, hi]
  have e2 : ns.take (i + 1) = ns.take i ++ [ns.getD i default] := by
    rw [List.take_add_one, List.getElem?_eq_getElem (by omega)]; simp [List.getD_eq_getElem?_getD, show i < ns.length by omega]
  simp only [qa, if_true, e, e2]
  exact zdT _ _ _ _ (by simp; omega)
theorem zbX {k : Int} {ns : List ByteArray} {is : List Nd} (hk : k = 5 → ns.length = is.length) {i j : Nat} (hij : i ≤ j) (hj : j ≤ is.length) : (qa k ns is i).length ≤ (qa k ns is j).length := by
  induction j with
  | zero => rw [show i = 0 by omega]; exact Nat.le_refl _
  | succ j ih =>
    rcases Nat.lt_or_ge i (j + 1) with h | h
    · refine Nat.le_trans (ih (by omega) (by omega)) ?_
      by_cases h5 : k = 5
      · subst h5
        rw [jF (hk rfl) (by omega), List.length_append]; omega
      · rw [qZ h5 (by omega), List.length_append]; omega
    · rw [show i = j + 1 by omega]; exact Nat.le_refl _
def zhP (k : Int) : Nat := if k = 4 then 144 else 128
def jB (k : Int) : Nat := if k = 4 then 220 else 222
set_option maxHeartbeats 8000000 in
theorem zlt (k : Int) (hk45 : k = 4 ∨ k = 5) (b : Bool) (n : Int) (t : ByteArray) (ns : List ByteArray) (is : List Nd) (hlen : is.length ≤ 256) (hk : k = 5 → ns.length = is.length)
    (hns : ∀ s ∈ ns, s.size ≤ 65536) (es : List T) (hb : es.length + (pCn (zhP k) (jB k) is.length).length + (qa k ns is is.length).length ≤ 50000000)
    (IH : ∀ i, i < is.length → ∀ es' : List T, es'.length + (is.getD i default).pb.length ≤ 50000000 → Spec Tryz.prog 100 [.row (.par 0), .t (is.getD i default).toT] [(.par 0, .slt 5 1 es')] (.row (.res 0)) [(.res 0, .slt 5 1 (es' ++ u8L (is.getD i default).pb))]) :
    Spec Tryz.prog 100 [.row (.par 0), .t (.agg [.int .i64 k, .bool b, .int .i64 n, .str t, .sl 1 (ns.map .str), .sl 6 (is.map Nd.toT)])] [(.par 0, .slt 5 1 es)] (.row (.res 0)) [(.res 0, .slt 5 1 (es ++ u8L (pCn (zhP k) (jB k) is.length) ++ u8L (qa k ns is is.length)))] := by
  have hI := zdk k b n t ns is
  have hH4 := zhb es (by omega) 144 220 is.length (by omega) (by omega) (by omega)
  have hH5 := zhb es (by omega) 128 222 is.length (by omega) (by omega) (by omega)
  obtain rfl | rfl := hk45
  · rw [show zhP 4 = 144 from rfl, show jB 4 = 220 from rfl] at hb ⊢
    refine wIG Tryz.func100 ?_
    repeat' (first | refine wC ?_ | refine wK ?_ | ((with_reducible refine ze ?_); first | refine wN (.row (.loc 903)) [(.res 0, .loc 903)] hH4 ?_ | refine wN (.fn 230 [.ref (.loc 904) 0 0 0]) [(.res 0, .loc 904)] hI ?_) | fail)
    refine zl ((za [2, 3, 49] [.loc 2, .loc 3, .loc 903, .loc 904] rfl rfl).trans ((jC 3 (.loc 3) [.int .i64 4, .bool b, .int .i64 n, .str t, .sl 1 (ns.map .str), .sl 6 (is.map Nd.toT)] rfl rfl rfl rfl rfl).trans (jH 49 (.loc 904) [.int .i64 4, .bool b, .int .i64 n, .str t, .sl 1 (ns.map .str), .sl 6 (is.map Nd.toT)] rfl rfl rfl rfl rfl))) ?_
    refine xD (.par 50) (.loc 905) [(.par 50, .loc 905), (.par 10, .loc 2), (.par 11, .loc 903), (.res 0, .loc 906)] rfl (fun fn B => qx 4 b n t ns is (by omega) hk ⟨62, fn, #[50, 51], _, _, B⟩ 2 3 (.agg [.int .i64 4, .bool b, .int .i64 n, .str t, .sl 1 (ns.map .str), .sl 6 (is.map Nd.toT)]) (fun i => es ++ u8L (pCn 144 220 is.length) ++ u8L (qa 4 ns is i)) ?_) (fun _ _ => rfl) rfl rfl rfl (ArgsLE.refl _) ⟨AVLE.refl _, AVLE.refl _, trivial⟩ rfl rfl ⟨rfl, ?_, trivial⟩ rfl rfl rfl rfl rfl rfl ?_
    rotate_left
    · have e0 : u8L (qa 4 ns is 0) = [] := by simp [qa, Nd.pbs, u8L]
      rw [e0, List.append_nil]; rfl
    · repeat' (first | refine wC ?_ | refine wK ?_ | fail)
      refine zv ((za [4] [.loc 906] rfl rfl).trans (zg (.loc 906) (.res 0) rfl rfl rfl rfl)) ?_
      exact zL (zp (zK rfl (AVLE.of_eq rfl)) (zc ⟨rfl, trivial⟩))
    intro i hi
    have hle : (qa 4 ns is (i + 1)).length ≤ (qa 4 ns is is.length).length := zbX hk (by omega) (by omega)
    have hP := IH i hi (es ++ u8L (pCn 144 220 is.length) ++ u8L (qa 4 ns is i)) (by
      rw [qZ (by decide) hi, List.length_append] at hle
      simp only [List.length_append, zZ]; omega)
    have hT := (is.getD i default).toT_full
    rw [hT] at hP ⊢
    rw [qZ (by decide) hi, zP, ← List.append_assoc]
    generalize es ++ u8L (pCn 144 220 is.length) ++ u8L (qa 4 ns is i) = xs at hP ⊢
    refine vq rfl rfl rfl rfl rfl ?_
    repeat' (first | refine wC ?_ | refine wK ?_ | ((with_reducible refine ze ?_); refine wN (.row (.loc 907)) [(.par 0, .par 11), (.res 0, .loc 907)] hP ?_) | fail)
    refine zv ((za [] [.par 10, .loc 907] rfl rfl).trans (zg (.loc 907) (.res 0) rfl rfl rfl rfl)) ?_
    exact zd2 ⟨rfl, rfl, trivial⟩
  · rw [show zhP 5 = 128 from rfl, show jB 5 = 222 from rfl] at hb ⊢
    refine wIG Tryz.func100 ?_
    repeat' (first | refine wC ?_ | refine wK ?_ | ((with_reducible refine ze ?_); first | refine wN (.row (.loc 903)) [(.res 0, .loc 903)] hH5 ?_ | refine wN (.fn 230 [.ref (.loc 904) 0 0 0]) [(.res 0, .loc 904)] hI ?_) | fail)
    refine zl ((za [2, 3, 49] [.loc 2, .loc 3, .loc 903, .loc 904] rfl rfl).trans ((jC 3 (.loc 3) [.int .i64 5, .bool b, .int .i64 n, .str t, .sl 1 (ns.map .str), .sl 6 (is.map Nd.toT)] rfl rfl rfl rfl rfl).trans (jH 49 (.loc 904) [.int .i64 5, .bool b, .int .i64 n, .str t, .sl 1 (ns.map .str), .sl 6 (is.map Nd.toT)] rfl rfl rfl rfl rfl))) ?_
    refine xD (.par 50) (.loc 905) [(.par 50, .loc 905), (.par 10, .loc 2), (.par 11, .loc 903), (.res 0, .loc 906)] rfl (fun fn B => qx 5 b n t ns is (by omega) hk ⟨62, fn, #[50, 51], _, _, B⟩ 2 3 (.agg [.int .i64 5, .bool b, .int .i64 n, .str t, .sl 1 (ns.map .str), .sl 6 (is.map Nd.toT)]) (fun i => es ++ u8L (pCn 128 222 is.length) ++ u8L (qa 5 ns is i)) ?_) (fun _ _ => rfl) rfl rfl rfl (ArgsLE.refl _) ⟨AVLE.refl _, AVLE.refl _, trivial⟩ rfl rfl ⟨rfl, ?_, trivial⟩ rfl rfl rfl rfl rfl rfl ?_
    rotate_left
    · have e0 : u8L (qa 5 ns is 0) = [] := by simp [qa, Nd.pbm, u8L]
      rw [e0, List.append_nil]; rfl
    · repeat' (first | refine wC ?_ | refine wK ?_ | fail)
      refine zv ((za [4] [.loc 906] rfl rfl).trans (zg (.loc 906) (.res 0) rfl rfl rfl rfl)) ?_
      exact zL (zp (zK rfl (AVLE.of_eq rfl)) (zc ⟨rfl, trivial⟩))
    intro i hi
    have hle : (qa 5 ns is (i + 1)).length ≤ (qa 5 ns is is.length).length := zbX hk (by omega) (by omega)
    have hl5 := hk rfl
    have hsz : (ns.getD i default).size ≤ 65536 := hns _ (by rw [List.getD_eq_getElem?_getD, List.getElem?_eq_getElem (by omega)]; simp)
    have hnm : jr 5 ns i = ns.getD i default := by simp [jr]
    rw [hnm]
    rw [jF hl5 hi, List.length_append, List.length_append] at hle
    rw [jF hl5 hi, zP, zP, ← List.append_assoc, ← List.append_assoc]
    have hxs : (es ++ u8L (pCn 128 222 is.length) ++ u8L (qa 5 ns is i)).length + (pTx (ns.getD i default)).length + (is.getD i default).pb.length ≤ 50000000 := by
      simp only [List.length_append, zZ]; omega
    have hP := IH i hi
    have hT := (is.getD i default).toT_full
    rw [hT] at hP ⊢
    generalize es ++ u8L (pCn 128 222 is.length) ++ u8L (qa 5 ns is i) = xs at hP hxs ⊢
    generalize ns.getD i default = s at hsz hxs ⊢
    have hH3 := zhx xs (by omega) s (by omega)
    have hP2 := hP (xs ++ u8L (pTx s)) (by simp only [List.length_append, zZ]; omega)
    refine vq rfl rfl rfl rfl rfl ?_
    repeat' (first | refine wC ?_ | refine wK ?_ | ((with_reducible refine ze ?_); first | refine wN (.row (.loc 908)) [(.par 0, .par 11), (.res 0, .loc 908)] hH3 ?_ | refine wN (.row (.loc 907)) [(.par 0, .loc 908), (.res 0, .loc 907)] hP2 ?_) | fail)
    refine zv ((za [] [.par 10, .loc 907] rfl rfl).trans (zg (.loc 907) (.res 0) rfl rfl rfl rfl)) ?_
    exact zd2 ⟨rfl, rfl, trivial⟩
set_option maxHeartbeats 8000000 in
theorem zfG {V : ByteArray → Bool} : ∀ (x : Nd) (e : Int), x.validB V e = true → x.In → ∀ es : List T, es.length + x.pb.length ≤ 50000000 →
    Spec Tryz.prog 100 [.row (.par 0), .t x.toT] [(.par 0, .slt 5 1 es)] (.row (.res 0)) [(.res 0, .slt 5 1 (es ++ u8L x.pb))]
  | .mk k b n t ns is, e, hv, hin, es, hb => by
    rw [yo] at hv
    obtain ⟨h1, h2, h3, h4, h5, h6, h7, h8⟩ := hv
    cases hin with
    | mk i1 i2 i3 =>
    rw [Nd.toT_eq]
    have hk : k = 0 ∨ k = 1 ∨ k = 2 ∨ k = 3 ∨ (k = 4 ∨ k = 5) := by omega
    rcases hk with rfl | rfl | rfl | rfl | hk
    · have ec : (Nd.mk 0 b n t ns is).pb = [UInt8.ofNat 192] := by simp [Nd.pb]
      rw [ec]
      refine wIG Tryz.func100 ?_
      repeat' (first | refine wC ?_ | refine wK ?_ | ((with_reducible refine zw ?_); refine zh rfl rfl rfl rfl rfl rfl rfl rfl rfl rfl ?_ ?_ ?_))
      all_goals try (simp only [List.length_cons, List.length_nil]; omega)
      refine zv ((za [4] [.loc 18] rfl rfl).trans (zg (.loc 18) (.res 0) rfl rfl rfl rfl)) ?_
      exact zL (zp (zK rfl (AVLE.of_eq rfl)) (zc ⟨rfl, trivial⟩))
    · cases b with
      | true =>
        have ec : (Nd.mk 1 true n t ns is).pb = [UInt8.ofNat 195] := by simp [Nd.pb]
        rw [ec]
        refine wIG Tryz.func100 ?_
        repeat' (first | refine wC ?_ | refine wK ?_ | ((with_reducible refine zw ?_); refine zh rfl rfl rfl rfl rfl rfl rfl rfl rfl rfl ?_ ?_ ?_))
        all_goals try (simp only [List.length_cons, List.length_nil]; omega)
        refine zv ((za [4] [.loc 25] rfl rfl).trans (zg (.loc 25) (.res 0) rfl rfl rfl rfl)) ?_
        exact zL (zp (zK rfl (AVLE.of_eq rfl)) (zc ⟨rfl, trivial⟩))
      | false =>
        have ec : (Nd.mk 1 false n t ns is).pb = [UInt8.ofNat 194] := by simp [Nd.pb]
        rw [ec]
        refine wIG Tryz.func100 ?_
        repeat' (first | refine wC ?_ | refine wK ?_ | ((with_reducible refine zw ?_); refine zh rfl rfl rfl rfl rfl rfl rfl rfl rfl rfl ?_ ?_ ?_))
        all_goals try (simp only [List.length_cons, List.length_nil]; omega)
        refine zv ((za [4] [.loc 28] rfl rfl).trans (zg (.loc 28) (.res 0) rfl rfl rfl rfl)) ?_
        exact zL (zp (zK rfl (AVLE.of_eq rfl)) (zc ⟨rfl, trivial⟩))
    · have ec : (Nd.mk 2 b n t ns is).pb = qI n := by simp [Nd.pb]
      have hN := zi9 es (by omega) n i1 i2
      rw [ec]
      refine wIG Tryz.func100 ?_
      repeat' (first | refine wC ?_ | refine wK ?_ | ((with_reducible refine ze ?_); refine wN (.row (.loc 903)) [(.res 0, .loc 903)] hN ?_) | fail)
      refine zv ((za [4] [.loc 903] rfl rfl).trans (zg (.loc 903) (.res 0) rfl rfl rfl rfl)) ?_
      exact zL (zp (zK rfl (AVLE.of_eq rfl)) (zc ⟨rfl, trivial⟩))
    · have ec : (Nd.mk 3 b n t ns is).pb = pTx t := by simp [Nd.pb]
      have ht : t.size ≤ 65536 := by
        simp only [yh, Bool.and_eq_true, decide_eq_true_eq] at h5; omega
      have hN := zhx es (by omega) t (by omega)
      rw [ec]
      refine wIG Tryz.func100 ?_
      repeat' (first | refine wC ?_ | refine wK ?_ | ((with_reducible refine ze ?_); refine wN (.row (.loc 903)) [(.res 0, .loc 903)] hN ?_) | fail)
      refine zv ((za [4] [.loc 903] rfl rfl).trans (zg (.loc 903) (.res 0) rfl rfl rfl rfl)) ?_
      exact zL (zp (zK rfl (AVLE.of_eq rfl)) (zc ⟨rfl, trivial⟩))
    · have ec : (Nd.mk k b n t ns is).pb = pCn (zhP k) (jB k) is.length ++ qa k ns is is.length := by
        have e1 : is.take is.length = is := List.take_length
        rcases hk with rfl | rfl
        · simp [Nd.pb, qa, zhP, jB]
        · have e2 : ns.take is.length = ns := by rw [← (h7 rfl).2]; exact List.take_length
          simp [Nd.pb, qa, e2, zhP, jB]
      rw [ec] at hb ⊢
      rw [zP, ← List.append_assoc]
      rw [List.length_append] at hb
      have hl : k = 5 → ns.length = is.length := fun h => by have := (h7 h).2; omega
      refine zlt k hk b n t ns is (by omega) hl (fun s hs => ?_) es (by omega) fun i hi es' hb' => ?_
      · by_cases h : k = 5
        · have := ((yF (yh V) ns []).1 (h7 h).1).2 s hs
          have := this.2
          simp only [yh, Bool.and_eq_true, decide_eq_true_eq] at this; omega
        · have hz : ns.length = 0 := by
            simp only [Nd.fieldsOK, Bool.and_eq_true, Bool.or_eq_true, decide_eq_true_eq] at h4
            have := h4.2; omega
          rw [List.eq_nil_of_length_eq_zero hz] at hs; cases hs
      · have hm : is.getD i default ∈ is := by rw [List.getD_eq_getElem?_getD, List.getElem?_eq_getElem hi]; exact List.getElem_mem _
        exact zfG (is.getD i default) (e - 1) (h8 _ hm) (i3 _ hm) es' hb'
termination_by x => SizeOf.sizeOf x
decreasing_by
  have := List.sizeOf_lt_of_mem hm
  simp only [Nd.mk.sizeOf_spec]
  omega
set_option maxHeartbeats 4000000 in
theorem jx {oF oA : Obj} {V : ByteArray → Bool} (hS : xH oF oA V) (x : Nd) (hx : x.Ok) (hin : x.In) (hsz : x.validB V 8 = true → x.pb.length ≤ 49999999) : Spec Tryz.prog 50 [.t x.toT] [(.par 100, .dat (.fix 0 oF)), (.par 101, .dat (.fix 1 oA))] (.tup [.t (.str (za0 pkC V x).1), .t (.int .i64 (za0 pkC V x).2)]) [(.par 100, .dat (.fix 0 oF)), (.par 101, .dat (.fix 1 oA))] := by
  have hC : Spec Tryz.prog 99 [.t x.toT, .t (.fn 100)] [(.par 100, .dat (.fix 0 oF)), (.par 101, .dat (.fix 1 oA))] (.tup [.t (.str (za0 pkC V x).1), .t (.int .i64 (za0 pkC V x).2)]) [(.par 100, .dat (.fix 0 oF)), (.par 101, .dat (.fix 1 oA))] := by
    have hV := v8 hS x hx
    have hT := x.toT_full
    unfold za0
    show Spec _ _ _ _ (.tup [.t (.str (if x.validB V 8 = true then (if 65536 < x.pb.length then (eS, (3 : Int)) else (ofL x.pb, 0)) else (eS, 1)).1), .t (.int .i64 (if x.validB V 8 = true then (if 65536 < x.pb.length then (eS, (3 : Int)) else (ofL x.pb, 0)) else (eS, 1)).2)]) _
    cases hv : x.validB V 8 with
    | false =>
      rw [hv] at hV
      rw [hT] at hV ⊢
      refine wI Tryz.func99 ?_
      repeat' (first | refine wC ?_ | refine wK ?_ | ((with_reducible refine ze ?_); refine wN (.t (.bool false)) [] hV ?_) | fail)
      exact zp (zD rfl rfl rfl rfl rfl) (zc ⟨rfl, rfl, trivial⟩)
    | true =>
      have hP := Spec.nilArg (zfG x 8 hv hin [] (by have := hsz hv; simp; omega)) rfl rfl rfl
      rw [List.nil_append] at hP
      rw [hv] at hV
      rw [hT] at hV hP ⊢
      have hlen : (u8L x.pb).length = x.pb.length := zZ _
      have hsz' := hsz hv
      refine wI Tryz.func99 ?_
      repeat' (first | refine wC ?_ | refine wK ?_ | ((with_reducible refine yJ ?_); refine z6 rfl rfl rfl rfl rfl rfl ?_ ?_) | ((with_reducible refine ze ?_); first | refine wN (.t (.bool true)) [] hV ?_ | refine wN (.row (.loc 903)) [(.res 0, .loc 903)] hP ?_) | refine zd rfl ?_ ?_ <;> intro hc)
      · exact zp (zD rfl rfl rfl (by rw [if_pos rfl, if_pos (by omega)]; rfl) (by rw [if_pos rfl, if_pos (by omega)])) (zc ⟨rfl, rfl, trivial⟩)
      · exact vt _
      · exact zp (zD rfl rfl rfl (by rw [if_pos rfl, if_neg (by omega), xU]) (by rw [if_pos rfl, if_neg (by omega)])) (zc ⟨rfl, rfl, trivial⟩)
  generalize (za0 pkC V x).1 = s1 at hC ⊢
  generalize (za0 pkC V x).2 = s2 at hC ⊢
  have hT := x.toT_full
  rw [hT] at hC ⊢
  refine wI Tryz.func50 ?_
  repeat' (first | refine wC ?_ | refine wK ?_ | ((with_reducible refine ze ?_); refine wN (.tup [.t (.str s1), .t (.int .i64 s2)]) [] hC ?_) | fail)
  exact zp (zD rfl rfl rfl rfl rfl) (zc ⟨rfl, rfl, trivial⟩)
set_option maxHeartbeats 4000000 in
theorem zgO {oF oA : Obj} {V : ByteArray → Bool} (hS : xH oF oA V) (hV : VOk V) : Spec Tryz.prog 13 [] [(.par 100, .dat (.fix 0 oF)), (.par 101, .dat (.fix 1 oA))] (.t (.bool true)) [(.par 100, .dat (.fix 0 oF)), (.par 101, .dat (.fix 1 oA))] := by
  have v1 : (Nd.ofNum 128).validB V 8 = true := zch hV _ _ (by decide)
  have v2 : (Nd.ofNum (-33)).validB V 8 = true := zch hV _ _ (by decide)
  have c1 : (Nd.ofNum 128).pb = [204, 128] := by decide
  have c2 : (Nd.ofNum (-33)).pb = [208, 223] := by decide
  have h1 := jx hS (Nd.ofNum 128) (zhM 128) (.mk (by decide) (by decide) (by simp)) (fun _ => by rw [c1]; decide)
  have h2 := jx hS (Nd.ofNum (-33)) (zhM (-33)) (.mk (by decide) (by decide) (by simp)) (fun _ => by rw [c2]; decide)
  have e1 : za0 pkC V (Nd.ofNum 128) = (⟨#[204, 128]⟩, 0) := by
    rw [zeu v1 (by show (Nd.ofNum 128).pb.length ≤ 65536; rw [c1]; decide)]; show (ofL (Nd.ofNum 128).pb, (0 : Int)) = _; rw [c1]; rfl
  have e2 : za0 pkC V (Nd.ofNum (-33)) = (⟨#[208, 223]⟩, 0) := by
    rw [zeu v2 (by show (Nd.ofNum (-33)).pb.length ≤ 65536; rw [c2]; decide)]; show (ofL (Nd.ofNum (-33)).pb, (0 : Int)) = _; rw [c2]; rfl
  rw [e1] at h1; rw [e2] at h2
  simp only [Nd.ofNum, Nd.toT_eq, List.map_nil] at h1 h2
  have hA1 : ArgsLE [.t (.agg [.int .i64 2, .bool false, .int .i64 128, .str ⟨#[]⟩, .nilsl, .nilsl])] [.t (.agg [.int .i64 2, .bool false, .int .i64 128, .str eS, .sl 1 [], .sl 6 []])] := wA
  have hA2 : ArgsLE [.t (.agg [.int .i64 2, .bool false, .int .i64 (-33), .str ⟨#[]⟩, .nilsl, .nilsl])] [.t (.agg [.int .i64 2, .bool false, .int .i64 (-33), .str eS, .sl 1 [], .sl 6 []])] := wA
  refine wI Tryz.func13 ?_
  repeat' (first | refine wC ?_ | refine wK ?_ | ((with_reducible refine ze ?_); first | refine ja (r' := .tup [.t (.str ⟨#[204, 128]⟩), .t (.int .i64 0)]) [] rfl rfl h1 hA1 rfl ⟨rfl, rfl, trivial⟩ rfl rfl rfl rfl rfl rfl rfl rfl rfl rfl ?_ | refine ja (r' := .tup [.t (.str ⟨#[208, 223]⟩), .t (.int .i64 0)]) [] rfl rfl h2 hA2 rfl ⟨rfl, rfl, trivial⟩ rfl rfl rfl rfl rfl rfl rfl rfl rfl rfl ?_))
  all_goals try (first | decide | (simp; done))
  exact zp (zo rfl rfl rfl) (zc ⟨rfl, rfl, trivial⟩)
def Rs.row (ty : TypeId) (r : Rs) : Row := .var ty [.t (.str r.s), .t (.bool r.bad)]
set_option maxHeartbeats 2000000 in
theorem wH (ty : TypeId) (r : Rs) (n : Int) (hs : r.s.size ≤ 1000000000) : Spec Tryz.prog 240 [.ref (.par 0) 0 0 0, .t (.int .i64 n)] [(.par 0, r.row ty)] (.t (.str (r.take n).1)) [(.par 0, (r.take n).2.row ty)] := by
  obtain ⟨s, bad⟩ := r
  unfold Rs.row
  simp only at hs ⊢
  by_cases hb : n < 0 ∨ (s.size : Int) < n
  · have e : Rs.take ⟨s, bad⟩ n = (eS, ⟨s, true⟩) := by
      unfold Rs.take; rw [if_pos (.inr hb)]
    rw [e]
    refine wI Tryz.func240 ?_
    repeat' (first | refine wC ?_ | refine wK ?_ | ((with_reducible refine vB ?_); first | refine yx rfl rfl rfl ⟨_, rfl⟩ rfl rfl rfl ?_ ?_ ?_ ?_ | refine yx rfl rfl ⟨_, rfl⟩ rfl rfl rfl rfl ?_ ?_ ?_ ?_) | refine zd rfl ?_ ?_ <;> intro hc | refine zan rfl ?_ ?_ <;> intro hc | refine zj rfl ?_ ?_ <;> intro hc)
    all_goals try (exfalso; omega)
    all_goals exact zp (zo rfl rfl rfl) (zc ⟨rfl, trivial⟩)
  · cases bad with
    | true =>
      have e : Rs.take ⟨s, true⟩ n = (eS, ⟨s, true⟩) := by
        unfold Rs.take; rw [if_pos (.inl rfl)]
      rw [e]
      refine wI Tryz.func240 ?_
      repeat' (first | refine wC ?_ | refine wK ?_ | refine zd rfl ?_ ?_ <;> intro hc | refine zj rfl ?_ ?_ <;> intro hc)
      all_goals try (exfalso; omega)
      all_goals exact zp (zo rfl rfl rfl) (zc ⟨rfl, trivial⟩)
    | false =>
      have e : Rs.take ⟨s, false⟩ n = (s.extract 0 n.toNat, ⟨s.extract n.toNat s.size, false⟩) := by
        unfold Rs.take; rw [if_neg (by simp only [Bool.false_eq_true, false_or]; exact hb)]
      rw [e]
      refine wI Tryz.func240 ?_
      repeat' (first | refine wC ?_ | refine wK ?_ | ((with_reducible refine vB ?_); first | refine yx rfl rfl rfl ⟨_, rfl⟩ rfl rfl rfl ?_ ?_ ?_ ?_ | refine yx rfl rfl ⟨_, rfl⟩ rfl rfl rfl rfl ?_ ?_ ?_ ?_) | refine zd rfl ?_ ?_ <;> intro hc | refine zj rfl ?_ ?_ <;> intro hc)
      all_goals try (exfalso; omega)
      all_goals try omega
      exact zp (zo rfl rfl rfl) (zc ⟨rfl, trivial⟩)
theorem zby (r : Rs) (n : Int) : (r.take n).2.s.size ≤ r.s.size ∧ (r.take n).1.size ≤ r.s.size := by
  unfold Rs.take
  split
  · exact ⟨Nat.le_refl _, Nat.zero_le _⟩
  · simp only [ByteArray.size_extract]; omega
theorem ziD {r : Rs} {n : Int} (h : (r.take n).1 ≠ eS) : ((r.take n).1.size : Int) = n := by
  unfold Rs.take at h ⊢
  split at h
  · exact absurd rfl h
  · rename_i hn
    rw [if_neg hn]
    simp only [not_or, Bool.not_eq_true, Int.not_lt] at hn
    simp only [ByteArray.size_extract]; omega
set_option maxHeartbeats 2000000 in
theorem vG (ty : TypeId) (r : Rs) (hs : r.s.size ≤ 1000000000) : Spec Tryz.prog 243 [.ref (.par 0) 0 0 0] [(.par 0, r.row ty)] (.t (.int .u8 r.byte.1)) [(.par 0, r.byte.2.row ty)] := by
  have hT := wH ty r 1 hs
  have h1 := ziD (r := r) (n := 1)
  unfold Rs.byte
  generalize r.take 1 = p at hT h1 ⊢
  obtain ⟨a, q⟩ := p
  simp only at hT h1 ⊢
  obtain ⟨qs, qb⟩ := q
  obtain ⟨s, bad⟩ := r
  unfold Rs.row at hT ⊢
  simp only at hT hs ⊢
  refine wI Tryz.func243 ?_
  repeat' (first | refine wC ?_ | refine wK ?_ | ((with_reducible refine zy ?_); refine zf rfl rfl rfl rfl rfl rfl ?_ ?_ ?_) | ((with_reducible refine ze ?_); refine wN (.t (.str a)) [] hT ?_) | refine zS rfl ?_ ?_ <;> intro hc)
  · exact zp (zo rfl rfl (congrArg (T.int .u8) (by rw [if_pos (show a = eS from hc)]))) (zc ⟨rfl, trivial⟩)
  · omega
  · have := h1 (show a ≠ eS from hc); omega
  · exact zp (zo rfl rfl (congrArg (T.int .u8) (by rw [if_neg (show ¬ a = eS from hc)]))) (zc ⟨rfl, trivial⟩)
set_option maxHeartbeats 2000000 in
theorem zb3 (ty : TypeId) (r : Rs) (n : Int) (h0 : 0 ≤ n) (h1 : n < 18446744073709551616) (hs : r.s.size ≤ 1000000000) : Spec Tryz.prog 241 [.ref (.par 0) 0 0 0, .t (.int .u64 n)] [(.par 0, r.row ty)] (.t (.int .i64 (r.fits n).1)) [(.par 0, (r.fits n).2.row ty)] := by
  obtain ⟨s, bad⟩ := r
  unfold Rs.fits Rs.row
  simp only at hs ⊢
  have hw : IntKind.u64.wrap (s.size : Int) = s.size := ye (by omega) (by omega)
  by_cases hc0 : (s.size : Int) < n
  · rw [if_pos hc0]
    refine wI Tryz.func241 ?_
    repeat' (first | refine wC ?_ | refine wK ?_ | refine zd rfl ?_ ?_ <;> intro hc)
    all_goals try (exfalso; omega)
    exact zp (zo rfl rfl rfl) (zc ⟨rfl, trivial⟩)
  · rw [if_neg hc0]
    refine wI Tryz.func241 ?_
    repeat' (first | refine wC ?_ | refine wK ?_ | refine zd rfl ?_ ?_ <;> intro hc)
    all_goals try (exfalso; omega)
    exact zp (zo rfl rfl (congrArg (T.int .i64) (zr (by omega) (by omega)))) (zc ⟨rfl, trivial⟩)
theorem zmR {v b : Int} (h0 : 0 ≤ v) (h1 : v < 18446744073709551616) (hb0 : 0 ≤ b) (hb : b < 256) : IntKind.u64.wrap ((BitVec.ofInt IntKind.u64.bits (IntKind.u64.wrap (v * 2 ^ min (Int.toNat 8) IntKind.u64.bits)) ||| BitVec.ofInt IntKind.u64.bits (IntKind.u64.wrap b)).toNat : Int) = v * 256 % 18446744073709551616 + b := by
  have e8 : min (Int.toNat 8) IntKind.u64.bits = 8 := by decide
  rw [e8, ye (n := b) hb0 (by omega)]
  obtain ⟨x, hx⟩ : ∃ x : Nat, x = (v % 72057594037927936).toNat := ⟨_, rfl⟩
  obtain ⟨c, hc⟩ : ∃ c : Nat, c = b.toNat := ⟨_, rfl⟩
  have e1 : IntKind.u64.wrap (v * 2 ^ 8) = ((x * 256 : Nat) : Int) := by
    simp only [IntKind.wrap, IntKind.bits, IntKind.signed, Bool.false_and, Bool.false_eq_true, if_false]
    omega
  rw [e1, show b = (c : Int) by omega]
  have e2 : (BitVec.ofInt IntKind.u64.bits ((x * 256 : Nat) : Int) ||| BitVec.ofInt IntKind.u64.bits (c : Int)).toNat = x * 256 + c := by
    rw [BitVec.toNat_or, BitVec.ofInt_natCast, BitVec.ofInt_natCast, BitVec.toNat_ofNat, BitVec.toNat_ofNat]
    have : IntKind.u64.bits = 64 := rfl
    rw [this, Nat.mod_eq_of_lt (by omega), Nat.mod_eq_of_lt (by omega)]
    have := Nat.shiftLeft_add_eq_or_of_lt (i := 8) (b := c) (by omega) x
    rw [Nat.shiftLeft_eq] at this
    rw [← this]
  rw [e2, ye (by omega) (by omega)]
  omega
set_option maxHeartbeats 4000000 in
theorem zb2 (ty : TypeId) (r : Rs) (k : Int) (hk : k ≤ 8) (hs : r.s.size ≤ 1000000000) : Spec Tryz.prog 281 [.ref (.par 0) 0 0 0, .t (.int .i64 k)] [(.par 0, r.row ty)] (.t (.int .u64 (r.uint k).1)) [(.par 0, (r.uint k).2.row ty)] := by
  have hT := wH ty r k hs
  have hz := (zby r k).2
  unfold Rs.uint
  generalize r.take k = p at hT hz ⊢
  obtain ⟨a, q⟩ := p
  simp only at hT hz ⊢
  obtain ⟨qs, qb⟩ := q
  obtain ⟨s, bad⟩ := r
  unfold Rs.row at hT ⊢
  simp only at hT hs hz ⊢
  refine wI Tryz.func281 ?_
  repeat' (first | refine wC ?_ | refine wK ?_ | ((with_reducible refine yJ ?_); refine zc0 rfl rfl rfl rfl rfl rfl ?_ ?_) | ((with_reducible refine ze ?_); refine wN (.t (.str a)) [] hT ?_) | fail)
  · omega
  refine zl (zB (id := .loc 11) rfl rfl rfl) ?_
  refine zl (za [5, 11, 12, 13] [.par 0] rfl rfl) ?_
  have ela : a.data.toList.length = a.size := ya a
  unfold yW
  generalize a.data.toList = L at ela ⊢
  refine zz (fun p env st => ∃ (j : Nat) (v : Int), j ≤ L.length ∧ p = L.length - j ∧ v = (L.take j).foldl xe 0 ∧ 0 ≤ v ∧ v < 18446744073709551616 ∧
      env = EnvL.get [(5, .t (.int .u64 v)), (11, .t (.sl 1 (L.map u8T))), (12, .t (.int .i64 L.length)), (13, .t (.int .i64 (j : Int)))] ∧ st = StO.get [(.par 0, some (.var ty [.t (.str qs), .t (.bool qb)]))])
    ?_ (n := L.length) ⟨0, 0, by omega, rfl, rfl, by omega, by omega, rfl, rfl⟩
  rintro p env st ⟨j, v, hj, rfl, hv, h0, h1, rfl, rfl⟩
  by_cases hlt : j < L.length
  · repeat' (first | refine wC ?_ | refine wK ?_ | fail)
    refine zd rfl (fun hc => ?_) (fun hc => absurd (by omega) hc)
    repeat' (first | refine wC ?_ | refine wK ?_ | ((with_reducible refine zA ?_); refine zq rfl rfl rfl rfl rfl rfl ?_ ?_ ?_))
    all_goals try omega
    have hb := (L.getD (j : Int).toNat default).toNat_lt
    have hst : v * 256 % 18446744073709551616 + ((L.getD (j : Int).toNat default).toNat : Int) = (L.take (j + 1)).foldl xe 0 := by
      rw [List.take_add_one, List.getElem?_eq_getElem hlt, Option.toList_some, List.foldl_append, ← hv]
      have hg : L.getD (j : Int).toNat default = L[j] := by simp [List.getD_eq_getElem?_getD, hlt]
      rw [hg]; rfl
    rw [zmR h0 h1 (b := ((L.getD (j : Int).toNat default).toNat : Int)) (by omega) (by omega)]
    refine zI (n' := L.length - (j + 1)) (by omega) (za [5, 11, 12, 13] [.par 0] rfl rfl) ⟨j + 1, v * 256 % 18446744073709551616 + ((L.getD (j : Int).toNat default).toNat : Int), by omega, rfl, hst, by omega, by omega, ?_, rfl⟩
    rw [zr (by omega) (by omega)]; rfl
  · repeat' (first | refine wC ?_ | refine wK ?_ | fail)
    refine zd rfl (fun hc => absurd hc (by omega)) (fun hc => ?_)
    repeat' (first | refine wC ?_ | refine wK ?_ | fail)
    rw [List.take_of_length_le (by omega)] at hv
    exact zp (zo rfl rfl (congrArg (T.int .u64) hv)) (zc ⟨rfl, trivial⟩)
theorem k6 {b : Int} (h0 : 0 ≤ b) (h1 : b < 256) : IntKind.i64.wrap (b / 2 ^ min (Int.toNat 5) IntKind.u8.bits) = b / 32 := by
  rw [show min (Int.toNat 5) IntKind.u8.bits = 5 by decide, zr (by omega) (by omega)]; omega
theorem zod : ∀ b : Fin 256, IntKind.u64.wrap (IntKind.u8.wrap ((BitVec.ofInt IntKind.u8.bits (b.val : Int) &&& BitVec.ofInt IntKind.u8.bits 31).toNat : Int)) = ((b.val % 32 : Nat) : Int) := by decide +kernel
theorem zmA {b : Int} (h0 : 0 ≤ b) (h1 : b < 256) : IntKind.u64.wrap (IntKind.u8.wrap ((BitVec.ofInt IntKind.u8.bits b &&& BitVec.ofInt IntKind.u8.bits 31).toNat : Int)) = b % 32 := by
  have := zod ⟨b.toNat, by omega⟩
  simp only at this
  rw [show ((b.toNat : Nat) : Int) = b by omega] at this
  rw [this]; omega
theorem zmJ {l : Int} (h0 : 24 ≤ l) (h1 : l ≤ 27) : IntKind.i64.wrap (1 * 2 ^ min (IntKind.u64.wrap (l - 24)).toNat IntKind.i64.bits) = 2 ^ (l - 24).toNat := by
  have : l = 24 ∨ l = 25 ∨ l = 26 ∨ l = 27 := by omega
  rcases this with rfl | rfl | rfl | rfl <;> decide
set_option maxHeartbeats 4000000 in
theorem zay (r : Rs) (hs : r.s.size ≤ 1000000) : Spec Tryz.prog 239 [.ref (.par 0) 0 0 0] [(.par 0, r.row 195)] (.tup [.t (.int .i64 (yE r).1.1), .t (.int .u64 (yE r).1.2)]) [(.par 0, (yE r).2.row 195)] := by
  have hB := vG 195 r (by omega)
  have hr := xK r
  have hle := wW r
  have hU : ∀ k : Int, k = 2 ^ (r.byte.1 % 32 - 24).toNat → 24 ≤ r.byte.1 % 32 → r.byte.1 % 32 ≤ 27 → Spec Tryz.prog 281 [.ref (.par 0) 0 0 0, .t (.int .i64 k)] [(.par 0, r.byte.2.row 195)] (.t (.int .u64 (r.byte.2.uint (2 ^ (r.byte.1 % 32 - 24).toNat)).1)) [(.par 0, (r.byte.2.uint (2 ^ (r.byte.1 % 32 - 24).toNat)).2.row 195)] := fun k hk h1 h2 => by
    subst hk
    refine zb2 195 r.byte.2 _ ?_ (by omega)
    have : r.byte.1 % 32 = 24 ∨ r.byte.1 % 32 = 25 ∨ r.byte.1 % 32 = 26 ∨ r.byte.1 % 32 = 27 := by omega
    rcases this with h | h | h | h <;> rw [h] <;> decide
  unfold yE
  generalize r.byte.2.uint (2 ^ (r.byte.1 % 32 - 24).toNat) = u at hU ⊢
  generalize r.byte = p at hB hr hU hle ⊢
  obtain ⟨b, q⟩ := p
  obtain ⟨n, u⟩ := u
  simp only at hB hr hU hle ⊢
  obtain ⟨us, ub⟩ := u
  obtain ⟨qs, qb⟩ := q
  obtain ⟨s, bad⟩ := r
  unfold Rs.row at hB hU ⊢
  simp only at hs hB hU ⊢
  by_cases h24 : b % 32 < 24
  · rw [if_pos h24]
    refine wI Tryz.func239 ?_
    repeat' (first | refine wC ?_ | refine wK ?_ | ((with_reducible refine zM ?_); refine xi rfl rfl rfl rfl rfl rfl ?_ ?_) | ((with_reducible refine ze ?_); refine wN (.t (.int .u8 b)) [] hB ?_) | refine zd rfl ?_ ?_ <;> intro hc)
    all_goals simp only [zmA hr.1 hr.2, k6 hr.1 hr.2] at *
    all_goals try (exfalso; omega)
    exact zp (zbB rfl rfl rfl wT wT) (zc ⟨rfl, trivial⟩)
  · rw [if_neg h24]
    by_cases h27 : 27 < b % 32
    · rw [if_pos h27]
      refine wI Tryz.func239 ?_
      repeat' (first | refine wC ?_ | refine wK ?_ | ((with_reducible refine zM ?_); refine xi rfl rfl rfl rfl rfl rfl ?_ ?_) | ((with_reducible refine ze ?_); refine wN (.t (.int .u8 b)) [] hB ?_) | refine zd rfl ?_ ?_ <;> intro hc)
      all_goals simp only [zmA hr.1 hr.2, k6 hr.1 hr.2] at *
      all_goals try (exfalso; omega)
      exact zp (zbB rfl rfl rfl wT wT) (zc ⟨rfl, trivial⟩)
    · rw [if_neg h27]
      refine wI Tryz.func239 ?_
      repeat' (first | refine wC ?_ | refine wK ?_ | ((with_reducible refine zM ?_); refine xi rfl rfl rfl rfl rfl rfl ?_ ?_) | ((with_reducible refine ze ?_); first | refine wN (.t (.int .u8 b)) [] hB ?_ | refine ja (r' := .t (.int .u64 n)) [] rfl rfl (hU _ ?_ (by omega) (by omega)) (ArgsLE.refl _) rfl ⟨rfl, trivial⟩ rfl rfl rfl rfl rfl rfl rfl rfl rfl rfl ?_) | refine zd rfl ?_ ?_ <;> intro hc)
      all_goals simp only [zmA hr.1 hr.2, k6 hr.1 hr.2] at *
      all_goals try (exfalso; omega)
      all_goals try (exact zp (zbB rfl rfl rfl wT wT) (zc ⟨rfl, trivial⟩))
      · rw [ye (by omega) (by omega)]; omega
      · exact zmJ (by omega) (by omega)
set_option maxHeartbeats 4000000 in
theorem ziR (r : Rs) (hs : r.s.size ≤ 1000000) : Spec Tryz.prog 282 [.ref (.par 0) 0 0 0] [(.par 0, r.row 195)] (.t (.str (vh r).1)) [(.par 0, (vh r).2.row 195)] := by
  have hH := zay r hs
  have hr := zb4 r
  have hle := jU r
  have hF : ∀ q : Rs, q.s.size ≤ r.s.size → Spec Tryz.prog 241 [.ref (.par 0) 0 0 0, .t (.int .u64 (yE r).1.2)] [(.par 0, q.row 195)] (.t (.int .i64 (q.fits (yE r).1.2).1)) [(.par 0, (q.fits (yE r).1.2).2.row 195)] := fun q hq => zb3 195 q _ hr.2.2.1 hr.2.2.2 (by omega)
  have hT : ∀ q : Rs, q.s.size ≤ r.s.size → Spec Tryz.prog 240 [.ref (.par 0) 0 0 0, .t (.int .i64 (q.fits (yE r).1.2).1)] [(.par 0, (q.fits (yE r).1.2).2.row 195)] (.t (.str (xQ q (yE r).1.2).1)) [(.par 0, (xQ q (yE r).1.2).2.row 195)] := fun q hq => wH 195 (q.fits (yE r).1.2).2 _ (by have := (zau q (yE r).1.2).1; omega)
  unfold vh
  generalize hh : yE r = h at hH hr hle hF hT ⊢
  obtain ⟨⟨m, n⟩, q⟩ := h
  simp only at hH hr hle hF hT ⊢
  by_cases h3 : m = 3
  · rw [if_pos h3]
    replace hF := hF q hle
    replace hT := hT q hle
    generalize xQ q n = t at hT ⊢
    generalize q.fits n = u at hF hT ⊢
    obtain ⟨t, ts, tb⟩ := t
    obtain ⟨u, us, ub⟩ := u
    obtain ⟨qs, qb⟩ := q
    obtain ⟨s, bad⟩ := r
    unfold Rs.row at hH hF hT ⊢
    simp only at hH hF hT ⊢
    refine wI Tryz.func282 ?_
    repeat' (first | refine wC ?_ | refine wK ?_ | ((with_reducible refine ze ?_); first | refine wN (.tup [.t (.int .i64 m), .t (.int .u64 n)]) [] hH ?_ | exact absurd h3 ‹_› | refine wN (.t (.int .i64 u)) [] hF ?_ | refine wN (.t (.str t)) [] hT ?_) | refine zS rfl ?_ ?_ <;> intro hc)
    exact zp (zo rfl rfl rfl) (zc ⟨rfl, trivial⟩)
  · rw [if_neg h3]
    replace hF := hF ⟨q.s, true⟩ hle
    replace hT := hT ⟨q.s, true⟩ hle
    generalize xQ ⟨q.s, true⟩ n = t at hT ⊢
    generalize Rs.fits ⟨q.s, true⟩ n = u at hF hT ⊢
    obtain ⟨t, ts, tb⟩ := t
    obtain ⟨u, us, ub⟩ := u
    obtain ⟨qs, qb⟩ := q
    obtain ⟨s, bad⟩ := r
    unfold Rs.row at hH hF hT ⊢
    simp only at hH hF hT ⊢
    refine wI Tryz.func282 ?_
    repeat' (first | refine wC ?_ | refine wK ?_ | ((with_reducible refine ze ?_); first | refine wN (.tup [.t (.int .i64 m), .t (.int .u64 n)]) [] hH ?_ | exact absurd ‹_› h3 | refine wN (.t (.int .i64 u)) [] hF ?_ | refine wN (.t (.str t)) [] hT ?_) | refine zS rfl ?_ ?_ <;> intro hc)
    exact zp (zo rfl rfl rfl) (zc ⟨rfl, trivial⟩)
set_option maxHeartbeats 8000000 in
theorem zgJ (d : Nat) (hd : d ≤ 1000) (B : Nat) (hB : B ≤ 1000000)
    (IH : ∀ q : Rs, q.s.size ≤ B → Spec Tryz.prog 168 [.ref (.par 0) 0 0 0, .t (.int .i64 (d : Int))] [(.par 0, q.row 195)] (.t (xu d q).1.toT) [(.par 0, (xu d q).2.row 195)])
    (k : Int) (hk : k = 4 ∨ k = 5) (c : Nat) (hc : c ≤ 1000000) (r : Rs) (hr : r.s.size ≤ B) :
    Spec Tryz.prog 242 [.ref (.par 0) 0 0 0, .t (.agg [.int .i64 k, .bool false, .int .i64 0, .str ⟨#[]⟩, .nilsl, .nilsl]), .t (.int .i64 (c : Int)), .t (.int .i64 ((d + 1 : Nat) : Int))] [(.par 0, r.row 195)] (.t (yA (xu d) k c [] [] r).1.toT) [(.par 0, (yA (xu d) k c [] [] r).2.row 195)] := by
  generalize hres : yA (xu d) k c [] [] r = res
  have hNB := zbh B (by omega) d
  generalize xu d = f at *
  unfold Rs.row
  refine wIG Tryz.func242 ?_
  repeat' (first | refine wC ?_ | refine wK ?_ | fail)
  refine zl (zH (r := .loc 5) 5 (.loc 900) 30 6 rfl rfl rfl rfl rfl) ?_
  refine zl (zH (r := .loc 5) 4 (.loc 901) 9 1 rfl rfl rfl rfl rfl) ?_
  refine zl (za [0, 2, 3, 5, 8] [.par 0, .loc 5, .loc 8, .loc 900, .loc 901] rfl rfl) ?_
  refine zz (fun m env st => ∃ (j : Nat) (ns : List ByteArray) (is : List Nd) (q : Rs), m = j ∧ j ≤ 1000000 ∧ ns.length + j ≤ 1000000 ∧ is.length + j ≤ 1000000 ∧ q.s.size ≤ B ∧ yA f k j ns is q = res ∧
      env = EnvL.get [(0, .ref (.par 0) 0 0 0), (2, .t (.int .i64 (j : Int))), (3, .t (.int .i64 ((d + 1 : Nat) : Int))), (5, .ref (.loc 5) 0 0 0), (8, .ref (.loc 8) 0 0 0)] ∧
      st = StO.get [(.par 0, some (.var 195 [.t (.str q.s), .t (.bool q.bad)])), (.loc 5, some (.var 30 [.t (.int .i64 k), .t (.bool false), .t (.int .i64 0), .t (.str ⟨#[]⟩), .row (.loc 901), .row (.loc 900)])), (.loc 8, some (.var 30 [.t (.int .i64 0), .t (.bool false), .t (.int .i64 0), .t (.str ⟨#[]⟩), .t .nilsl, .t .nilsl])), (.loc 900, some (.slt 30 6 (is.map Nd.toT))), (.loc 901, some (.slt 9 1 (ns.map .str)))])
    ?_ (n := c) ⟨c, [], [], r, rfl, by omega, by simp; omega, by simp; omega, hr, hres, rfl, rfl⟩
  rintro m env st ⟨j, ns, is, q, rfl, hj, hns, his, hq, hi, rfl, rfl⟩
  have hN : ∀ (v : Int) (q : Rs), v = (d : Int) → q.s.size ≤ B → Spec Tryz.prog 168 [.ref (.par 0) 0 0 0, .t (.int .i64 v)] [(.par 0, .var 195 [.t (.str q.s), .t (.bool q.bad)])] (.t (f q).1.toT) [(.par 0, .var 195 [.t (.str (f q).2.s), .t (.bool (f q).2.bad)])] := fun v q hv hq => by subst hv; exact IH q hq
  cases m with
  | zero =>
    rw [yA] at hi
    repeat' (first | refine wC ?_ | refine wK ?_ | fail)
    rw [← hi]
    simp only
    rw [Nd.toT_eq]
    refine zv (za [8] [.par 0, .loc 8, .loc 900, .loc 901] rfl rfl) ?_
    refine zv (zB (id := .loc 900) rfl rfl rfl) ?_; refine zv (zB (id := .loc 901) rfl rfl rfl) ?_
    exact wB
  | succ j =>
    rw [yA] at hi
    obtain ⟨qs, qb⟩ := q
    cases qb with
    | true =>
      rw [if_pos rfl] at hi
      repeat' (first | refine wC ?_ | refine wK ?_ | refine zj rfl ?_ ?_ <;> intro hc)
      all_goals try (exfalso; omega)
      rw [← hi]
      simp only
      rw [Nd.toT_eq]
      refine zv (za [8] [.par 0, .loc 8, .loc 900, .loc 901] rfl rfl) ?_
      refine zv (zB (id := .loc 900) rfl rfl rfl) ?_; refine zv (zB (id := .loc 901) rfl rfl rfl) ?_
      exact wB
    | false =>
      rw [if_neg (by simp)] at hi
      rcases hk with rfl | rfl
      · rw [if_neg (by decide)] at hi
        replace hN := hN (IntKind.i64.wrap (((d + 1 : Nat) : Int) - 1)) ⟨qs, false⟩ (by rw [zr (by omega) (by omega)]; omega) hq
        have hb := hNB ⟨qs, false⟩ hq
        generalize f ⟨qs, false⟩ = y at hi hN hb
        obtain ⟨x, us, ub⟩ := y
        have hT := x.toT_full
        simp only at hN hi hb
        rw [hT] at hN
        repeat' (first | refine wC ?_ | refine wK ?_ | ((with_reducible refine zw ?_); refine zh rfl rfl rfl rfl rfl rfl rfl rfl rfl rfl ?_ ?_ ?_) | ((with_reducible refine ze ?_); refine wN (.t (.agg [.int .i64 x.kind, .bool x.bool, .int .i64 x.num, .str x.text, .sl 1 (x.names.map .str), .sl 6 (x.items.map Nd.toT)])) [] hN ?_) | refine zj rfl ?_ ?_ <;> intro hc)
        all_goals try (exfalso; omega)
        all_goals try (simp only [List.length_map, List.length_cons, List.length_nil]; omega)
        refine zI (n' := j) (by omega) ((za [0, 2, 3, 5, 8] [.par 0, .loc 5, .loc 8, .loc 38, .loc 901] rfl rfl).trans (zg (.loc 38) (.loc 900) rfl rfl rfl rfl)) ⟨j, ns, is ++ [x], ⟨us, ub⟩, rfl, by omega, by omega, by simp only [List.length_append, List.length_cons, List.length_nil]; omega, hb.1, hi, ?_, ?_⟩
        · rw [zr (by omega) (by omega), show ((j + 1 : Nat) : Int) - 1 = j by omega]; rfl
        · rw [List.map_append, List.map_singleton, hT]; rfl
      · rw [if_pos rfl] at hi
        have hM := ziR ⟨qs, false⟩ (Nat.le_trans hq hB)
        have hM2 := zhn ⟨qs, false⟩
        generalize vh ⟨qs, false⟩ = z at hi hM hM2
        obtain ⟨nm, ps, pb⟩ := z
        simp only at hi hM hM2
        replace hN := hN (IntKind.i64.wrap (((d + 1 : Nat) : Int) - 1)) ⟨ps, pb⟩ (by rw [zr (by omega) (by omega)]; omega) (Nat.le_trans hM2.1 hq)
        have hb := hNB ⟨ps, pb⟩ (Nat.le_trans hM2.1 hq)
        generalize f ⟨ps, pb⟩ = y at hi hN hb
        obtain ⟨x, us, ub⟩ := y
        have hT := x.toT_full
        unfold Rs.row at hM
        simp only at hN hi hb hM
        rw [hT] at hN
        repeat' (first | refine wC ?_ | refine wK ?_ | ((with_reducible refine zw ?_); refine zh rfl rfl rfl rfl rfl rfl rfl rfl rfl rfl ?_ ?_ ?_) | ((with_reducible refine ze ?_); first | refine wN (.t (.str nm)) [] hM ?_ | refine wN (.t (.agg [.int .i64 x.kind, .bool x.bool, .int .i64 x.num, .str x.text, .sl 1 (x.names.map .str), .sl 6 (x.items.map Nd.toT)])) [] hN ?_) | refine zj rfl ?_ ?_ <;> intro hc)
        all_goals try (exfalso; omega)
        all_goals try (simp only [List.length_map, List.length_cons, List.length_nil]; omega)
        refine zI (n' := j) (by omega) ((za [0, 2, 3, 5, 8] [.par 0, .loc 5, .loc 8, .loc 38, .loc 29] rfl rfl).trans ((zg (.loc 38) (.loc 900) rfl rfl rfl rfl).trans (zg (.loc 29) (.loc 901) rfl rfl rfl rfl))) ⟨j, ns ++ [nm], is ++ [x], ⟨us, ub⟩, rfl, by omega, by simp only [List.length_append, List.length_cons, List.length_nil]; omega, by simp only [List.length_append, List.length_cons, List.length_nil]; omega, hb.1, hi, ?_, ?_⟩
        · rw [zr (by omega) (by omega), show ((j + 1 : Nat) : Int) - 1 = j by omega]; rfl
        · rw [List.map_append, List.map_append, List.map_singleton, List.map_singleton, hT]; rfl
theorem zjx {r : Rs} {n : Int} (h : 0 ≤ n) : 0 ≤ (r.fits n).1 := by
  unfold Rs.fits; split
  · simp
  · exact h
set_option maxHeartbeats 8000000 in
theorem zdB : ∀ (d : Nat), d ≤ 1000 → ∀ r : Rs, r.s.size ≤ 1000000 → Spec Tryz.prog 168 [.ref (.par 0) 0 0 0, .t (.int .i64 (d : Int))] [(.par 0, r.row 195)] (.t (xu d r).1.toT) [(.par 0, (xu d r).2.row 195)]
  | 0, hd, r, hr => by
    have hH := zay r hr
    rw [xu]
    generalize yE r = h at hH ⊢
    obtain ⟨⟨m, n⟩, qs, qb⟩ := h
    obtain ⟨s, bad⟩ := r
    unfold Rs.row at hH ⊢
    simp only at hH ⊢
    rw [zJ]
    refine wI Tryz.func168 ?_
    repeat' (first | refine wC ?_ | refine wK ?_ | ((with_reducible refine ze ?_); refine wN (.tup [.t (.int .i64 m), .t (.int .u64 n)]) [] hH ?_) | fail)
    exact wD
  | d + 1, hd, r, hr => by
    have hH := zay r hr
    have hhr := zb4 r
    have hhl := jU r
    have IH := zdB d (by omega)
    obtain ⟨m, n, q, hh⟩ : ∃ m n q, yE r = ((m, n), q) := ⟨_, _, _, rfl⟩
    rw [x6 hh]
    rw [hh] at hH hhr hhl
    simp only at hH hhr hhl
    have hF := zb3 195 q n hhr.2.2.1 hhr.2.2.2 (by omega)
    have hfl := zau q n
    have hfg := zjx (r := q) hhr.2.2.1
    have hT := wH 195 (q.fits n).2 (q.fits n).1 (by omega)
    replace hT : Spec Tryz.prog 240 [.ref (.par 0) 0 0 0, .t (.int .i64 (q.fits n).1)] [(.par 0, (q.fits n).2.row 195)] (.t (.str (xQ q n).1)) [(.par 0, (xQ q n).2.row 195)] := hT
    have hI : ∀ k : Int, k = 4 ∨ k = 5 → Spec Tryz.prog 242 [.ref (.par 0) 0 0 0, .t (.agg [.int .i64 k, .bool false, .int .i64 0, .str ⟨#[]⟩, .nilsl, .nilsl]), .t (.int .i64 (q.fits n).1), .t (.int .i64 ((d + 1 : Nat) : Int))] [(.par 0, (q.fits n).2.row 195)] (.t (yA (xu d) k (q.fits n).1.toNat [] [] (q.fits n).2).1.toT) [(.par 0, (yA (xu d) k (q.fits n).1.toNat [] [] (q.fits n).2).2.row 195)] := fun k hk => by
      have := zgJ d (by omega) 1000000 (by omega) (fun q hq => IH q hq) k hk (q.fits n).1.toNat (by omega) (q.fits n).2 (by omega)
      rw [show (((q.fits n).1.toNat : Nat) : Int) = (q.fits n).1 by omega] at this
      exact this
    have hI4 := hI 4 (.inl rfl)
    have hI5 := hI 5 (.inr rfl)
    clear hI IH
    generalize yA (xu d) 4 (q.fits n).1.toNat [] [] (q.fits n).2 = i4 at hI4 ⊢
    generalize yA (xu d) 5 (q.fits n).1.toNat [] [] (q.fits n).2 = i5 at hI5 ⊢
    generalize xQ q n = t at hT ⊢
    generalize q.fits n = u at hF hT hI4 hI5 hfl hfg
    obtain ⟨u, us, ub⟩ := u
    obtain ⟨t, ts, tb⟩ := t
    obtain ⟨i4, i4s, i4b⟩ := i4
    obtain ⟨i5, i5s, i5b⟩ := i5
    obtain ⟨qs, qb⟩ := q
    obtain ⟨s, bad⟩ := r
    have e4 := i4.toT_full
    have e5 := i5.toT_full
    unfold Rs.row at *
    simp only at *
    rw [e4] at hI4
    rw [e5] at hI5
    have hm : m = 0 ∨ m = 1 ∨ m = 2 ∨ m = 3 ∨ m = 4 ∨ m = 5 ∨ m = 6 ∨ m = 7 := by omega
    clear hh hhl hfl hfg
    rcases hm with rfl | rfl | rfl | rfl | rfl | rfl | rfl | rfl
    · rw [if_pos rfl]
      simp only
      rw [Nd.toT_eq]
      refine wI Tryz.func168 ?_
      repeat' (first | refine wC ?_ | refine wK ?_ | ((with_reducible refine ze ?_); refine wN (.tup [.t (.int .i64 0), .t (.int .u64 n)]) [] hH ?_) | fail)
      all_goals try (exfalso; omega)
      exact wD
    · rw [if_neg (by decide), if_pos rfl]
      simp only
      rw [Nd.toT_eq, ← zn3 (jc n).1 (jc n).2]
      refine wI Tryz.func168 ?_
      repeat' (first | refine wC ?_ | refine wK ?_ | ((with_reducible refine ze ?_); refine wN (.tup [.t (.int .i64 1), .t (.int .u64 n)]) [] hH ?_) | fail)
      all_goals try (exfalso; omega)
      exact wD
    · rw [if_neg (by decide), if_neg (by decide), if_neg (by decide), if_neg (by decide), if_neg (by decide), if_neg (fun h => absurd h.1 (by decide))]
      simp only
      rw [zJ]
      refine wI Tryz.func168 ?_
      repeat' (first | refine wC ?_ | refine wK ?_ | ((with_reducible refine ze ?_); refine wN (.tup [.t (.int .i64 2), .t (.int .u64 n)]) [] hH ?_) | fail)
      all_goals try (exfalso; omega)
      exact wD
    · rw [if_neg (by decide), if_neg (by decide), if_pos rfl]
      simp only
      rw [Nd.toT_eq]
      refine wI Tryz.func168 ?_
      repeat' (first | refine wC ?_ | refine wK ?_ | ((with_reducible refine ze ?_); first | refine wN (.tup [.t (.int .i64 3), .t (.int .u64 n)]) [] hH ?_ | refine wN (.t (.int .i64 u)) [] hF ?_ | refine wN (.t (.str t)) [] hT ?_) | fail)
      all_goals try (exfalso; omega)
      exact wD
    · rw [if_neg (by decide), if_neg (by decide), if_neg (by decide), if_pos rfl]
      simp only
      rw [e4]
      refine wI Tryz.func168 ?_
      repeat' (first | refine wC ?_ | refine wK ?_ | ((with_reducible refine ze ?_); first | refine wN (.tup [.t (.int .i64 4), .t (.int .u64 n)]) [] hH ?_ | refine wN (.t (.int .i64 u)) [] hF ?_ | refine wN (.t (.agg [.int .i64 i4.kind, .bool i4.bool, .int .i64 i4.num, .str i4.text, .sl 1 (i4.names.map .str), .sl 6 (i4.items.map Nd.toT)])) [] hI4 ?_) | fail)
      all_goals try (exfalso; omega)
      exact wD
    · rw [if_neg (by decide), if_neg (by decide), if_neg (by decide), if_neg (by decide), if_pos rfl]
      simp only
      rw [e5]
      refine wI Tryz.func168 ?_
      repeat' (first | refine wC ?_ | refine wK ?_ | ((with_reducible refine ze ?_); first | refine wN (.tup [.t (.int .i64 5), .t (.int .u64 n)]) [] hH ?_ | refine wN (.t (.int .i64 u)) [] hF ?_ | refine wN (.t (.agg [.int .i64 i5.kind, .bool i5.bool, .int .i64 i5.num, .str i5.text, .sl 1 (i5.names.map .str), .sl 6 (i5.items.map Nd.toT)])) [] hI5 ?_) | fail)
      all_goals try (exfalso; omega)
      exact wD
    · rw [if_neg (by decide), if_neg (by decide), if_neg (by decide), if_neg (by decide), if_neg (by decide), if_neg (fun h => absurd h.1 (by decide))]
      simp only
      rw [zJ]
      refine wI Tryz.func168 ?_
      repeat' (first | refine wC ?_ | refine wK ?_ | ((with_reducible refine ze ?_); refine wN (.tup [.t (.int .i64 6), .t (.int .u64 n)]) [] hH ?_) | fail)
      all_goals try (exfalso; omega)
      exact wD
    · rw [if_neg (by decide), if_neg (by decide), if_neg (by decide), if_neg (by decide), if_neg (by decide)]
      by_cases h21 : n = 21
      · subst h21
        rw [if_pos ⟨rfl, .inl rfl⟩]
        simp only
        rw [Nd.toT_eq]
        refine wI Tryz.func168 ?_
        repeat' (first | refine wC ?_ | refine wK ?_ | ((with_reducible refine ze ?_); refine wN (.tup [.t (.int .i64 7), .t (.int .u64 21)]) [] hH ?_) | fail)
        all_goals try (exfalso; omega)
        exact wD
      by_cases h20 : n = 20
      · subst h20
        rw [if_pos ⟨rfl, .inr rfl⟩]
        simp only
        rw [Nd.toT_eq]
        refine wI Tryz.func168 ?_
        repeat' (first | refine wC ?_ | refine wK ?_ | ((with_reducible refine ze ?_); refine wN (.tup [.t (.int .i64 7), .t (.int .u64 20)]) [] hH ?_) | fail)
        all_goals try (exfalso; omega)
        exact wD
      · rw [if_neg (fun h => h.2.elim h21 h20)]
        simp only
        rw [zJ]
        refine wI Tryz.func168 ?_
        repeat' (first | refine wC ?_ | refine wK ?_ | ((with_reducible refine ze ?_); refine wN (.tup [.t (.int .i64 7), .t (.int .u64 n)]) [] hH ?_) | refine zd rfl ?_ ?_ <;> intro hc | refine zj rfl ?_ ?_ <;> intro hc)
        all_goals try (exfalso; omega)
        exact wD
set_option maxHeartbeats 8000000 in
theorem zbJ {oF oA : Obj} {V : ByteArray → Bool} (hS : xH oF oA V) (ty : TypeId) (ef : FuncId) [FnB Tryz.prog ef] (s : ByteArray) (x : Nd) (hx : x.Ok) (r : Rs) (E : ByteArray × Int)
    (hE : r.bad = false → r.s = eS → x.validB V 8 = true → Spec Tryz.prog ef [.t x.toT] [(.par 100, .dat (.fix 0 oF)), (.par 101, .dat (.fix 1 oA))] (.tup [.t (.str E.1), .t (.int .i64 E.2)]) [(.par 100, .dat (.fix 0 oF)), (.par 101, .dat (.fix 1 oA))])
    (res : Nd × Int) (hres : res = if r.bad = false ∧ r.s = eS ∧ x.validB V 8 = true ∧ E = (s, 0) then (x, 0) else (Nd.zero, 4)) :
    Spec Tryz.prog 166 [.t (.str s), .t x.toT, .ref (.par 0) 0 0 0, .t (.fn ef)] [(.par 0, r.row ty), (.par 100, .dat (.fix 0 oF)), (.par 101, .dat (.fix 1 oA))] (.tup [.t res.1.toT, .t (.int .i64 res.2)]) [(.par 0, r.row ty), (.par 100, .dat (.fix 0 oF)), (.par 101, .dat (.fix 1 oA))] := by
  have hV := v8 hS x hx
  have hT := x.toT_full
  obtain ⟨rs, bad⟩ := r
  obtain ⟨es, en⟩ := E
  unfold Rs.row
  simp only at hE hres ⊢
  have fail : res = (Nd.zero, 4) → res.1.toT = .agg [.int .i64 0, .bool false, .int .i64 0, .str ⟨#[]⟩, .sl 1 [], .sl 6 []] ∧ res.2 = 4 := fun h => by rw [h]; exact ⟨zJ, rfl⟩
  cases bad with
  | true =>
    rw [if_neg (by simp)] at hres
    obtain ⟨f1, f2⟩ := fail hres
    rw [f1, f2, hT]
    refine wI Tryz.func166 ?_
    repeat' (first | refine wC ?_ | refine wK ?_ | fail)
    exact wE
  | false =>
    by_cases hrs : rs = eS
    · subst hrs
      cases hv : x.validB V 8 with
      | false =>
        rw [hv] at hV hres
        rw [if_neg (by simp)] at hres
        obtain ⟨f1, f2⟩ := fail hres
        rw [hT] at hV
        rw [f1, f2, hT]
        refine wI Tryz.func166 ?_
        repeat' (first | refine wC ?_ | refine wK ?_ | ((with_reducible refine ze ?_); refine wN (.t (.bool false)) [] hV ?_) | fail)
        all_goals try (exact absurd rfl hc)
        exact wE
      | true =>
        rw [hv] at hV hres
        replace hE := hE rfl rfl hv
        rw [hT] at hV hE
        by_cases h0 : en = 0
        · subst h0
          by_cases hs : es = s
          · subst hs
            rw [if_pos ⟨rfl, rfl, rfl, rfl⟩] at hres
            rw [hres]
            simp only
            rw [hT]
            refine wI Tryz.func166 ?_
            repeat' (first | refine wC ?_ | refine wK ?_ | ((with_reducible refine ze ?_); first | refine wN (.t (.bool true)) [] hV ?_ | refine wN (.tup [.t (.str es), .t (.int .i64 0)]) [] hE ?_) | refine zS rfl ?_ ?_ <;> intro hc)
            · exact wE
            all_goals exact absurd rfl hc
          · rw [if_neg (fun h => hs (congrArg (·.1) h.2.2.2))] at hres
            obtain ⟨f1, f2⟩ := fail hres
            rw [f1, f2, hT]
            refine wI Tryz.func166 ?_
            repeat' (first | refine wC ?_ | refine wK ?_ | ((with_reducible refine ze ?_); first | refine wN (.t (.bool true)) [] hV ?_ | refine wN (.tup [.t (.str es), .t (.int .i64 0)]) [] hE ?_) | refine zS rfl ?_ ?_ <;> intro hc)
            · exact absurd hc hs
            exact wE
        · rw [if_neg (fun h => h0 (congrArg (·.2) h.2.2.2))] at hres
          obtain ⟨f1, f2⟩ := fail hres
          rw [f1, f2, hT]
          refine wI Tryz.func166 ?_
          repeat' (first | refine wC ?_ | refine wK ?_ | ((with_reducible refine ze ?_); first | refine wN (.t (.bool true)) [] hV ?_ | refine wN (.tup [.t (.str es), .t (.int .i64 en)]) [] hE ?_) | refine zS rfl ?_ ?_ <;> intro hc | refine zN rfl ?_ ?_ <;> intro hc)
          all_goals try (exact absurd ‹en = 0› h0)
          all_goals exact wE
    · rw [if_neg (fun h => hrs h.2.1)] at hres
      obtain ⟨f1, f2⟩ := fail hres
      rw [f1, f2, hT]
      refine wI Tryz.func166 ?_
      repeat' (first | refine wC ?_ | refine wK ?_ | ((with_reducible refine ze ?_); exact absurd ‹_› hrs) | refine zN rfl ?_ ?_ <;> intro hc)
      exact wE
theorem zjH {V : ByteArray → Bool} (s : ByteArray) : zeG V s = if (w9 s).2.bad = false ∧ (w9 s).2.s = eS ∧ (w9 s).1.validB V 8 = true ∧ zdn V (w9 s).1 = (s, 0) then ((w9 s).1, 0) else (Nd.zero, 4) := rfl
set_option maxHeartbeats 8000000 in
theorem zkz {oF oA : Obj} {V : ByteArray → Bool} (hS : xH oF oA V) (s : ByteArray) (hs : s.size ≤ 1000000) : Spec Tryz.prog 104 [.t (.str s)] [(.par 100, .dat (.fix 0 oF)), (.par 101, .dat (.fix 1 oA))] (.tup [.t (zeG V s).1.toT, .t (.int .i64 (zeG V s).2)]) [(.par 100, .dat (.fix 0 oF)), (.par 101, .dat (.fix 1 oA))] := by
  have hR : Spec Tryz.prog 168 [.ref (.par 0) 0 0 0, .t (.int .i64 8)] [(.par 0, Rs.row 195 ⟨s, false⟩)] (.t (w9 s).1.toT) [(.par 0, (w9 s).2.row 195)] := zdB 8 (by omega) ⟨s, false⟩ hs
  have hle := zbh 1000000 (by omega) 8 ⟨s, false⟩ hs
  have hg := zja (s := s)
  have hD := zjH (V := V) s
  have hF := zbJ hS 195 103 s (w9 s).1 hle.2 (w9 s).2 (zdn V (w9 s).1) (fun h1 h2 h3 => by
    have := hg h1
    exact zfE hS (w9 s).1 hle.2 this.2 (fun _ => by omega)) (zeG V s) hD
  clear hD hg hle
  generalize zeG V s = res at hF ⊢
  generalize w9 s = y at hR hF
  obtain ⟨x, rs, rb⟩ := y
  obtain ⟨z, e⟩ := res
  have hT := x.toT_full
  have hZ := z.toT_full
  unfold Rs.row at hR hF
  simp only at hR hF ⊢
  rw [hT] at hR hF
  rw [hZ] at hF ⊢
  refine wI Tryz.func104 ?_
  repeat' (first | refine wC ?_ | refine wK ?_ | ((with_reducible refine ze ?_); first | refine wN (.t (.agg [.int .i64 x.kind, .bool x.bool, .int .i64 x.num, .str x.text, .sl 1 (x.names.map .str), .sl 6 (x.items.map Nd.toT)])) [(.par 0, .loc 9)] hR ?_ | refine wN (.tup [.t (.agg [.int .i64 z.kind, .bool z.bool, .int .i64 z.num, .str z.text, .sl 1 (z.names.map .str), .sl 6 (z.items.map Nd.toT)]), .t (.int .i64 e)]) [(.par 0, .loc 9)] hF ?_) | fail)
  exact wE
theorem kc {α : Type} [Inhabited α] (l : List α) (j : Nat) (h : j < l.length) : l.drop j = l.getD j default :: l.drop (j + 1) := by
  rw [List.drop_eq_getElem_cons h]; simp [List.getD_eq_getElem?_getD, h]
set_option maxHeartbeats 8000000 in
theorem zix (x : Nd) (hx : x.Ok) : ∀ y : Nd, Spec Tryz.prog 22 [.t x.toT, .t y.toT] [] (.t (.bool (x.same y))) [] := by
  induction hx with
  | @mk k b n t ns is h1 h2 h3 ih =>
  intro y
  cases y with
  | mk k' b' n' t' ns' is' =>
  generalize hres : (Nd.mk k b n t ns is).same (Nd.mk k' b' n' t' ns' is') = res
  rw [Nd.same] at hres
  rw [Nd.toT_eq, Nd.toT_eq]
  by_cases hA : k = k' ∧ b = b' ∧ n = n' ∧ t = t' ∧ ns.length = ns'.length ∧ is.length = is'.length
  · obtain ⟨rfl, rfl, rfl, rfl, hn, hi⟩ := hA
    simp only [decide_true, Bool.true_and] at hres
    refine wI Tryz.func22 ?_
    repeat' (first | refine wC ?_ | refine wK ?_ | refine zS rfl ?_ ?_ <;> intro hc | refine zN rfl ?_ ?_ <;> intro hc)
    all_goals try (exact absurd rfl hc)
    all_goals try (exact absurd (congrArg (fun n : Nat => (n : Int)) hn) hc)
    all_goals try (exact absurd (congrArg (fun n : Nat => (n : Int)) hi) hc)
    refine zl (za [2, 3, 54, 55, 56] [.loc 2, .loc 3] rfl rfl) ?_
    refine zz (fun m env st => ∃ (j : Nat), j ≤ ns.length ∧ m = ns.length - j ∧ res = (decide (ns.drop j = ns'.drop j) && Nd.sames is is') ∧
        env = EnvL.get [(2, .ref (.loc 2) 0 0 0), (3, .ref (.loc 3) 0 0 0), (54, .t (.sl 1 (ns.map .str))), (55, .t (.int .i64 ns.length)), (56, .t (.int .i64 (j : Int)))] ∧
        st = StO.get [(.loc 2, some (.var 30 [.t (.int .i64 k), .t (.bool b), .t (.int .i64 n), .t (.str t), .t (.sl 1 (ns.map .str)), .t (.sl 6 (is.map Nd.toT))])), (.loc 3, some (.var 30 [.t (.int .i64 k), .t (.bool b), .t (.int .i64 n), .t (.str t), .t (.sl 1 (ns'.map .str)), .t (.sl 6 (is'.map Nd.toT))]))])
      ?_ (n := ns.length) ⟨0, by omega, by omega, hres.symm, rfl, rfl⟩
    rintro m env st ⟨j, hj, rfl, hr, rfl, rfl⟩
    by_cases hlt : j < ns.length
    · have e1 := kc ns j hlt
      have e2 := kc ns' j (by omega)
      rw [e1, e2] at hr
      repeat' (first | refine wC ?_ | refine wK ?_ | ((with_reducible refine zA ?_); refine zq rfl rfl rfl rfl rfl rfl ?_ ?_ ?_) | refine zd rfl ?_ ?_ <;> intro hc | refine zS rfl ?_ ?_ <;> intro hc)
      all_goals try omega
      all_goals try (exfalso; omega)
      · have hc' : ns'.getD j default = ns.getD j default := hc
        refine zI (n' := ns.length - (j + 1)) (by omega) (za [2, 3, 54, 55, 56] [.loc 2, .loc 3] rfl rfl) ⟨j + 1, by omega, rfl, ?_, ?_, rfl⟩
        · rw [hr, hc']; simp
        · rw [zr (by omega) (by omega)]; rfl
      · have hc' : ¬ ns'.getD j default = ns.getD j default := hc
        have hf : res = false := by
          rw [hr]
          simp only [List.cons.injEq, decide_eq_false (fun h : ns.getD j default = ns'.getD j default ∧ _ => hc' h.1.symm), Bool.false_and]
        rw [hf]
        exact zp (zo rfl rfl rfl) (by simp)
    · have hje : j = ns.length := by omega
      subst hje
      replace hr : res = Nd.sames is is' := by rw [hr, List.drop_length, hn, List.drop_length]; simp
      repeat' (first | refine wC ?_ | refine wK ?_ | ((with_reducible refine zA ?_); refine zq rfl rfl rfl rfl rfl rfl ?_ ?_ ?_) | refine zd rfl ?_ ?_ <;> intro hc | refine zS rfl ?_ ?_ <;> intro hc)
      all_goals try (exfalso; omega)
      refine zl (za [2, 3, 70, 71, 72] [.loc 2, .loc 3] rfl rfl) ?_
      refine zz (fun m env st => ∃ (j : Nat), j ≤ is.length ∧ m = is.length - j ∧ res = Nd.sames (is.drop j) (is'.drop j) ∧
          env = EnvL.get [(2, .ref (.loc 2) 0 0 0), (3, .ref (.loc 3) 0 0 0), (70, .t (.sl 6 (is.map Nd.toT))), (71, .t (.int .i64 is.length)), (72, .t (.int .i64 (j : Int)))] ∧
          st = StO.get [(.loc 2, some (.var 30 [.t (.int .i64 k), .t (.bool b), .t (.int .i64 n), .t (.str t), .t (.sl 1 (ns.map .str)), .t (.sl 6 (is.map Nd.toT))])), (.loc 3, some (.var 30 [.t (.int .i64 k), .t (.bool b), .t (.int .i64 n), .t (.str t), .t (.sl 1 (ns'.map .str)), .t (.sl 6 (is'.map Nd.toT))]))])
        ?_ (n := is.length) ⟨0, by omega, by omega, hr, rfl, rfl⟩
      clear hr hres
      rintro m env st ⟨j, hj, rfl, hr, rfl, rfl⟩
      by_cases hlt : j < is.length
      · have e1 := kc is j hlt
        have e2 := kc is' j (by omega)
        rw [e1, e2, Nd.sames] at hr
        have hm : is.getD (j : Int).toNat default ∈ is := by
          show is.getD j default ∈ is
          rw [List.getD_eq_getElem?_getD, List.getElem?_eq_getElem hlt]; exact List.getElem_mem _
        have hS : Spec Tryz.prog 22 [.t (is.getD (j : Int).toNat default).toT, .t (is'.getD (j : Int).toNat default).toT] [] (.t (.bool ((is.getD j default).same (is'.getD j default)))) [] := ih _ hm _
        generalize (is.getD j default).same (is'.getD j default) = v at hS hr
        have eX := (is.getD (j : Int).toNat default).toT_full
        have eY := (is'.getD (j : Int).toNat default).toT_full
        rw [eX, eY] at hS
        cases v with
        | false =>
          rw [Bool.false_and] at hr
          subst hr
          repeat' (first | refine wC ?_ | refine zR rfl rfl eX rfl rfl rfl rfl rfl rfl ?_ | refine zR rfl rfl eY rfl rfl rfl rfl rfl rfl ?_ | refine wK ?_ | ((with_reducible refine zA ?_); refine zq rfl rfl rfl rfl rfl rfl ?_ ?_ ?_) | ((with_reducible refine ze ?_); refine wL hS ?_) | refine zd rfl ?_ ?_ <;> intro hc)
          all_goals try omega
          all_goals try (exfalso; omega)
          exact zp (zo rfl rfl rfl) (by simp)
        | true =>
          rw [Bool.true_and] at hr
          repeat' (first | refine wC ?_ | refine zR rfl rfl eX rfl rfl rfl rfl rfl rfl ?_ | refine zR rfl rfl eY rfl rfl rfl rfl rfl rfl ?_ | refine wK ?_ | ((with_reducible refine zA ?_); refine zq rfl rfl rfl rfl rfl rfl ?_ ?_ ?_) | ((with_reducible refine ze ?_); refine wL hS ?_) | refine zd rfl ?_ ?_ <;> intro hc)
          all_goals try omega
          all_goals try (exfalso; omega)
          refine zI (n' := is.length - (j + 1)) (by omega) (za [2, 3, 70, 71, 72] [.loc 2, .loc 3] rfl rfl) ⟨j + 1, by omega, rfl, hr, ?_, rfl⟩
          rw [zr (by omega) (by omega)]; rfl
      · have hje : j = is.length := by omega
        subst hje
        replace hr : res = true := by rw [hr, List.drop_length, hi, List.drop_length]; rfl
        subst hr
        repeat' (first | refine wC ?_ | refine wK ?_ | ((with_reducible refine zA ?_); refine zq rfl rfl rfl rfl rfl rfl ?_ ?_ ?_) | refine zd rfl ?_ ?_ <;> intro hc)
        all_goals try (exfalso; omega)
        exact zp (zo rfl rfl rfl) (by simp)
  · have hf : res = false := by
      cases res with
      | false => rfl
      | true =>
        simp only [Bool.and_eq_true, decide_eq_true_eq] at hres
        obtain ⟨⟨⟨⟨⟨a1, a2⟩, a3⟩, a4⟩, a5⟩, a6⟩ := hres
        have a6 := (Nd.sames_iff is is').1 a6
        exact absurd ⟨a1, a2, a3, a4, by rw [a5], by rw [a6]⟩ hA
    subst hf
    refine wI Tryz.func22 ?_
    repeat' (first | refine wC ?_ | refine wK ?_ | refine zS rfl ?_ ?_ <;> intro hc | refine zN rfl ?_ ?_ <;> intro hc)
    · exact absurd ⟨‹k = k'›, ‹b = b'›, ‹n = n'›, ‹t = t'›, by omega, by omega⟩ hA
    all_goals exact zp (zo rfl rfl rfl) (by simp)
set_option maxHeartbeats 4000000 in
theorem zdg (ty : TypeId) (r : Rs) (i : Nat) (hi : i ≤ 3) (k : Int) (hk : k = 2 ^ i) (hs : r.s.size ≤ 1000000) : Spec Tryz.prog 245 [.ref (.par 0) 0 0 0, .t (.int .i64 k)] [(.par 0, r.row ty)] (.t (.int .i64 (r.count k).1)) [(.par 0, (r.count k).2.row ty)] := by
  subst hk
  have h8 : (2 : Int) ^ i ≤ 8 := by
    match i, hi with
    | 0, _ | 1, _ | 2, _ | 3, _ => decide
  have hU := zb2 ty r (2 ^ i) h8 (by omega)
  have hr := zdW (r := r) hi
  have hl := zbR r (2 ^ i)
  have hF := zb3 ty (r.uint (2 ^ i)).2 (r.uint (2 ^ i)).1 hr.1 hr.2 (by omega)
  unfold Rs.count
  generalize (r.uint (2 ^ i)).2.fits (r.uint (2 ^ i)).1 = z at hF ⊢
  generalize r.uint (2 ^ i) = y at hU hF
  generalize (2 : Int) ^ i = k at *
  obtain ⟨z, zs, zb⟩ := z
  obtain ⟨y, ys, yb⟩ := y
  obtain ⟨s, bad⟩ := r
  unfold Rs.row at *
  simp only at hU hF ⊢
  refine wI Tryz.func245 ?_
  repeat' (first | refine wC ?_ | refine wK ?_ | ((with_reducible refine ze ?_); first | refine wN (.t (.int .u64 y)) [] hU ?_ | refine wN (.t (.int .i64 z)) [] hF ?_) | fail)
  exact zp (zo rfl rfl rfl) (zc ⟨rfl, trivial⟩)
theorem zkV {l m : Int} (h0 : m ≤ l) (h1 : l ≤ m + 3) (h2 : 0 ≤ m) (h3 : l < 256) : IntKind.i64.wrap (1 * 2 ^ min (IntKind.u8.wrap (l - m)).toNat IntKind.i64.bits) = 2 ^ (l - m).toNat := by
  rw [xo (n := l - m) (by omega) (by omega)]
  have : (l - m).toNat = 0 ∨ (l - m).toNat = 1 ∨ (l - m).toNat = 2 ∨ (l - m).toNat = 3 := by omega
  rcases this with h | h | h | h <;> rw [h] <;> decide
set_option maxHeartbeats 8000000 in
theorem zc1 (r : Rs) (hs : r.s.size ≤ 1000000) (c : Int) (c0 : 0 ≤ c) (c1 : c < 256) : Spec Tryz.prog 246 [.ref (.par 0) 0 0 0, .t (.int .u8 c)] [(.par 0, r.row 197)] (.t (.str (wU r c).1)) [(.par 0, (wU r c).2.row 197)] := by
  unfold wU
  by_cases hA : 160 ≤ c ∧ c < 192
  · rw [if_pos hA]
    have hT : ∀ k : Int, k = c - 160 → Spec Tryz.prog 240 [.ref (.par 0) 0 0 0, .t (.int .i64 k)] [(.par 0, r.row 197)] (.t (.str (r.take (c - 160)).1)) [(.par 0, (r.take (c - 160)).2.row 197)] := fun k hk => by subst hk; exact wH 197 r _ (by omega)
    generalize r.take (c - 160) = t at hT ⊢
    obtain ⟨t, ts, tb⟩ := t
    obtain ⟨s, bad⟩ := r
    unfold Rs.row at *
    simp only at hT ⊢
    refine wI Tryz.func246 ?_
    repeat' (first | refine wC ?_ | refine wK ?_ | ((with_reducible refine zM ?_); refine xi rfl rfl rfl rfl rfl rfl ?_ ?_) | ((with_reducible refine ze ?_); refine ja (r' := .t (.str t)) [] rfl rfl (hT _ ?_) (ArgsLE.refl _) rfl ⟨rfl, trivial⟩ rfl rfl rfl rfl rfl rfl rfl rfl rfl rfl ?_) | refine zd rfl ?_ ?_ <;> intro hc | refine zj rfl ?_ ?_ <;> intro hc)
    all_goals try (exfalso; omega)
    · rw [xo (by omega) (by omega), zr (by omega) (by omega)]
    · exact zp (zo rfl rfl rfl) (zc ⟨rfl, trivial⟩)
  · rw [if_neg hA]
    by_cases hB : 217 ≤ c ∧ c ≤ 219
    · rw [if_pos hB]
      obtain ⟨i, hi⟩ : ∃ i, (c - 217).toNat = i := ⟨_, rfl⟩
      have hsh := zkV (l := c) (m := 217) hB.1 (by omega) (by omega) c1
      rw [hi] at hsh ⊢
      have hC : ∀ k : Int, k = 2 ^ i → Spec Tryz.prog 245 [.ref (.par 0) 0 0 0, .t (.int .i64 k)] [(.par 0, r.row 197)] (.t (.int .i64 (r.count (2 ^ i)).1)) [(.par 0, (r.count (2 ^ i)).2.row 197)] := fun k hk => by subst hk; exact zdg 197 r i (by omega) _ rfl hs
      have hl := (zbc r (2 ^ i)).1
      have hT := wH 197 (r.count (2 ^ i)).2 (r.count (2 ^ i)).1 (by omega)
      generalize (r.count (2 ^ i)).2.take (r.count (2 ^ i)).1 = t at hT ⊢
      generalize r.count (2 ^ i) = y at hC hT
      generalize (2 : Int) ^ i = k at *
      obtain ⟨y, ys, yb⟩ := y
      obtain ⟨t, ts, tb⟩ := t
      obtain ⟨s, bad⟩ := r
      unfold Rs.row at *
      simp only at hC hT ⊢
      refine wI Tryz.func246 ?_
      repeat' (first | refine wC ?_ | refine wK ?_ | ((with_reducible refine zM ?_); refine xi rfl rfl rfl rfl rfl rfl ?_ ?_) | ((with_reducible refine ze ?_); first | refine wN (.t (.int .i64 y)) [] (hC _ hsh) ?_ | refine wN (.t (.str t)) [] hT ?_) | refine zd rfl ?_ ?_ <;> intro hc | refine zj rfl ?_ ?_ <;> intro hc)
      all_goals try (exfalso; omega)
      all_goals try (rw [xo (by omega) (by omega)]; omega)
      exact zp (zo rfl rfl rfl) (zc ⟨rfl, trivial⟩)
    · rw [if_neg hB]
      obtain ⟨s, bad⟩ := r
      unfold Rs.row at *
      simp only
      refine wI Tryz.func246 ?_
      repeat' (first | refine wC ?_ | refine wK ?_ | ((with_reducible refine zM ?_); refine xi rfl rfl rfl rfl rfl rfl ?_ ?_) | refine zd rfl ?_ ?_ <;> intro hc | refine zj rfl ?_ ?_ <;> intro hc)
      all_goals try (exfalso; omega)
      all_goals exact zp (zo rfl rfl rfl) (zc ⟨rfl, trivial⟩)
end Go.AL
