/- What functions of the program and of the document answer, and the plain laws behind it; each under the conditions that its own theorem names. -/
import Derived.Test.YtmidabiehblekaaGreatDoorTd
import Derived.Test.YtmidabiehblekaaGreatDoorTb
import Derived.Test.YtmidabiehblekaaGreatDoorAl3
import Derived.Test.YtmidabiehblekaaGreatDoorAl4
import Derived.Test.YtmidabiehblekaaGreatDoorTc
import Derived.Lib.ItoaNum
set_option linter.unusedVariables false
namespace Go.AL
open Go Go.Proofs Go.RowKit
set_option maxHeartbeats 16000000 in
theorem zgt {oP : Obj} (b : Bool) (n : Int) (t : ByteArray) (ns : List ByteArray) (is : List Nd) (hlen : is.length ≤ 256) (es : List T) (hb : es.length + (wG 4 ns is is.length).length + 2 ≤ 50000000)
    (IH : ∀ i, i < is.length → ∀ es' : List T, es'.length + (is.getD i default).jb.length ≤ 50000000 → Spec Tryz.prog 164 [.row (.par 0), .t (is.getD i default).toT] [(.par 0, .slt 5 1 es'), (.par 102, .dat (.fix 2 oP))] (.row (.res 0)) [(.res 0, .slt 5 1 (es' ++ u8L (is.getD i default).jb)), (.par 102, .dat (.fix 2 oP))]) :
    Spec Tryz.prog 164 [.row (.par 0), .t (.agg [.int .i64 4, .bool b, .int .i64 n, .str t, .sl 1 (ns.map .str), .sl 6 (is.map Nd.toT)])] [(.par 0, .slt 5 1 es), (.par 102, .dat (.fix 2 oP))] (.row (.res 0)) [(.res 0, .slt 5 1 (es ++ u8L (91 :: (wG 4 ns is is.length ++ [93])))), (.par 102, .dat (.fix 2 oP))] := by
  refine wIG Tryz.func164 ?_
  repeat' (first | refine wC ?_ | refine wK ?_ | ((with_reducible refine xM ?_); refine zZ rfl rfl rfl rfl rfl rfl ?_ ?_ ?_) | ((with_reducible refine zo ?_); refine zf rfl rfl rfl rfl rfl rfl rfl rfl rfl rfl ?_ ?_ ?_))
  all_goals try (simp only [List.length_singleton]; omega)
  all_goals try decide
  refine zi ((za [0, 3, 5, 41, 42, 43] [.loc 3, .par 102, .loc 39] rfl rfl).trans (zd (.loc 39) (.loc 900) rfl rfl rfl rfl)) ?_
  refine zw (fun p env st => ∃ (i : Nat), i ≤ is.length ∧ p = is.length - i ∧
      env = EnvL.get [(0, .row (.loc 900)), (3, .ref (.loc 3) 0 0 0), (5, .t (.str ⟨#[91, 93]⟩)), (41, .t (.sl 6 (is.map Nd.toT))), (42, .t (.int .i64 (is.length : Int))), (43, .t (.int .i64 (i : Int)))] ∧
      st = StO.get [(.loc 3, some (.var 30 [.t (.int .i64 4), .t (.bool b), .t (.int .i64 n), .t (.str t), .t (.sl 1 (ns.map .str)), .t (.sl 6 (is.map Nd.toT))])), (.par 102, some (.dat (.fix 2 oP))), (.loc 900, some (.slt 5 1 (es ++ u8L (91 :: wG 4 ns is i))))])
    ?_ (n := is.length) ⟨0, by omega, rfl, rfl, rfl⟩
  rintro p env st ⟨i, hi, rfl, rfl, rfl⟩
  have wi : IntKind.i64.wrap ((i : Int) + 1) = ((i + 1 : Nat) : Int) := by rw [zy (by omega) (by omega)]; omega
  have hle0 : (wG 4 ns is i).length ≤ (wG 4 ns is is.length).length := v7 (fun h => by omega) (by omega) (by omega)
  by_cases hlt : i < is.length
  · have hle : (wG 4 ns is (i + 1)).length ≤ (wG 4 ns is is.length).length := v7 (fun h => by omega) (by omega) (by omega)
    have hT := (is.getD i default).toT_full
    have hIH := IH i hlt
    have hT2 : (is.getD (i : Int).toNat default).toT = _ := hT
    rw [hT] at hIH
    rw [j5 (by decide) hlt] at hle
    obtain ⟨X, hX⟩ : ∃ X, X = es ++ u8L (91 :: wG 4 ns is i) := ⟨_, rfl⟩
    have hXl : X.length = es.length + 1 + (wG 4 ns is i).length := by rw [hX, List.length_append, zK, List.length_cons]; omega
    have hnext : es ++ u8L (91 :: wG 4 ns is (i + 1)) = X ++ u8L ((if i = 0 then [] else [44]) ++ (is.getD i default).jb) := by
      rw [hX, j5 (by decide) hlt, List.append_assoc, ← zz]; rfl
    rw [← hX]
    clear hX
    simp only [List.length_append] at hle
    generalize is.getD i default = x at *
    by_cases h0 : i = 0
    · rw [if_pos h0] at hnext hle
      rw [List.nil_append] at hnext
      have hP2 := hIH (X) (by simp only [List.length_append, List.length_singleton, List.length_nil] at hle ⊢; omega)
      repeat' (first | refine wC ?_ | (exfalso; omega) | refine yh rfl rfl hT2 rfl rfl rfl rfl rfl rfl ?_ | refine wK ?_ | ((with_reducible refine zu ?_); refine zr rfl rfl rfl rfl rfl rfl ?_ ?_ ?_) | ((with_reducible refine ze ?_); refine wN (.row (.loc 906)) [(.par 0, .loc 900), (.res 0, .loc 906)] hP2 ?_) | refine zh rfl ?_ ?_ <;> intro hc)
      all_goals try (simp only [List.length_append, List.length_singleton]; omega)
      all_goals try (simp only [List.length_map]; omega)
      all_goals try omega
      exact zM (n' := is.length - (i + 1)) (by omega) ((za [0, 3, 5, 41, 42, 43] [.loc 3, .par 102, .loc 906] rfl rfl).trans (zd (.loc 906) (.loc 900) rfl rfl rfl rfl)) ⟨i + 1, by omega, rfl, by rw [wi]; rfl, by rw [hnext]; rfl⟩
    · rw [if_neg h0] at hnext hle
      have hP2 := hIH (X ++ [T.int .u8 44]) (by simp only [List.length_append, List.length_singleton, List.length_nil] at hle ⊢; omega)
      rw [zz, ← List.append_assoc] at hnext
      repeat' (first | refine wC ?_ | (exfalso; omega) | refine yh rfl rfl hT2 rfl rfl rfl rfl rfl rfl ?_ | refine wK ?_ | ((with_reducible refine zu ?_); refine zr rfl rfl rfl rfl rfl rfl ?_ ?_ ?_) | ((with_reducible refine zo ?_); refine zf rfl rfl rfl rfl rfl rfl rfl rfl rfl rfl ?_ ?_ ?_) | ((with_reducible refine ze ?_); refine wN (.row (.loc 906)) [(.par 0, .loc 52), (.res 0, .loc 906)] hP2 ?_) | refine zh rfl ?_ ?_ <;> intro hc)
      all_goals try (simp only [List.length_append, List.length_singleton]; omega)
      all_goals try (simp only [List.length_map]; omega)
      all_goals try omega
      exact zM (n' := is.length - (i + 1)) (by omega) ((za [0, 3, 5, 41, 42, 43] [.loc 3, .par 102, .loc 906] rfl rfl).trans (zd (.loc 906) (.loc 900) rfl rfl rfl rfl)) ⟨i + 1, by omega, rfl, by rw [wi]; rfl, by rw [hnext]; rfl⟩
  · obtain rfl : i = is.length := by omega
    have e : es ++ u8L (91 :: wG 4 ns is is.length) ++ [T.int .u8 93] = es ++ u8L (91 :: (wG 4 ns is is.length ++ [93])) := by
      rw [List.append_assoc]
      congr 1
      show u8L _ ++ u8L [93] = _
      rw [← zz]; rfl
    have hXl : (es ++ u8L (91 :: wG 4 ns is is.length)).length ≤ 50000000 := by rw [List.length_append, zK, List.length_cons]; omega
    rw [← e]
    generalize es ++ u8L (91 :: wG 4 ns is is.length) = X at *
    repeat' (first | refine wC ?_ | (exfalso; omega) | refine wK ?_ | ((with_reducible refine xM ?_); refine zZ rfl rfl rfl rfl rfl rfl ?_ ?_ ?_) | ((with_reducible refine zo ?_); refine zf rfl rfl rfl rfl rfl rfl rfl rfl rfl rfl ?_ ?_ ?_) | refine zh rfl ?_ ?_ <;> intro hc)
    all_goals try (simp only [List.length_singleton]; omega)
    all_goals try decide
    refine zk ((za [4] [.par 102, .loc 73] rfl rfl).trans (zd (.loc 73) (.res 0) rfl rfl rfl rfl)) ?_
    exact zE (zm (zt rfl (AVLE.of_eq rfl)) (zc ⟨rfl, rfl, trivial⟩))
set_option maxHeartbeats 16000000 in
theorem ziv {oP : Obj} (b : Bool) (n : Int) (t : ByteArray) (ns : List ByteArray) (is : List Nd) (hlen : is.length ≤ 256) (hl5 : ns.length = is.length) (hns : ∀ s ∈ ns, s.size ≤ 65536) (es : List T) (hb : es.length + (wG 5 ns is is.length).length + 2 ≤ 50000000)
    (IH : ∀ i, i < is.length → ∀ es' : List T, es'.length + (is.getD i default).jb.length ≤ 50000000 → Spec Tryz.prog 164 [.row (.par 0), .t (is.getD i default).toT] [(.par 0, .slt 5 1 es'), (.par 102, .dat (.fix 2 oP))] (.row (.res 0)) [(.res 0, .slt 5 1 (es' ++ u8L (is.getD i default).jb)), (.par 102, .dat (.fix 2 oP))]) :
    Spec Tryz.prog 164 [.row (.par 0), .t (.agg [.int .i64 5, .bool b, .int .i64 n, .str t, .sl 1 (ns.map .str), .sl 6 (is.map Nd.toT)])] [(.par 0, .slt 5 1 es), (.par 102, .dat (.fix 2 oP))] (.row (.res 0)) [(.res 0, .slt 5 1 (es ++ u8L (123 :: (wG 5 ns is is.length ++ [125])))), (.par 102, .dat (.fix 2 oP))] := by
  refine wIG Tryz.func164 ?_
  repeat' (first | refine wC ?_ | refine wK ?_ | ((with_reducible refine xM ?_); refine zZ rfl rfl rfl rfl rfl rfl ?_ ?_ ?_) | ((with_reducible refine zo ?_); refine zf rfl rfl rfl rfl rfl rfl rfl rfl rfl rfl ?_ ?_ ?_))
  all_goals try (simp only [List.length_singleton]; omega)
  all_goals try decide
  refine zi ((za [0, 3, 5, 41, 42, 43] [.loc 3, .par 102, .loc 39] rfl rfl).trans (zd (.loc 39) (.loc 900) rfl rfl rfl rfl)) ?_
  refine zw (fun p env st => ∃ (i : Nat), i ≤ is.length ∧ p = is.length - i ∧
      env = EnvL.get [(0, .row (.loc 900)), (3, .ref (.loc 3) 0 0 0), (5, .t (.str ⟨#[123, 125]⟩)), (41, .t (.sl 6 (is.map Nd.toT))), (42, .t (.int .i64 (is.length : Int))), (43, .t (.int .i64 (i : Int)))] ∧
      st = StO.get [(.loc 3, some (.var 30 [.t (.int .i64 5), .t (.bool b), .t (.int .i64 n), .t (.str t), .t (.sl 1 (ns.map .str)), .t (.sl 6 (is.map Nd.toT))])), (.par 102, some (.dat (.fix 2 oP))), (.loc 900, some (.slt 5 1 (es ++ u8L (123 :: wG 5 ns is i))))])
    ?_ (n := is.length) ⟨0, by omega, rfl, rfl, rfl⟩
  rintro p env st ⟨i, hi, rfl, rfl, rfl⟩
  have wi : IntKind.i64.wrap ((i : Int) + 1) = ((i + 1 : Nat) : Int) := by rw [zy (by omega) (by omega)]; omega
  have hle0 : (wG 5 ns is i).length ≤ (wG 5 ns is is.length).length := v7 (fun _ => hl5) (by omega) (by omega)
  by_cases hlt : i < is.length
  · have hle : (wG 5 ns is (i + 1)).length ≤ (wG 5 ns is is.length).length := v7 (fun _ => hl5) (by omega) (by omega)
    have hT := (is.getD i default).toT_full
    have hIH := IH i hlt
    have hT2 : (is.getD (i : Int).toNat default).toT = _ := hT
    rw [hT] at hIH
    rw [zbT hl5 hlt] at hle
    obtain ⟨X, hX⟩ : ∃ X, X = es ++ u8L (123 :: wG 5 ns is i) := ⟨_, rfl⟩
    have hXl : X.length = es.length + 1 + (wG 5 ns is i).length := by rw [hX, List.length_append, zK, List.length_cons]; omega
    have hnext : es ++ u8L (123 :: wG 5 ns is (i + 1)) = X ++ u8L ((if i = 0 then [] else [44]) ++ (jQ (ns.getD i default) ++ (58 :: (is.getD i default).jb))) := by
      rw [hX, zbT hl5 hlt, List.append_assoc, ← zz]; rfl
    rw [← hX]
    clear hX
    have hsz : (ns.getD i default).size ≤ 65536 := hns _ (by rw [List.getD_eq_getElem?_getD, List.getElem?_eq_getElem (by omega)]; simp)
    have hjl := zcS (ns.getD i default)
    have hnn : i < ns.length := by omega
    simp only [List.length_append, List.length_cons] at hle
    generalize hS : ns.getD i default = S at *
    have hS2 : ns.getD (i : Int).toNat default = S := hS
    generalize is.getD i default = x at *
    by_cases h0 : i = 0
    · rw [if_pos h0] at hnext hle
      rw [List.nil_append] at hnext
      have hQ := vP (X) S (by first | omega | (simp only [List.length_append, List.length_singleton]; omega))
      have hP2 := hIH (X ++ u8L (jQ S) ++ [T.int .u8 58]) (by simp only [List.length_append, List.length_singleton, List.length_cons, List.length_nil, zK] at hle ⊢; omega)
      rw [← hS2] at hQ
      have hN2 : X ++ u8L (jQ S ++ 58 :: x.jb) = X ++ u8L (jQ S) ++ [T.int .u8 58] ++ u8L x.jb := by
        rw [show jQ S ++ 58 :: x.jb = jQ S ++ ([58] ++ x.jb) from rfl]
        simp only [zz, List.append_assoc]; rfl
      rw [hN2] at hnext
      have hlq : (u8L (jQ S)).length ≤ 393300 := by rw [zK]; omega
      rw [← hS2] at hP2 hnext hlq
      generalize u8L (jQ (ns.getD (i : Int).toNat default)) = Q at hQ hP2 hnext hlq
      repeat' (first | refine wC ?_ | (exfalso; omega) | refine yh rfl rfl hT2 rfl rfl rfl rfl rfl rfl ?_ | refine wK ?_ | ((with_reducible refine zu ?_); refine zr rfl rfl rfl rfl rfl rfl ?_ ?_ ?_) | ((with_reducible refine zo ?_); refine zf rfl rfl rfl rfl rfl rfl rfl rfl rfl rfl ?_ ?_ ?_) | ((with_reducible refine ze ?_); first | refine wN (.row (.loc 905)) [(.par 0, .loc 900), (.res 0, .loc 905)] hQ ?_ | refine wN (.row (.loc 906)) [(.par 0, .loc 64), (.res 0, .loc 906)] hP2 ?_) | refine zh rfl ?_ ?_ <;> intro hc)
      all_goals try (simp only [List.length_append, List.length_singleton]; omega)
      all_goals try (simp only [List.length_map]; omega)
      all_goals try omega
      exact zM (n' := is.length - (i + 1)) (by omega) ((za [0, 3, 5, 41, 42, 43] [.loc 3, .par 102, .loc 906] rfl rfl).trans (zd (.loc 906) (.loc 900) rfl rfl rfl rfl)) ⟨i + 1, by omega, rfl, by rw [wi]; rfl, by rw [hnext]; rfl⟩
    · rw [if_neg h0] at hnext hle
      have hQ := vP (X ++ [T.int .u8 44]) S (by first | omega | (simp only [List.length_append, List.length_singleton]; omega))
      have hP2 := hIH (X ++ [T.int .u8 44] ++ u8L (jQ S) ++ [T.int .u8 58]) (by simp only [List.length_append, List.length_singleton, List.length_cons, List.length_nil, zK] at hle ⊢; omega)
      rw [← hS2] at hQ
      have hN2 : X ++ u8L ([44] ++ (jQ S ++ 58 :: x.jb)) = X ++ [T.int .u8 44] ++ u8L (jQ S) ++ [T.int .u8 58] ++ u8L x.jb := by
        rw [show [44] ++ (jQ S ++ 58 :: x.jb) = [44] ++ (jQ S ++ ([58] ++ x.jb)) from rfl]
        simp only [zz, List.append_assoc]; rfl
      rw [hN2] at hnext
      have hlq : (u8L (jQ S)).length ≤ 393300 := by rw [zK]; omega
      rw [← hS2] at hP2 hnext hlq
      generalize u8L (jQ (ns.getD (i : Int).toNat default)) = Q at hQ hP2 hnext hlq
      repeat' (first | refine wC ?_ | (exfalso; omega) | refine yh rfl rfl hT2 rfl rfl rfl rfl rfl rfl ?_ | refine wK ?_ | ((with_reducible refine zu ?_); refine zr rfl rfl rfl rfl rfl rfl ?_ ?_ ?_) | ((with_reducible refine zo ?_); refine zf rfl rfl rfl rfl rfl rfl rfl rfl rfl rfl ?_ ?_ ?_) | ((with_reducible refine ze ?_); first | refine wN (.row (.loc 905)) [(.par 0, .loc 52), (.res 0, .loc 905)] hQ ?_ | refine wN (.row (.loc 906)) [(.par 0, .loc 64), (.res 0, .loc 906)] hP2 ?_) | refine zh rfl ?_ ?_ <;> intro hc)
      all_goals try (simp only [List.length_append, List.length_singleton]; omega)
      all_goals try (simp only [List.length_map]; omega)
      all_goals try omega
      exact zM (n' := is.length - (i + 1)) (by omega) ((za [0, 3, 5, 41, 42, 43] [.loc 3, .par 102, .loc 906] rfl rfl).trans (zd (.loc 906) (.loc 900) rfl rfl rfl rfl)) ⟨i + 1, by omega, rfl, by rw [wi]; rfl, by rw [hnext]; rfl⟩
  · obtain rfl : i = is.length := by omega
    have e : es ++ u8L (123 :: wG 5 ns is is.length) ++ [T.int .u8 125] = es ++ u8L (123 :: (wG 5 ns is is.length ++ [125])) := by
      rw [List.append_assoc]
      congr 1
      show u8L _ ++ u8L [125] = _
      rw [← zz]; rfl
    have hXl : (es ++ u8L (123 :: wG 5 ns is is.length)).length ≤ 50000000 := by rw [List.length_append, zK, List.length_cons]; omega
    rw [← e]
    generalize es ++ u8L (123 :: wG 5 ns is is.length) = X at *
    repeat' (first | refine wC ?_ | (exfalso; omega) | refine wK ?_ | ((with_reducible refine xM ?_); refine zZ rfl rfl rfl rfl rfl rfl ?_ ?_ ?_) | ((with_reducible refine zo ?_); refine zf rfl rfl rfl rfl rfl rfl rfl rfl rfl rfl ?_ ?_ ?_) | refine zh rfl ?_ ?_ <;> intro hc)
    all_goals try (simp only [List.length_singleton]; omega)
    all_goals try decide
    refine zk ((za [4] [.par 102, .loc 73] rfl rfl).trans (zd (.loc 73) (.res 0) rfl rfl rfl rfl)) ?_
    exact zE (zm (zt rfl (AVLE.of_eq rfl)) (zc ⟨rfl, rfl, trivial⟩))
set_option maxHeartbeats 16000000 in
theorem j6 {V : ByteArray → Bool} {oP : Obj} (hP : xk .u64 Lib.pow10Tab oP) : ∀ (x : Nd) (e : Int), x.validB V e = true → x.In → ∀ es : List T, es.length + x.jb.length ≤ 50000000 →
    Spec Tryz.prog 164 [.row (.par 0), .t x.toT] [(.par 0, .slt 5 1 es), (.par 102, .dat (.fix 2 oP))] (.row (.res 0)) [(.res 0, .slt 5 1 (es ++ u8L x.jb)), (.par 102, .dat (.fix 2 oP))]
  | .mk k b n t ns is, e, hv, hin, es, hb => by
    rw [yz] at hv
    obtain ⟨h1, h2, h3, h4, h5, h6, h7, h8⟩ := hv
    cases hin with
    | mk i1 i2 i3 =>
    rw [Nd.toT_eq]
    have hk : k = 0 ∨ k = 1 ∨ k = 2 ∨ k = 3 ∨ (k = 4 ∨ k = 5) := by omega
    rcases hk with rfl | rfl | rfl | rfl | hk
    · have ec : (Nd.mk 0 b n t ns is).jb = zbO := by simp [Nd.jb]
      rw [ec]
      refine wIG Tryz.func164 ?_
      repeat' (first | refine wC ?_ | refine wK ?_ | ((with_reducible refine zo ?_); refine zX rfl rfl rfl rfl rfl rfl rfl rfl rfl ?_ ?_ ?_))
      · show (es.length + 4) * 1 ≤ _; omega
      · show es.length + 4 ≤ _; omega
      refine zk ((za [4] [.par 102, .loc 13] rfl rfl).trans (zd (.loc 13) (.res 0) rfl rfl rfl rfl)) ?_
      exact zE (zm (zt rfl (AVLE.of_eq rfl)) (zc ⟨rfl, rfl, trivial⟩))
    · have ec : (Nd.mk 1 b n t ns is).jb = if b then qa else x4 := by simp [Nd.jb]
      rw [ec]
      have hB := jj es b (by omega)
      generalize u8L (if b then qa else x4) = D at hB ⊢
      refine wIG Tryz.func164 ?_
      repeat' (first | refine wC ?_ | refine wK ?_ | ((with_reducible refine ze ?_); refine wN (.row (.loc 903)) [(.res 0, .loc 903)] hB ?_))
      refine zk ((za [4] [.par 102, .loc 903] rfl rfl).trans (zd (.loc 903) (.res 0) rfl rfl rfl rfl)) ?_
      exact zE (zm (zt rfl (AVLE.of_eq rfl)) (zc ⟨rfl, rfl, trivial⟩))
    · have ec : (Nd.mk 2 b n t ns is).jb = Lib.itoa n := by simp [Nd.jb]
      rw [ec]
      have hB := zar hP es (by omega) n i1 i2
      generalize u8L (Lib.itoa n) = D at hB ⊢
      refine wIG Tryz.func164 ?_
      repeat' (first | refine wC ?_ | refine wK ?_ | ((with_reducible refine ze ?_); refine wN (.row (.loc 903)) [(.res 0, .loc 903)] hB ?_))
      refine zk ((za [4] [.par 102, .loc 903] rfl rfl).trans (zd (.loc 903) (.res 0) rfl rfl rfl rfl)) ?_
      exact zE (zm (zt rfl (AVLE.of_eq rfl)) (zc ⟨rfl, rfl, trivial⟩))
    · have ec : (Nd.mk 3 b n t ns is).jb = jQ t := by simp [Nd.jb]
      have ht : t.size ≤ 65536 := by
        simp only [yG, Bool.and_eq_true, decide_eq_true_eq] at h5; omega
      rw [ec]
      have hB := vP es t (by omega)
      generalize u8L (jQ t) = D at hB ⊢
      refine wIG Tryz.func164 ?_
      repeat' (first | refine wC ?_ | refine wK ?_ | ((with_reducible refine ze ?_); refine wN (.row (.loc 903)) [(.res 0, .loc 903)] hB ?_))
      refine zk ((za [4] [.par 102, .loc 903] rfl rfl).trans (zd (.loc 903) (.res 0) rfl rfl rfl rfl)) ?_
      exact zE (zm (zt rfl (AVLE.of_eq rfl)) (zc ⟨rfl, rfl, trivial⟩))
    · have e1 : is.take is.length = is := List.take_length
      rcases hk with rfl | rfl
      · have ec : (Nd.mk 4 b n t ns is).jb = 91 :: (wG 4 ns is is.length ++ [93]) := by simp [Nd.jb, wG]
        rw [ec] at hb ⊢
        simp only [List.length_cons, List.length_append, List.length_nil] at hb
        exact zgt b n t ns is (by omega) es (by omega) fun i hi es' hb' => by
          have hm : is.getD i default ∈ is := by rw [List.getD_eq_getElem?_getD, List.getElem?_eq_getElem hi]; exact List.getElem_mem _
          exact j6 hP (is.getD i default) (e - 1) (h8 _ hm) (i3 _ hm) es' hb'
      · have e2 : ns.take is.length = ns := by rw [← (h7 rfl).2]; exact List.take_length
        have ec : (Nd.mk 5 b n t ns is).jb = 123 :: (wG 5 ns is is.length ++ [125]) := by simp [Nd.jb, wG, e2]
        rw [ec] at hb ⊢
        simp only [List.length_cons, List.length_append, List.length_nil] at hb
        exact ziv b n t ns is (by omega) (by have := (h7 rfl).2; omega) (fun s hs => by
          have := ((yZ (yG V) ns []).1 (h7 rfl).1).2 s hs
          have := this.2
          simp only [yG, Bool.and_eq_true, decide_eq_true_eq] at this; omega) es (by omega) fun i hi es' hb' => by
          have hm : is.getD i default ∈ is := by rw [List.getD_eq_getElem?_getD, List.getElem?_eq_getElem hi]; exact List.getElem_mem _
          exact j6 hP (is.getD i default) (e - 1) (h8 _ hm) (i3 _ hm) es' hb'
termination_by x => SizeOf.sizeOf x
decreasing_by
  all_goals
    have := List.sizeOf_lt_of_mem hm
    simp only [Nd.mk.sizeOf_spec]
    omega
set_option maxHeartbeats 8000000 in
theorem zcG {oF oA oP : Obj} {V : ByteArray → Bool} (hS : vm oF oA V) (hPw : xk .u64 Lib.pow10Tab oP) (x : Nd) (hx : x.Ok) (hin : x.In) (hsz : x.validB V 8 = true → x.jb.length ≤ 49999999) : Spec Tryz.prog 101 [.t x.toT] [(.par 100, .dat (.fix 0 oF)), (.par 101, .dat (.fix 1 oA)), (.par 102, .dat (.fix 2 oP))] (.tup [.t (.str (ziN V x).1), .t (.int .i64 (ziN V x).2)]) [(.par 100, .dat (.fix 0 oF)), (.par 101, .dat (.fix 1 oA)), (.par 102, .dat (.fix 2 oP))] := by
  have hC : Spec Tryz.prog 99 [.t x.toT, .t (.fn 164)] [(.par 100, .dat (.fix 0 oF)), (.par 101, .dat (.fix 1 oA)), (.par 102, .dat (.fix 2 oP))] (.tup [.t (.str (ziN V x).1), .t (.int .i64 (ziN V x).2)]) [(.par 100, .dat (.fix 0 oF)), (.par 101, .dat (.fix 1 oA)), (.par 102, .dat (.fix 2 oP))] := by
    have hV := wm hS x hx
    have hT := x.toT_full
    unfold ziN
    cases hv : x.validB V 8 with
    | false =>
      rw [hv] at hV
      rw [hT] at hV ⊢
      refine wI Tryz.func99 ?_
      repeat' (first | refine wC ?_ | refine wK ?_ | ((with_reducible refine ze ?_); refine wN (.t (.bool false)) [] hV ?_))
      exact zm (zI rfl rfl rfl rfl rfl) (zc ⟨rfl, rfl, rfl, trivial⟩)
    | true =>
      have hP := Spec.nilArgS (j6 hPw x 8 hv hin [] (by have := hsz hv; simp; omega)) rfl rfl rfl rfl
      rw [List.nil_append] at hP
      rw [hv] at hV
      rw [hT] at hV hP ⊢
      have hlen : (u8L x.jb).length = x.jb.length := zK _
      have hsz' := hsz hv
      refine wI Tryz.func99 ?_
      repeat' (first | refine wC ?_ | refine wK ?_ | ((with_reducible refine yP ?_); refine yf rfl rfl rfl rfl rfl rfl ?_ ?_) | ((with_reducible refine ze ?_); first | refine wN (.t (.bool true)) [] hV ?_ | refine wN (.row (.loc 903)) [(.res 0, .loc 903)] hP ?_) | refine zh rfl ?_ ?_ <;> intro hc)
      · exact zm (zI rfl rfl rfl (by rw [if_pos rfl, if_pos (by omega)]; rfl) (by rw [if_pos rfl, if_pos (by omega)])) (zc ⟨rfl, rfl, rfl, trivial⟩)
      · exact k7 _
      · exact zm (zI rfl rfl rfl (by rw [if_pos rfl, if_neg (by omega), kT]) (by rw [if_pos rfl, if_neg (by omega)])) (zc ⟨rfl, rfl, rfl, trivial⟩)
  generalize (ziN V x).1 = s1 at hC ⊢
  generalize (ziN V x).2 = s2 at hC ⊢
  have hT := x.toT_full
  rw [hT] at hC ⊢
  refine wI Tryz.func101 ?_
  repeat' (first | refine wC ?_ | refine wK ?_ | ((with_reducible refine ze ?_); refine wN (.tup [.t (.str s1), .t (.int .i64 s2)]) [] hC ?_))
  exact zm (zI rfl rfl rfl rfl rfl) (zc ⟨rfl, rfl, rfl, trivial⟩)
set_option maxHeartbeats 8000000 in
theorem zb9 {oF oA oP : Obj} {V : ByteArray → Bool} (hS : vm oF oA V) (ty : TypeId) (ef : FuncId) [FnB Tryz.prog ef] (s : ByteArray) (x : Nd) (hx : x.Ok) (r : Rs) (E : ByteArray × Int)
    (hE : r.bad = false → r.s = eS → x.validB V 8 = true → Spec Tryz.prog ef [.t x.toT] [(.par 100, .dat (.fix 0 oF)), (.par 101, .dat (.fix 1 oA)), (.par 102, .dat (.fix 2 oP))] (.tup [.t (.str E.1), .t (.int .i64 E.2)]) [(.par 100, .dat (.fix 0 oF)), (.par 101, .dat (.fix 1 oA)), (.par 102, .dat (.fix 2 oP))])
    (res : Nd × Int) (hres : res = if r.bad = false ∧ r.s = eS ∧ x.validB V 8 = true ∧ E = (s, 0) then (x, 0) else (Nd.zero, 4)) :
    Spec Tryz.prog 166 [.t (.str s), .t x.toT, .ref (.par 0) 0 0 0, .t (.fn ef)] [(.par 0, r.row ty), (.par 100, .dat (.fix 0 oF)), (.par 101, .dat (.fix 1 oA)), (.par 102, .dat (.fix 2 oP))] (.tup [.t res.1.toT, .t (.int .i64 res.2)]) [(.par 0, r.row ty), (.par 100, .dat (.fix 0 oF)), (.par 101, .dat (.fix 1 oA)), (.par 102, .dat (.fix 2 oP))] := by
  have hV := wm hS x hx
  have hT := x.toT_full
  obtain ⟨rs, bad⟩ := r
  obtain ⟨es, en⟩ := E
  unfold Rs.row
  simp only at hE hres ⊢
  have fail : res = (Nd.zero, 4) → res.1.toT = .agg [.int .i64 0, .bool false, .int .i64 0, .str ⟨#[]⟩, .sl 1 [], .sl 6 []] ∧ res.2 = 4 := fun h => by rw [h]; exact ⟨yR, rfl⟩
  cases bad with
  | true =>
    rw [if_neg (by simp)] at hres
    obtain ⟨f1, f2⟩ := fail hres
    rw [f1, f2, hT]
    refine wI Tryz.func166 ?_
    repeat' (first | refine wC ?_ | refine wK ?_ | fail)
    exact wE
  | false =>
    by_cases hrs : rs = eS
    · subst hrs
      cases hv : x.validB V 8 with
      | false =>
        rw [hv] at hV hres
        rw [if_neg (by simp)] at hres
        obtain ⟨f1, f2⟩ := fail hres
        rw [hT] at hV
        rw [f1, f2, hT]
        refine wI Tryz.func166 ?_
        repeat' (first | refine wC ?_ | refine wK ?_ | ((with_reducible refine ze ?_); refine wN (.t (.bool false)) [] hV ?_))
        all_goals try (exact absurd rfl hc)
        exact wE
      | true =>
        rw [hv] at hV hres
        replace hE := hE rfl rfl hv
        rw [hT] at hV hE
        by_cases h0 : en = 0
        · subst h0
          by_cases hs : es = s
          · subst hs
            rw [if_pos ⟨rfl, rfl, rfl, rfl⟩] at hres
            rw [hres]
            simp only
            rw [hT]
            refine wI Tryz.func166 ?_
            repeat' (first | refine wC ?_ | refine wK ?_ | ((with_reducible refine ze ?_); first | refine wN (.t (.bool true)) [] hV ?_ | refine wN (.tup [.t (.str es), .t (.int .i64 0)]) [] hE ?_) | refine xj rfl ?_ ?_ <;> intro hc)
            · exact wE
            all_goals exact absurd rfl hc
          · rw [if_neg (fun h => hs (congrArg (·.1) h.2.2.2))] at hres
            obtain ⟨f1, f2⟩ := fail hres
            rw [f1, f2, hT]
            refine wI Tryz.func166 ?_
            repeat' (first | refine wC ?_ | refine wK ?_ | ((with_reducible refine ze ?_); first | refine wN (.t (.bool true)) [] hV ?_ | refine wN (.tup [.t (.str es), .t (.int .i64 0)]) [] hE ?_) | refine xj rfl ?_ ?_ <;> intro hc)
            · exact absurd hc hs
            exact wE
        · rw [if_neg (fun h => h0 (congrArg (·.2) h.2.2.2))] at hres
          obtain ⟨f1, f2⟩ := fail hres
          rw [f1, f2, hT]
          refine wI Tryz.func166 ?_
          repeat' (first | refine wC ?_ | refine wK ?_ | ((with_reducible refine ze ?_); first | refine wN (.t (.bool true)) [] hV ?_ | refine wN (.tup [.t (.str es), .t (.int .i64 en)]) [] hE ?_) | refine xj rfl ?_ ?_ <;> intro hc | refine wq rfl ?_ ?_ <;> intro hc)
          all_goals try (exact absurd ‹en = 0› h0)
          all_goals exact wE
    · rw [if_neg (fun h => hrs h.2.1)] at hres
      obtain ⟨f1, f2⟩ := fail hres
      rw [f1, f2, hT]
      refine wI Tryz.func166 ?_
      repeat' (first | refine wC ?_ | refine wK ?_ | ((with_reducible refine ze ?_); exact absurd ‹_› hrs) | refine wq rfl ?_ ?_ <;> intro hc)
      exact wE
def jsR (s : ByteArray) : Nd × Rs := zR 8 ⟨s, false⟩
theorem zgN {V : ByteArray → Bool} (s : ByteArray) : zf5 jsC V s = if (jsR s).2.bad = false ∧ (jsR s).2.s = eS ∧ (jsR s).1.validB V 8 = true ∧ zb7 jsC V (jsR s).1 = (s, 0) then ((jsR s).1, 0) else (Nd.zero, 4) := rfl
set_option maxHeartbeats 8000000 in
theorem zg8 {oF oA oP oS oR : Obj} {V : ByteArray → Bool} (hS : vm oF oA V) (hPw : xk .u64 Lib.pow10Tab oP) (G : EOk oS oR) (s : ByteArray) (hs : s.size ≤ 1000000) : Spec Tryz.prog 102 [.t (.str s)] [(.par 100, .dat (.fix 0 oF)), (.par 101, .dat (.fix 1 oA)), (.par 102, .dat (.fix 2 oP)), (.par 103, .dat (.fix 3 oS)), (.par 104, .dat (.fix 4 oR))] (.tup [.t (zf5 jsC V s).1.toT, .t (.int .i64 (zf5 jsC V s).2)]) [(.par 100, .dat (.fix 0 oF)), (.par 101, .dat (.fix 1 oA)), (.par 102, .dat (.fix 2 oP)), (.par 103, .dat (.fix 3 oS)), (.par 104, .dat (.fix 4 oR))] := by
  have hR : Spec Tryz.prog 165 [.ref (.par 0) 0 0 0, .t (.int .i64 8)] [(.par 0, Rs.row 190 ⟨s, false⟩), (.par 103, .dat (.fix 3 oS)), (.par 104, .dat (.fix 4 oR))] (.t (jsR s).1.toT) [(.par 0, (jsR s).2.row 190), (.par 103, .dat (.fix 3 oS)), (.par 104, .dat (.fix 4 oR))] := zau G 8 (by omega) ⟨s, false⟩ hs
  have hle := kZ 1000000 (by omega) 8 ⟨s, false⟩ hs
  have hg : (jsR s).2.bad = false → (jsR s).1.jb.length ≤ 21 * s.size ∧ (jsR s).1.In := fun h => ⟨Nat.le_trans (Nat.le_add_right _ _) (xI 8 ⟨s, false⟩ h).2.1, (xI 8 ⟨s, false⟩ h).2.2⟩
  have hD := zgN (V := V) s
  have hF := zb9 (oP := oP) hS 190 101 s (jsR s).1 hle.2 (jsR s).2 (zb7 jsC V (jsR s).1) (fun h1 h2 h3 => by
    have := hg h1
    exact zcG hS hPw (jsR s).1 hle.2 this.2 (fun _ => by have h9 := this.1; omega)) (zf5 jsC V s) hD
  clear hD hg hle
  generalize zf5 jsC V s = res at hF ⊢
  generalize jsR s = y at hR hF
  obtain ⟨x, rs, rb⟩ := y
  obtain ⟨z, e⟩ := res
  have hT := x.toT_full
  have hZ := z.toT_full
  unfold Rs.row at hR hF
  simp only at hR hF ⊢
  rw [hT] at hR hF
  rw [hZ] at hF ⊢
  refine wI Tryz.func102 ?_
  repeat' (first | refine wC ?_ | refine wK ?_ | ((with_reducible refine ze ?_); first | refine wN (.t (.agg [.int .i64 x.kind, .bool x.bool, .int .i64 x.num, .str x.text, .sl 1 (x.names.map .str), .sl 6 (x.items.map Nd.toT)])) [(.par 0, .loc 9)] hR ?_ | refine wN (.tup [.t (.agg [.int .i64 z.kind, .bool z.bool, .int .i64 z.num, .str z.text, .sl 1 (z.names.map .str), .sl 6 (z.items.map Nd.toT)]), .t (.int .i64 e)]) [(.par 0, .loc 9)] hF ?_))
  exact wE
def zhJ : List (T × T) := [(.int .i64 1, .agg [.fn 101, .fn 102]), (.int .i64 2, .agg [.fn 103, .fn 104]), (.int .i64 3, .agg [.fn 50, .fn 105])]
theorem qE : yM (.int .i64) zhJ = true := by decide
set_option maxHeartbeats 2000000 in
theorem qn : Spec Tryz.prog 51 [] [] (.row (.res 0)) [(.res 0, .dat (.map zhJ))] := by
  refine wIG Tryz.func51 ?_
  repeat' (first | refine wC ?_ | refine wK ?_ | ((with_reducible refine zem ?_); refine zcV rfl rfl rfl rfl rfl rfl rfl rfl ?_ ?_))
  all_goals try rfl
  refine zk ((za [0] [.loc 1] rfl rfl).trans (zd (.loc 1) (.res 0) rfl rfl rfl rfl)) ?_
  exact zE (zm (zt rfl (AVLE.refl _)) (zc ⟨rfl, trivial⟩))
theorem zkD (h : Heap) : RepT h (Value.agg [Value.nilFunc, Value.nilFunc].toArray) (.agg [.nilf, .nilf]) := ⟨_, rfl, rfl, ⟨_, rfl, rfl, rfl⟩, ⟨_, rfl, rfl, rfl⟩, trivial⟩
theorem zfN {oF oA oP : Obj} (k : Int) (e d : FuncId) [FnB Tryz.prog e] (hk : vJ zhJ (.int .i64 k) = some (.agg [.fn e, .fn d])) (x : Nd) (a : ByteArray) (c : Int) (H : Spec Tryz.prog e [.t x.toT] [(.par 100, .dat (.fix 0 oF)), (.par 101, .dat (.fix 1 oA)), (.par 102, .dat (.fix 2 oP))] (.tup [.t (.str a), .t (.int .i64 c)]) [(.par 100, .dat (.fix 0 oF)), (.par 101, .dat (.fix 1 oA)), (.par 102, .dat (.fix 2 oP))]) :
    Spec Tryz.prog 16 [.t (.int .i64 k), .t x.toT] [(.par 100, .dat (.fix 0 oF)), (.par 101, .dat (.fix 1 oA)), (.par 102, .dat (.fix 2 oP))] (.tup [.t (.str a), .t (.int .i64 c)]) [(.par 100, .dat (.fix 0 oF)), (.par 101, .dat (.fix 1 oA)), (.par 102, .dat (.fix 2 oP))] := by
  have hW := qn
  have hKs := qE
  generalize zhJ = W at *
  rw [x.toT_full] at H ⊢
  generalize x.kind = yk at *
  generalize x.bool = yb at *
  generalize x.num = yn at *
  generalize x.text = yt at *
  generalize x.names = ym at *
  generalize x.items = yi at *
  refine wI Tryz.func16 ?_
  repeat' (first | refine wC ?_ | refine xi (y := .agg [.fn e, .fn d]) (zT := .agg [.nilf, .nilf]) rfl rfl rfl rfl hk zkD rfl rfl rfl rfl hKs ?_ | refine wK ?_ | ((with_reducible refine ze ?_); first | refine wN (.row (.loc 901)) [(.res 0, .loc 901)] hW ?_ | refine wN ((.tup [.t (.str a), .t (.int .i64 c)])) [] H ?_))
  all_goals exact zm (qc rfl (AVLE.refl _) (AVLE.refl _)) (zc ⟨rfl, rfl, rfl, trivial⟩)
theorem zaB {oF oA oP : Obj} (k : Int) (e d : FuncId) [FnB Tryz.prog e] (hk : vJ zhJ (.int .i64 k) = some (.agg [.fn e, .fn d])) (x : Nd) (a : ByteArray) (c : Int) (H : Spec Tryz.prog e [.t x.toT] [(.par 100, .dat (.fix 0 oF)), (.par 101, .dat (.fix 1 oA))] (.tup [.t (.str a), .t (.int .i64 c)]) [(.par 100, .dat (.fix 0 oF)), (.par 101, .dat (.fix 1 oA))]) :
    Spec Tryz.prog 16 [.t (.int .i64 k), .t x.toT] [(.par 100, .dat (.fix 0 oF)), (.par 101, .dat (.fix 1 oA)), (.par 102, .dat (.fix 2 oP))] (.tup [.t (.str a), .t (.int .i64 c)]) [(.par 100, .dat (.fix 0 oF)), (.par 101, .dat (.fix 1 oA)), (.par 102, .dat (.fix 2 oP))] := by
  have hW := qn
  have hKs := qE
  generalize zhJ = W at *
  rw [x.toT_full] at H ⊢
  generalize x.kind = yk at *
  generalize x.bool = yb at *
  generalize x.num = yn at *
  generalize x.text = yt at *
  generalize x.names = ym at *
  generalize x.items = yi at *
  refine wI Tryz.func16 ?_
  repeat' (first | refine wC ?_ | refine xi (y := .agg [.fn e, .fn d]) (zT := .agg [.nilf, .nilf]) rfl rfl rfl rfl hk zkD rfl rfl rfl rfl hKs ?_ | refine wK ?_ | ((with_reducible refine ze ?_); first | refine wN (.row (.loc 901)) [(.res 0, .loc 901)] hW ?_ | refine wN ((.tup [.t (.str a), .t (.int .i64 c)])) [] H ?_))
  all_goals exact zm (qc rfl (AVLE.refl _) (AVLE.refl _)) (zc ⟨rfl, rfl, rfl, trivial⟩)
theorem zfP {oF oA oP oS oR : Obj} (k : Int) (e d : FuncId) [FnB Tryz.prog d] (hk : vJ zhJ (.int .i64 k) = some (.agg [.fn e, .fn d])) (s : ByteArray) (y : Nd) (c : Int) (H : Spec Tryz.prog d [.t (.str s)] [(.par 100, .dat (.fix 0 oF)), (.par 101, .dat (.fix 1 oA)), (.par 102, .dat (.fix 2 oP)), (.par 103, .dat (.fix 3 oS)), (.par 104, .dat (.fix 4 oR))] (.tup [.t y.toT, .t (.int .i64 c)]) [(.par 100, .dat (.fix 0 oF)), (.par 101, .dat (.fix 1 oA)), (.par 102, .dat (.fix 2 oP)), (.par 103, .dat (.fix 3 oS)), (.par 104, .dat (.fix 4 oR))]) :
    Spec Tryz.prog 20 [.t (.int .i64 k), .t (.str s)] [(.par 100, .dat (.fix 0 oF)), (.par 101, .dat (.fix 1 oA)), (.par 102, .dat (.fix 2 oP)), (.par 103, .dat (.fix 3 oS)), (.par 104, .dat (.fix 4 oR))] (.tup [.t y.toT, .t (.int .i64 c)]) [(.par 100, .dat (.fix 0 oF)), (.par 101, .dat (.fix 1 oA)), (.par 102, .dat (.fix 2 oP)), (.par 103, .dat (.fix 3 oS)), (.par 104, .dat (.fix 4 oR))] := by
  have hW := qn
  have hKs := qE
  generalize zhJ = W at *
  rw [y.toT_full] at H ⊢
  generalize y.kind = yk at *
  generalize y.bool = yb at *
  generalize y.num = yn at *
  generalize y.text = yt at *
  generalize y.names = ym at *
  generalize y.items = yi at *
  refine wI Tryz.func20 ?_
  repeat' (first | refine wC ?_ | refine xi (y := .agg [.fn e, .fn d]) (zT := .agg [.nilf, .nilf]) rfl rfl rfl rfl hk zkD rfl rfl rfl rfl hKs ?_ | refine wK ?_ | ((with_reducible refine ze ?_); first | refine wN (.row (.loc 901)) [(.res 0, .loc 901)] hW ?_ | refine wN ((.tup [.t (.agg [.int .i64 yk, .bool yb, .int .i64 yn, .str yt, .sl 1 (ym.map .str), .sl 6 (yi.map Nd.toT)]), .t (.int .i64 c)])) [] H ?_))
  all_goals (exact wE)
theorem zaA {oF oA oP oS oR : Obj} (k : Int) (e d : FuncId) [FnB Tryz.prog d] (hk : vJ zhJ (.int .i64 k) = some (.agg [.fn e, .fn d])) (s : ByteArray) (y : Nd) (c : Int) (H : Spec Tryz.prog d [.t (.str s)] [(.par 100, .dat (.fix 0 oF)), (.par 101, .dat (.fix 1 oA))] (.tup [.t y.toT, .t (.int .i64 c)]) [(.par 100, .dat (.fix 0 oF)), (.par 101, .dat (.fix 1 oA))]) :
    Spec Tryz.prog 20 [.t (.int .i64 k), .t (.str s)] [(.par 100, .dat (.fix 0 oF)), (.par 101, .dat (.fix 1 oA)), (.par 102, .dat (.fix 2 oP)), (.par 103, .dat (.fix 3 oS)), (.par 104, .dat (.fix 4 oR))] (.tup [.t y.toT, .t (.int .i64 c)]) [(.par 100, .dat (.fix 0 oF)), (.par 101, .dat (.fix 1 oA)), (.par 102, .dat (.fix 2 oP)), (.par 103, .dat (.fix 3 oS)), (.par 104, .dat (.fix 4 oR))] := by
  have hW := qn
  have hKs := qE
  generalize zhJ = W at *
  rw [y.toT_full] at H ⊢
  generalize y.kind = yk at *
  generalize y.bool = yb at *
  generalize y.num = yn at *
  generalize y.text = yt at *
  generalize y.names = ym at *
  generalize y.items = yi at *
  refine wI Tryz.func20 ?_
  repeat' (first | refine wC ?_ | refine xi (y := .agg [.fn e, .fn d]) (zT := .agg [.nilf, .nilf]) rfl rfl rfl rfl hk zkD rfl rfl rfl rfl hKs ?_ | refine wK ?_ | ((with_reducible refine ze ?_); first | refine wN (.row (.loc 901)) [(.res 0, .loc 901)] hW ?_ | refine wN ((.tup [.t (.agg [.int .i64 yk, .bool yb, .int .i64 yn, .str yt, .sl 1 (ym.map .str), .sl 6 (yi.map Nd.toT)]), .t (.int .i64 c)])) [] H ?_))
  all_goals (exact wE)
end Go.AL
namespace Go.AL
open Go Go.RowKit
def zb6 : List Nd → Nat
  | [] => 0
  | x :: l => x.jb.length + 1 + zb6 l
theorem zeR : ∀ a b : List Nd, zb6 (a ++ b) = zb6 a + zb6 b
  | [], b => by simp [zb6]
  | x :: a, b => by simp only [List.cons_append, zb6, zeR a b]; omega
theorem zgC : Nd.zero.jb.length = 4 := by simp [Nd.zero, Nd.jb, zbO]
theorem za8 : ∀ m, zb6 (List.replicate m Nd.zero) = 5 * m
  | 0 => rfl
  | m + 1 => by simp only [List.replicate_succ, zb6, zgC, za8 m]; omega
theorem zgk {B : Nat} : ∀ {l : List Nd}, (∀ x ∈ l, x.jb.length ≤ B) → zb6 l ≤ l.length * (B + 1)
  | [], _ => by simp [zb6]
  | x :: l, h => by
    have h1 := h x (by simp)
    have h2 := zgk (l := l) (fun y hy => h y (by simp [hy]))
    simp only [zb6, List.length_cons, Nat.add_mul] at *; omega
theorem zgQ : ∀ (f : Bool) (l : List Nd), (Nd.jbs f l).length ≤ zb6 l
  | f, [] => by simp [Nd.jbs, zb6]
  | f, x :: l => by
    have := zgQ false l
    simp only [Nd.jbs, zb6, List.length_append]
    split <;> simp <;> omega
theorem zhm {C : Nat} : ∀ (f : Bool) (ns : List ByteArray) (l : List Nd), (∀ s ∈ ns, s.size ≤ C) → (Nd.jbm f ns l).length ≤ zb6 l + l.length * (6 * C + 3)
  | f, [], l, _ => by cases l <;> simp [Nd.jbm]
  | f, s :: ns, [], _ => by simp [Nd.jbm, zb6]
  | f, s :: ns, x :: l, h => by
    have h1 := h s (by simp)
    have h2 := zhm (C := C) false ns l (fun y hy => h y (by simp [hy]))
    have h3 := (zcS s).2
    have h4 : (l.length + 1) * (6 * C + 3) = l.length * (6 * C + 3) + (6 * C + 3) := by rw [Nat.add_mul, Nat.one_mul]
    simp only [Nd.jbm, zb6, List.length_append, List.length_cons, h4]
    split <;> simp <;> omega
theorem zju (k : Int) (hk : k = 4 ∨ k = 5) (f : Dc → Nd × Dc) (B : Nat) (hB : 1 ≤ B) (hf : ∀ d, (f d).1.jb.length ≤ B) (d : Dc) : (zda k f d).1.jb.length ≤ 3 * B + 500 := by
  have hq := d.next_lt 4 (by omega)
  have hl := vB f (d.next 4).1.toNat (d.next 4).2
  have ha := vx f (fun x => x.jb.length ≤ B) hf (d.next 4).1.toNat (d.next 4).2
  unfold zda
  simp only
  generalize yI f (d.next 4).1.toNat (d.next 4).2 = is at hl ha ⊢
  have hg : ∃ g : List Nd × Dc, (if (is.2.next 20).1 = 1 then x7 20 is.1 (is.2.next 20).2 else (is.1, (is.2.next 20).2)) = g ∧ g.1.length ≤ 17 ∧ zb6 g.1 ≤ 3 * B + 3 + 85 := by
    have hb := zgk (B := B) (l := is.1) ha
    have hb3 : is.1.length * (B + 1) ≤ 3 * (B + 1) := Nat.mul_le_mul_right _ (by omega)
    refine ⟨_, rfl, ?_⟩
    split
    · obtain ⟨m, h1, h2⟩ := vZ 20 is.1 (is.2.next 20).2 (by omega)
      rw [h1]
      refine ⟨by simp; omega, ?_⟩
      rw [zeR, za8]; omega
    · exact ⟨by simp only; omega, by simp only; omega⟩
  obtain ⟨g, e1, e2, e3⟩ := hg
  rw [e1]
  rcases hk with rfl | rfl
  · rw [show (Nd.mk 4 false 0 eS (if (4 : Int) = 5 then zH g.1.length 0 g.2 else ([], g.2)).1 g.1).jb = 91 :: (Nd.jbs true g.1 ++ [93]) by simp [Nd.jb]]
    have := zgQ true g.1
    simp only [List.length_cons, List.length_append, List.length_nil]; omega
  · have h3 := zhm (C := 3) true (zH g.1.length 0 g.2).1 g.1 (jC _ _ _)
    have h4 : g.1.length * (6 * 3 + 3) ≤ 17 * 21 := Nat.mul_le_mul_right _ e2
    rw [show (Nd.mk 5 false 0 eS (if (5 : Int) = 5 then zH g.1.length 0 g.2 else ([], g.2)).1 g.1).jb = 123 :: (Nd.jbm true (zH g.1.length 0 g.2).1 g.1 ++ [125]) by simp [Nd.jb]]
    simp only [List.length_cons, List.length_append, List.length_nil]; omega
theorem zbI (rec : Option (Dc → Nd × Dc)) (B : Nat) (hB : 1 ≤ B) (hB2 : rec = none ∨ 1600 ≤ 3 * B + 500) (hf : ∀ f, rec = some f → ∀ d, (f d).1.jb.length ≤ B) (d : Dc) : (vU rec d).1.jb.length ≤ max 1540 (3 * B + 500) := by
  unfold vU
  simp only
  split
  · simp only [Nd.jb, show ((1 : Int) = 0) = False from by simp, if_false, if_true]
    split <;> simp [qa, x4] <;> omega
  · split
    · have h := zep ((d.next 6).2.next 12).1.toNat
      have hn : ∀ n : Int, -9223372036854775808 ≤ n → n ≤ 9223372036854775807 → (Nd.mk 2 false n eS [] []).jb.length ≤ 21 := fun n h0 h1 => by
        rw [show (Nd.mk 2 false n eS [] []).jb = Lib.itoa n by simp [Nd.jb]]
        exact (k8 n h0 h1).2
      have := hn (if (((d.next 6).2.next 12).2.next 2).1 = 1 then -1 - wd.getD ((d.next 6).2.next 12).1.toNat 0 else wd.getD ((d.next 6).2.next 12).1.toNat 0) (by split <;> omega) (by split <;> omega)
      exact Nat.le_trans this (by omega)
    · split
      · have h := zbe (d.next 6).2
        rw [show (Nd.mk 3 false 0 (wM (d.next 6).2).1 [] []).jb = jQ (wM (d.next 6).2).1 by simp [Nd.jb]]
        have := (zcS (wM (d.next 6).2).1).2
        omega
      · split
        · rename_i hk
          split
          · rcases hk with h | h <;> rw [h] <;> simp [Nd.jb, Nd.jbs, Nd.jbm] <;> omega
          · rename_i f
            have := zju _ hk f B hB (hf f rfl) (d.next 6).2
            omega
        · rw [zgC]; omega
def kJ : Nat → Nat
  | 0 => 1540
  | 1 => 1540
  | n + 2 => 3 * kJ (n + 1) + 500
theorem zkr : ∀ n, 1540 ≤ kJ n
  | 0 => by decide
  | 1 => by decide
  | n + 2 => by have := zkr (n + 1); simp only [kJ]; omega
theorem zeJ : ∀ (n : Nat) (d : Dc), (kS n d).1.jb.length ≤ kJ n
  | 0, d => by
    have := zbI none 1 (by omega) (.inl rfl) (by simp) d
    exact Nat.le_trans this (by decide)
  | 1, d => by
    have := zbI none 1 (by omega) (.inl rfl) (by simp) d
    exact Nat.le_trans this (by decide)
  | n + 2, d => by
    have h := zkr (n + 1)
    have := zbI (some (kS (n + 1))) (kJ (n + 1)) (by omega) (.inr (by omega)) (by
      rintro f h
      cases h
      exact fun d => zeJ (n + 1) d) d
    exact Nat.le_trans this (by simp only [kJ]; omega)
end Go.AL
namespace Go.AL
open Go Go.Proofs Go.RowKit
def zjU (x : Nd) (k : Int) : ByteArray := if k = 1 then ofL (jsC.E x) else if k = 2 then ofL x.cb else ofL (pkC.E x)
theorem ziP {k : Int} (h1 : 1 ≤ k) (h3 : k ≤ 3) : k = 1 ∨ k = 2 ∨ k = 3 := by omega
theorem zg5 (j : Nat) (o : Int) (hj : j < 3) (ho : 0 ≤ o ∧ o < 256) : 1 ≤ IntKind.i64.wrap (1 + (IntKind.i64.wrap (IntKind.i64.wrap ((j : Int) * IntKind.i64.wrap (1 + (IntKind.i64.wrap o).tmod 2)) + IntKind.i64.wrap ((IntKind.i64.wrap o).tdiv 2))).tmod 3) ∧ IntKind.i64.wrap (1 + (IntKind.i64.wrap (IntKind.i64.wrap ((j : Int) * IntKind.i64.wrap (1 + (IntKind.i64.wrap o).tmod 2)) + IntKind.i64.wrap ((IntKind.i64.wrap o).tdiv 2))).tmod 3) ≤ 3 := by
  have w1 : IntKind.i64.wrap o = o := zy (by omega) (by omega)
  rw [w1, Int.tmod_eq_emod_of_nonneg ho.1, Int.tdiv_eq_ediv_of_nonneg ho.1]
  have w2 : IntKind.i64.wrap (1 + o % 2) = 1 + o % 2 := zy (by omega) (by omega)
  have w3 : IntKind.i64.wrap (o / 2) = o / 2 := zy (by omega) (by omega)
  have hm : 0 ≤ (j : Int) * (1 + o % 2) ∧ (j : Int) * (1 + o % 2) ≤ 4 := by
    have : j = 0 ∨ j = 1 ∨ j = 2 := by omega
    rcases this with rfl | rfl | rfl <;> omega
  rw [w2, w3, zy (n := (j : Int) * (1 + o % 2)) (by omega) (by omega), zy (n := (j : Int) * (1 + o % 2) + o / 2) (by omega) (by omega), Int.tmod_eq_emod_of_nonneg (by omega), zy (by omega) (by omega)]
  omega
theorem zhV {oF oA oP : Obj} {V : ByteArray → Bool} (hS : vm oF oA V) (hP : xk .u64 Lib.pow10Tab oP) (x : Nd) (hx : x.Ok) (hin : x.In) (hv : x.validB V 8 = true) (z1 : (jsC.E x).length ≤ 65536) (z2 : x.cb.length ≤ 65536) (z3 : (pkC.E x).length ≤ 65536) (k : Int) (h1 : 1 ≤ k) (h3 : k ≤ 3) :
    Spec Tryz.prog 16 [.t (.int .i64 k), .t x.toT] [(.par 100, .dat (.fix 0 oF)), (.par 101, .dat (.fix 1 oA)), (.par 102, .dat (.fix 2 oP))] (.tup [.t (.str (zjU x k)), .t (.int .i64 0)]) [(.par 100, .dat (.fix 0 oF)), (.par 101, .dat (.fix 1 oA)), (.par 102, .dat (.fix 2 oP))] := by
  rcases ziP h1 h3 with rfl | rfl | rfl
  · have h := zcG hS hP x hx hin (fun _ => by have : x.jb.length ≤ 65536 := z1; omega)
    rw [zg1, zbY (C := jsC) hv z1] at h
    exact zfN 1 _ _ rfl x _ _ h
  · have h := zcE hS x hx hin (fun _ => by omega)
    rw [zjA hv z2] at h
    exact zaB 2 _ _ rfl x _ _ h
  · have h := qA hS x hx hin (fun _ => by have : x.pb.length ≤ 65536 := z3; omega)
    rw [zbY (C := pkC) hv z3] at h
    exact zaB 3 _ _ rfl x _ _ h
theorem zhQ {oF oA oP oS oR : Obj} {V : ByteArray → Bool} (hS : vm oF oA V) (hP : xk .u64 Lib.pow10Tab oP) (G : EOk oS oR) (x : Nd) (hin : x.In) (hv : x.validB V 8 = true) (z1 : (jsC.E x).length ≤ 65536) (z2 : x.cb.length ≤ 65536) (z3 : (pkC.E x).length ≤ 65536) (k : Int) (h1 : 1 ≤ k) (h3 : k ≤ 3) :
    Spec Tryz.prog 20 [.t (.int .i64 k), .t (.str (zjU x k))] [(.par 100, .dat (.fix 0 oF)), (.par 101, .dat (.fix 1 oA)), (.par 102, .dat (.fix 2 oP)), (.par 103, .dat (.fix 3 oS)), (.par 104, .dat (.fix 4 oR))] (.tup [.t x.toT, .t (.int .i64 0)]) [(.par 100, .dat (.fix 0 oF)), (.par 101, .dat (.fix 1 oA)), (.par 102, .dat (.fix 2 oP)), (.par 103, .dat (.fix 3 oS)), (.par 104, .dat (.fix 4 oR))] := by
  rcases ziP h1 h3 with rfl | rfl | rfl
  · have h := zg8 hS hP G (ofL (jsC.E x)) (by rw [yA]; omega)
    rw [zcD (C := jsC) hv hin z1] at h
    exact zfP 1 _ _ rfl _ x 0 h
  · have h := zg4 hS (ofL x.cb) (by rw [yA]; omega)
    rw [zgl hv hin z2] at h
    exact zaA 2 _ _ rfl _ x 0 h
  · have h := zg7 hS (ofL (pkC.E x)) (by rw [yA]; omega)
    rw [zcD (C := pkC) hv hin z3] at h
    exact zaA 3 _ _ rfl _ x 0 h
set_option maxHeartbeats 16000000 in
theorem zae {oF oA oP oS oR : Obj} {V : ByteArray → Bool} (hS : vm oF oA V) (hP : xk .u64 Lib.pow10Tab oP) (G : EOk oS oR) (hV : VOk V) (l : List Int) (o : Int) (ho : 0 ≤ o ∧ o < 256) : Spec Tryz.prog 4 [.t (.sl 1 (l.map (T.int .i64))), .t (.int .u8 o)] [(.par 100, .dat (.fix 0 oF)), (.par 101, .dat (.fix 1 oA)), (.par 102, .dat (.fix 2 oP)), (.par 103, .dat (.fix 3 oS)), (.par 104, .dat (.fix 4 oR))] (.t (.bool true)) [(.par 100, .dat (.fix 0 oF)), (.par 101, .dat (.fix 1 oA)), (.par 102, .dat (.fix 2 oP)), (.par 103, .dat (.fix 3 oS)), (.par 104, .dat (.fix 4 oR))] := by
  have hA := zd3 hS hV
  have hL := zfq l
  by_cases hl : (l.length : Int) ≤ 500
  · rw [decide_eq_true hl] at hL
    have hR := zhh l
    have hd0 : (Dc.mk l 0).l = l := rfl
    have hX := zay 4 (by omega) (Dc.mk l 0) (by rw [hd0]; omega)
    have vX := ze2 hV 4 (Dc.mk l 0) 8 (by omega) (by omega)
    have cX := zeu 4 (Dc.mk l 0)
    have jX : (jsC.E (kS 4 (Dc.mk l 0)).1).length ≤ 65536 := Nat.le_trans (zeJ 4 (Dc.mk l 0)) (by decide)
    generalize kS 4 (Dc.mk l 0) = q1 at hX vX cX jX
    obtain ⟨x, d1⟩ := q1
    simp only at hX vX cX jX
    have o1 := Nd.ok_of_valid x 8 vX
    have z2 : x.cb.length ≤ 65536 := Nat.le_trans cX.1 (by decide)
    have z3 : (pkC.E x).length ≤ 65536 := by
      have h1 : x.pb.length ≤ 3 * x.cb.length := zi4 x
      have h2 : x.cb.length ≤ 12081 := Nat.le_trans cX.1 (by decide)
      show x.pb.length ≤ 65536
      omega
    have hE := zhV hS hP x o1 cX.2 vX jX z2 z3
    have hD := zhQ hS hP G x cX.2 vX jX z2 z3
    have hQ := zfn x o1 x
    rw [Nd.same_refl] at hQ
    generalize zjU x = B at hE hD
    clear vX cX jX z2 z3 o1
    rw [x.toT_full] at hX hE hD hQ
    generalize x.kind = yk at *
    generalize x.bool = yb at *
    generalize x.num = yn at *
    generalize x.text = yt at *
    generalize x.names = ym at *
    generalize x.items = yi at *
    unfold Dc.row at hR hX
    refine wI Tryz.func4 ?_
    repeat' (first | refine wC ?_ | refine wK ?_ | ((with_reducible refine ze ?_); first | refine wL hL ?_ | refine wN (.ref (.loc 900) 0 0 0) [(.res 0, .loc 900)] hR ?_ | refine wN (.t (.agg [.int .i64 yk, .bool yb, .int .i64 yn, .str yt, .sl 1 (ym.map .str), .sl 6 (yi.map Nd.toT)])) [(.par 0, .loc 900)] hX ?_))
    refine zi (za [1, 4, 5, 6, 21] [.loc 5, .loc 6, .par 100, .par 101, .par 102, .par 103, .par 104] rfl rfl) ?_
    refine zw (fun q env st => ∃ (j : Nat), j ≤ 3 ∧ q = 3 - j ∧ env = EnvL.get [(1, .t (.int .u8 o)), (4, .t (.bool false)), (5, .ref (.loc 5) 0 0 0), (6, .ref (.loc 6) 0 0 0), (21, .t (.int .i64 (j : Int)))] ∧
        st = StO.get [(.loc 5, some (.var 30 [.t (.int .i64 yk), .t (.bool yb), .t (.int .i64 yn), .t (.str yt), .t (.sl 1 (ym.map .str)), .t (.sl 6 (yi.map Nd.toT))])), (.loc 6, some (.var 30 [.t (.int .i64 yk), .t (.bool yb), .t (.int .i64 yn), .t (.str yt), .t (.sl 1 (ym.map .str)), .t (.sl 6 (yi.map Nd.toT))])), (.par 100, some (.dat (.fix 0 oF))), (.par 101, some (.dat (.fix 1 oA))), (.par 102, some (.dat (.fix 2 oP))), (.par 103, some (.dat (.fix 3 oS))), (.par 104, some (.dat (.fix 4 oR)))])
      ?_ (n := 3) ⟨0, by omega, rfl, rfl, rfl⟩
    rintro q env st ⟨j, hj, rfl, rfl, rfl⟩
    have wj : IntKind.i64.wrap ((j : Int) + 1) = ((j + 1 : Nat) : Int) := by rw [zy (by omega) (by omega)]; omega
    by_cases hlt : j < 3
    · repeat' (first | refine wC ?_ | (exfalso; omega) | refine wK ?_ | ((with_reducible refine ze ?_); first | refine wP (r' := .tup [.t (.str (B _)), .t (.int .i64 0)]) [] rfl rfl (hE _ ?_ ?_) (ArgsLE.refl _) rfl ⟨rfl, rfl, rfl, trivial⟩ rfl rfl rfl rfl rfl rfl rfl rfl rfl rfl ?_ | refine wP (r' := .tup [.t (.agg [.int .i64 yk, .bool yb, .int .i64 yn, .str yt, .sl 1 (ym.map .str), .sl 6 (yi.map Nd.toT)]), .t (.int .i64 0)]) [] rfl rfl (hD _ ?_ ?_) (ArgsLE.refl _) rfl ⟨rfl, rfl, rfl, rfl, rfl, trivial⟩ rfl rfl rfl rfl rfl rfl rfl rfl rfl rfl ?_) | refine zh rfl ?_ ?_ <;> intro hc)
      all_goals first | exact (zg5 j o hlt ho).1 | exact (zg5 j o hlt ho).2 | skip
      all_goals exact zM (n' := 3 - (j + 1)) (by omega) (za [1, 4, 5, 6, 21] [.loc 5, .loc 6, .par 100, .par 101, .par 102, .par 103, .par 104] rfl rfl) ⟨j + 1, by omega, rfl, by rw [wj]; rfl, rfl⟩
    · obtain rfl : j = 3 := by omega
      repeat' (first | refine wC ?_ | refine wK ?_ | ((with_reducible refine ze ?_); first | refine wN ((.t (.bool true))) [] hA ?_ | refine wL hQ ?_))
      all_goals exact zm (zj rfl rfl rfl) (zc ⟨rfl, rfl, rfl, rfl, rfl, trivial⟩)
  · rw [decide_eq_false hl] at hL
    refine wI Tryz.func4 ?_
    repeat' (first | refine wC ?_ | refine wK ?_ | ((with_reducible refine ze ?_); first | refine wL hL ?_ | refine wN ((.t (.bool true))) [] hA ?_))
    all_goals exact zm (zj rfl rfl rfl) (zc ⟨rfl, rfl, rfl, rfl, rfl, trivial⟩)
mutual
theorem Nd.noG : ∀ x : Nd, x.toT.noG = true
  | .mk k b n t ns is => by simp [Nd.toT, T.noG, T.noGL, zeM, Nd.noGs is]
theorem Nd.noGs : ∀ l : List Nd, T.noGL (Nd.toTs l) = true
  | [] => rfl
  | x :: xs => by simp [Nd.toTs, T.noGL, Nd.noG x, Nd.noGs xs]
end
def zkE : List Int := [1, 10, 100, 1000, 10000, 100000, 1000000, 10000000, 100000000, 1000000000, 10000000000, 100000000000, 1000000000000, 10000000000000, 100000000000000, 1000000000000000, 10000000000000000, 100000000000000000, 1000000000000000000, 10000000000000000000]
theorem zjS : zkE = Lib.pow10Tab := by decide
theorem zkn {oP : Obj} (h : xk .u64 zkE oP) : xk .u64 Lib.pow10Tab oP := by rw [← zjS]; exact h
end Go.AL
