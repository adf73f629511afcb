/- What functions of the program and of the document answer, and the plain laws behind it; each under the conditions that its own theorem names. -/
import Derived.Test.YtmidabiehblekaaGreatDoorTh
import Derived.Test.YtmidabiehblekaaGreatDoorTb
import Derived.Test.YtmidabiehblekaaGreatDoorAl3
import Derived.Test.YtmidabiehblekaaGreatDoorAl4
import Derived.Test.YtmidabiehblekaaGreatDoorTc
import Derived.Test.YtmidabiehblekaaGreatDoorTe
import Derived.Test.YtmidabiehblekaaGreatDoorTf
set_option linter.unusedVariables false
namespace Go.AL
open Go Go.Proofs Go.RowKit
set_option maxHeartbeats 16000000 in
theorem zju {oP : Obj} (b : Bool) (n : Int) (t : ByteArray) (ns : List ByteArray) (is : List Nd) (hlen : is.length ≤ 256) (es : List T) (hb : es.length + (xz 4 ns is is.length).length + 2 ≤ 50000000)
    (IH : ∀ i, i < is.length → ∀ es' : List T, es'.length + (is.getD i default).jb.length ≤ 50000000 → Spec Tryz.prog 164 [.row (.par 0), .t (is.getD i default).toT] [(.par 0, .slt 5 1 es'), (.par 102, .dat (.fix 2 oP))] (.row (.res 0)) [(.res 0, .slt 5 1 (es' ++ u8L (is.getD i default).jb)), (.par 102, .dat (.fix 2 oP))]) :
    Spec Tryz.prog 164 [.row (.par 0), .t (.agg [.int .i64 4, .bool b, .int .i64 n, .str t, .sl 1 (ns.map .str), .sl 6 (is.map Nd.toT)])] [(.par 0, .slt 5 1 es), (.par 102, .dat (.fix 2 oP))] (.row (.res 0)) [(.res 0, .slt 5 1 (es ++ u8L (91 :: (xz 4 ns is is.length ++ [93])))), (.par 102, .dat (.fix 2 oP))] := by
  refine wIG Tryz.func164 ?_
  repeat' (first | refine wC ?_ | refine wK ?_ | ((with_reducible refine zy ?_); refine zf rfl rfl rfl rfl rfl rfl ?_ ?_ ?_) | ((with_reducible refine zw ?_); refine zh rfl rfl rfl rfl rfl rfl rfl rfl rfl rfl ?_ ?_ ?_))
  all_goals try (simp only [List.length_singleton]; omega)
  all_goals try decide
  refine zl ((za [0, 3, 5, 41, 42, 43] [.loc 3, .par 102, .loc 39] rfl rfl).trans (zg (.loc 39) (.loc 900) rfl rfl rfl rfl)) ?_
  refine zz (fun p env st => ∃ (i : Nat), i ≤ is.length ∧ p = is.length - i ∧
      env = EnvL.get [(0, .row (.loc 900)), (3, .ref (.loc 3) 0 0 0), (5, .t (.str ⟨#[91, 93]⟩)), (41, .t (.sl 6 (is.map Nd.toT))), (42, .t (.int .i64 (is.length : Int))), (43, .t (.int .i64 (i : Int)))] ∧
      st = StO.get [(.loc 3, some (.var 30 [.t (.int .i64 4), .t (.bool b), .t (.int .i64 n), .t (.str t), .t (.sl 1 (ns.map .str)), .t (.sl 6 (is.map Nd.toT))])), (.par 102, some (.dat (.fix 2 oP))), (.loc 900, some (.slt 5 1 (es ++ u8L (91 :: xz 4 ns is i))))])
    ?_ (n := is.length) ⟨0, by omega, rfl, rfl, rfl⟩
  rintro p env st ⟨i, hi, rfl, rfl, rfl⟩
  have wi : IntKind.i64.wrap ((i : Int) + 1) = ((i + 1 : Nat) : Int) := by rw [zr (by omega) (by omega)]; omega
  have hle0 : (xz 4 ns is i).length ≤ (xz 4 ns is is.length).length := wR (fun h => by omega) (by omega) (by omega)
  by_cases hlt : i < is.length
  · have hle : (xz 4 ns is (i + 1)).length ≤ (xz 4 ns is is.length).length := wR (fun h => by omega) (by omega) (by omega)
    have hT := (is.getD i default).toT_full
    have hIH := IH i hlt
    have hT2 : (is.getD (i : Int).toNat default).toT = _ := hT
    rw [hT] at hIH
    rw [q7 (by decide) hlt] at hle
    obtain ⟨X, hX⟩ : ∃ X, X = es ++ u8L (91 :: xz 4 ns is i) := ⟨_, rfl⟩
    have hXl : X.length = es.length + 1 + (xz 4 ns is i).length := by rw [hX, List.length_append, zZ, List.length_cons]; omega
    have hnext : es ++ u8L (91 :: xz 4 ns is (i + 1)) = X ++ u8L ((if i = 0 then [] else [44]) ++ (is.getD i default).jb) := by
      rw [hX, q7 (by decide) hlt, List.append_assoc, ← zP]; rfl
    rw [← hX]
    clear hX
    simp only [List.length_append] at hle
    generalize is.getD i default = x at *
    by_cases h0 : i = 0
    · rw [if_pos h0] at hnext hle
      rw [List.nil_append] at hnext
      have hP2 := hIH (X) (by simp only [List.length_append, List.length_singleton, List.length_nil] at hle ⊢; omega)
      repeat' (first | refine wC ?_ | (exfalso; omega) | refine zR rfl rfl hT2 rfl rfl rfl rfl rfl rfl ?_ | refine wK ?_ | ((with_reducible refine zA ?_); refine zq rfl rfl rfl rfl rfl rfl ?_ ?_ ?_) | ((with_reducible refine ze ?_); refine wN (.row (.loc 906)) [(.par 0, .loc 900), (.res 0, .loc 906)] hP2 ?_) | refine zd rfl ?_ ?_ <;> intro hc)
      all_goals try (simp only [List.length_append, List.length_singleton]; omega)
      all_goals try (simp only [List.length_map]; omega)
      all_goals try omega
      exact zI (n' := is.length - (i + 1)) (by omega) ((za [0, 3, 5, 41, 42, 43] [.loc 3, .par 102, .loc 906] rfl rfl).trans (zg (.loc 906) (.loc 900) rfl rfl rfl rfl)) ⟨i + 1, by omega, rfl, by rw [wi]; rfl, by rw [hnext]; rfl⟩
    · rw [if_neg h0] at hnext hle
      have hP2 := hIH (X ++ [T.int .u8 44]) (by simp only [List.length_append, List.length_singleton, List.length_nil] at hle ⊢; omega)
      rw [zP, ← List.append_assoc] at hnext
      repeat' (first | refine wC ?_ | (exfalso; omega) | refine zR rfl rfl hT2 rfl rfl rfl rfl rfl rfl ?_ | refine wK ?_ | ((with_reducible refine zA ?_); refine zq rfl rfl rfl rfl rfl rfl ?_ ?_ ?_) | ((with_reducible refine zw ?_); refine zh rfl rfl rfl rfl rfl rfl rfl rfl rfl rfl ?_ ?_ ?_) | ((with_reducible refine ze ?_); refine wN (.row (.loc 906)) [(.par 0, .loc 52), (.res 0, .loc 906)] hP2 ?_) | refine zd rfl ?_ ?_ <;> intro hc)
      all_goals try (simp only [List.length_append, List.length_singleton]; omega)
      all_goals try (simp only [List.length_map]; omega)
      all_goals try omega
      exact zI (n' := is.length - (i + 1)) (by omega) ((za [0, 3, 5, 41, 42, 43] [.loc 3, .par 102, .loc 906] rfl rfl).trans (zg (.loc 906) (.loc 900) rfl rfl rfl rfl)) ⟨i + 1, by omega, rfl, by rw [wi]; rfl, by rw [hnext]; rfl⟩
  · obtain rfl : i = is.length := by omega
    have e : es ++ u8L (91 :: xz 4 ns is is.length) ++ [T.int .u8 93] = es ++ u8L (91 :: (xz 4 ns is is.length ++ [93])) := by
      rw [List.append_assoc]
      congr 1
      show u8L _ ++ u8L [93] = _
      rw [← zP]; rfl
    have hXl : (es ++ u8L (91 :: xz 4 ns is is.length)).length ≤ 50000000 := by rw [List.length_append, zZ, List.length_cons]; omega
    rw [← e]
    generalize es ++ u8L (91 :: xz 4 ns is is.length) = X at *
    repeat' (first | refine wC ?_ | (exfalso; omega) | refine wK ?_ | ((with_reducible refine zy ?_); refine zf rfl rfl rfl rfl rfl rfl ?_ ?_ ?_) | ((with_reducible refine zw ?_); refine zh rfl rfl rfl rfl rfl rfl rfl rfl rfl rfl ?_ ?_ ?_) | refine zd rfl ?_ ?_ <;> intro hc)
    all_goals try (simp only [List.length_singleton]; omega)
    all_goals try decide
    refine zv ((za [4] [.par 102, .loc 73] rfl rfl).trans (zg (.loc 73) (.res 0) rfl rfl rfl rfl)) ?_
    exact zL (zp (zK rfl (AVLE.of_eq rfl)) (zc ⟨rfl, rfl, trivial⟩))
set_option maxHeartbeats 16000000 in
theorem zlp {oP : Obj} (b : Bool) (n : Int) (t : ByteArray) (ns : List ByteArray) (is : List Nd) (hlen : is.length ≤ 256) (hl5 : ns.length = is.length) (hns : ∀ s ∈ ns, s.size ≤ 65536) (es : List T) (hb : es.length + (xz 5 ns is is.length).length + 2 ≤ 50000000)
    (IH : ∀ i, i < is.length → ∀ es' : List T, es'.length + (is.getD i default).jb.length ≤ 50000000 → Spec Tryz.prog 164 [.row (.par 0), .t (is.getD i default).toT] [(.par 0, .slt 5 1 es'), (.par 102, .dat (.fix 2 oP))] (.row (.res 0)) [(.res 0, .slt 5 1 (es' ++ u8L (is.getD i default).jb)), (.par 102, .dat (.fix 2 oP))]) :
    Spec Tryz.prog 164 [.row (.par 0), .t (.agg [.int .i64 5, .bool b, .int .i64 n, .str t, .sl 1 (ns.map .str), .sl 6 (is.map Nd.toT)])] [(.par 0, .slt 5 1 es), (.par 102, .dat (.fix 2 oP))] (.row (.res 0)) [(.res 0, .slt 5 1 (es ++ u8L (123 :: (xz 5 ns is is.length ++ [125])))), (.par 102, .dat (.fix 2 oP))] := by
  refine wIG Tryz.func164 ?_
  repeat' (first | refine wC ?_ | refine wK ?_ | ((with_reducible refine zy ?_); refine zf rfl rfl rfl rfl rfl rfl ?_ ?_ ?_) | ((with_reducible refine zw ?_); refine zh rfl rfl rfl rfl rfl rfl rfl rfl rfl rfl ?_ ?_ ?_))
  all_goals try (simp only [List.length_singleton]; omega)
  all_goals try decide
  refine zl ((za [0, 3, 5, 41, 42, 43] [.loc 3, .par 102, .loc 39] rfl rfl).trans (zg (.loc 39) (.loc 900) rfl rfl rfl rfl)) ?_
  refine zz (fun p env st => ∃ (i : Nat), i ≤ is.length ∧ p = is.length - i ∧
      env = EnvL.get [(0, .row (.loc 900)), (3, .ref (.loc 3) 0 0 0), (5, .t (.str ⟨#[123, 125]⟩)), (41, .t (.sl 6 (is.map Nd.toT))), (42, .t (.int .i64 (is.length : Int))), (43, .t (.int .i64 (i : Int)))] ∧
      st = StO.get [(.loc 3, some (.var 30 [.t (.int .i64 5), .t (.bool b), .t (.int .i64 n), .t (.str t), .t (.sl 1 (ns.map .str)), .t (.sl 6 (is.map Nd.toT))])), (.par 102, some (.dat (.fix 2 oP))), (.loc 900, some (.slt 5 1 (es ++ u8L (123 :: xz 5 ns is i))))])
    ?_ (n := is.length) ⟨0, by omega, rfl, rfl, rfl⟩
  rintro p env st ⟨i, hi, rfl, rfl, rfl⟩
  have wi : IntKind.i64.wrap ((i : Int) + 1) = ((i + 1 : Nat) : Int) := by rw [zr (by omega) (by omega)]; omega
  have hle0 : (xz 5 ns is i).length ≤ (xz 5 ns is is.length).length := wR (fun _ => hl5) (by omega) (by omega)
  by_cases hlt : i < is.length
  · have hle : (xz 5 ns is (i + 1)).length ≤ (xz 5 ns is is.length).length := wR (fun _ => hl5) (by omega) (by omega)
    have hT := (is.getD i default).toT_full
    have hIH := IH i hlt
    have hT2 : (is.getD (i : Int).toNat default).toT = _ := hT
    rw [hT] at hIH
    rw [ju hl5 hlt] at hle
    obtain ⟨X, hX⟩ : ∃ X, X = es ++ u8L (123 :: xz 5 ns is i) := ⟨_, rfl⟩
    have hXl : X.length = es.length + 1 + (xz 5 ns is i).length := by rw [hX, List.length_append, zZ, List.length_cons]; omega
    have hnext : es ++ u8L (123 :: xz 5 ns is (i + 1)) = X ++ u8L ((if i = 0 then [] else [44]) ++ (jQ (ns.getD i default) ++ (58 :: (is.getD i default).jb))) := by
      rw [hX, ju hl5 hlt, List.append_assoc, ← zP]; rfl
    rw [← hX]
    clear hX
    have hsz : (ns.getD i default).size ≤ 65536 := hns _ (by rw [List.getD_eq_getElem?_getD, List.getElem?_eq_getElem (by omega)]; simp)
    have hjl := zaH (ns.getD i default)
    have hnn : i < ns.length := by omega
    simp only [List.length_append, List.length_cons] at hle
    generalize hS : ns.getD i default = S at *
    have hS2 : ns.getD (i : Int).toNat default = S := hS
    generalize is.getD i default = x at *
    by_cases h0 : i = 0
    · rw [if_pos h0] at hnext hle
      rw [List.nil_append] at hnext
      have hQ := kN (X) S (by first | omega | (simp only [List.length_append, List.length_singleton]; omega))
      have hP2 := hIH (X ++ u8L (jQ S) ++ [T.int .u8 58]) (by simp only [List.length_append, List.length_singleton, List.length_cons, List.length_nil, zZ] at hle ⊢; omega)
      rw [← hS2] at hQ
      have hN2 : X ++ u8L (jQ S ++ 58 :: x.jb) = X ++ u8L (jQ S) ++ [T.int .u8 58] ++ u8L x.jb := by
        rw [show jQ S ++ 58 :: x.jb = jQ S ++ ([58] ++ x.jb) from rfl]
        simp only [zP, List.append_assoc]; rfl
      rw [hN2] at hnext
      have hlq : (u8L (jQ S)).length ≤ 393300 := by rw [zZ]; omega
      rw [← hS2] at hP2 hnext hlq
      generalize u8L (jQ (ns.getD (i : Int).toNat default)) = Q at hQ hP2 hnext hlq
      repeat' (first | refine wC ?_ | (exfalso; omega) | refine zR rfl rfl hT2 rfl rfl rfl rfl rfl rfl ?_ | refine wK ?_ | ((with_reducible refine zA ?_); refine zq rfl rfl rfl rfl rfl rfl ?_ ?_ ?_) | ((with_reducible refine zw ?_); refine zh rfl rfl rfl rfl rfl rfl rfl rfl rfl rfl ?_ ?_ ?_) | ((with_reducible refine ze ?_); first | refine wN (.row (.loc 905)) [(.par 0, .loc 900), (.res 0, .loc 905)] hQ ?_ | refine wN (.row (.loc 906)) [(.par 0, .loc 64), (.res 0, .loc 906)] hP2 ?_) | refine zd rfl ?_ ?_ <;> intro hc)
      all_goals try (simp only [List.length_append, List.length_singleton]; omega)
      all_goals try (simp only [List.length_map]; omega)
      all_goals try omega
      exact zI (n' := is.length - (i + 1)) (by omega) ((za [0, 3, 5, 41, 42, 43] [.loc 3, .par 102, .loc 906] rfl rfl).trans (zg (.loc 906) (.loc 900) rfl rfl rfl rfl)) ⟨i + 1, by omega, rfl, by rw [wi]; rfl, by rw [hnext]; rfl⟩
    · rw [if_neg h0] at hnext hle
      have hQ := kN (X ++ [T.int .u8 44]) S (by first | omega | (simp only [List.length_append, List.length_singleton]; omega))
      have hP2 := hIH (X ++ [T.int .u8 44] ++ u8L (jQ S) ++ [T.int .u8 58]) (by simp only [List.length_append, List.length_singleton, List.length_cons, List.length_nil, zZ] at hle ⊢; omega)
      rw [← hS2] at hQ
      have hN2 : X ++ u8L ([44] ++ (jQ S ++ 58 :: x.jb)) = X ++ [T.int .u8 44] ++ u8L (jQ S) ++ [T.int .u8 58] ++ u8L x.jb := by
        rw [show [44] ++ (jQ S ++ 58 :: x.jb) = [44] ++ (jQ S ++ ([58] ++ x.jb)) from rfl]
        simp only [zP, List.append_assoc]; rfl
      rw [hN2] at hnext
      have hlq : (u8L (jQ S)).length ≤ 393300 := by rw [zZ]; omega
      rw [← hS2] at hP2 hnext hlq
      generalize u8L (jQ (ns.getD (i : Int).toNat default)) = Q at hQ hP2 hnext hlq
      repeat' (first | refine wC ?_ | (exfalso; omega) | refine zR rfl rfl hT2 rfl rfl rfl rfl rfl rfl ?_ | refine wK ?_ | ((with_reducible refine zA ?_); refine zq rfl rfl rfl rfl rfl rfl ?_ ?_ ?_) | ((with_reducible refine zw ?_); refine zh rfl rfl rfl rfl rfl rfl rfl rfl rfl rfl ?_ ?_ ?_) | ((with_reducible refine ze ?_); first | refine wN (.row (.loc 905)) [(.par 0, .loc 52), (.res 0, .loc 905)] hQ ?_ | refine wN (.row (.loc 906)) [(.par 0, .loc 64), (.res 0, .loc 906)] hP2 ?_) | refine zd rfl ?_ ?_ <;> intro hc)
      all_goals try (simp only [List.length_append, List.length_singleton]; omega)
      all_goals try (simp only [List.length_map]; omega)
      all_goals try omega
      exact zI (n' := is.length - (i + 1)) (by omega) ((za [0, 3, 5, 41, 42, 43] [.loc 3, .par 102, .loc 906] rfl rfl).trans (zg (.loc 906) (.loc 900) rfl rfl rfl rfl)) ⟨i + 1, by omega, rfl, by rw [wi]; rfl, by rw [hnext]; rfl⟩
  · obtain rfl : i = is.length := by omega
    have e : es ++ u8L (123 :: xz 5 ns is is.length) ++ [T.int .u8 125] = es ++ u8L (123 :: (xz 5 ns is is.length ++ [125])) := by
      rw [List.append_assoc]
      congr 1
      show u8L _ ++ u8L [125] = _
      rw [← zP]; rfl
    have hXl : (es ++ u8L (123 :: xz 5 ns is is.length)).length ≤ 50000000 := by rw [List.length_append, zZ, List.length_cons]; omega
    rw [← e]
    generalize es ++ u8L (123 :: xz 5 ns is is.length) = X at *
    repeat' (first | refine wC ?_ | (exfalso; omega) | refine wK ?_ | ((with_reducible refine zy ?_); refine zf rfl rfl rfl rfl rfl rfl ?_ ?_ ?_) | ((with_reducible refine zw ?_); refine zh rfl rfl rfl rfl rfl rfl rfl rfl rfl rfl ?_ ?_ ?_) | refine zd rfl ?_ ?_ <;> intro hc)
    all_goals try (simp only [List.length_singleton]; omega)
    all_goals try decide
    refine zv ((za [4] [.par 102, .loc 73] rfl rfl).trans (zg (.loc 73) (.res 0) rfl rfl rfl rfl)) ?_
    exact zL (zp (zK rfl (AVLE.of_eq rfl)) (zc ⟨rfl, rfl, trivial⟩))
set_option maxHeartbeats 16000000 in
theorem zbq {V : ByteArray → Bool} {oP : Obj} (hP : y3 .u64 Lib.pow10Tab oP) : ∀ (x : Nd) (e : Int), x.validB V e = true → x.In → ∀ es : List T, es.length + x.jb.length ≤ 50000000 →
    Spec Tryz.prog 164 [.row (.par 0), .t x.toT] [(.par 0, .slt 5 1 es), (.par 102, .dat (.fix 2 oP))] (.row (.res 0)) [(.res 0, .slt 5 1 (es ++ u8L x.jb)), (.par 102, .dat (.fix 2 oP))]
  | .mk k b n t ns is, e, hv, hin, es, hb => by
    rw [yo] at hv
    obtain ⟨h1, h2, h3, h4, h5, h6, h7, h8⟩ := hv
    cases hin with
    | mk i1 i2 i3 =>
    rw [Nd.toT_eq]
    have hk : k = 0 ∨ k = 1 ∨ k = 2 ∨ k = 3 ∨ (k = 4 ∨ k = 5) := by omega
    rcases hk with rfl | rfl | rfl | rfl | hk
    · have ec : (Nd.mk 0 b n t ns is).jb = kE := by simp [Nd.jb]
      rw [ec]
      refine wIG Tryz.func164 ?_
      repeat' (first | refine wC ?_ | refine wK ?_ | ((with_reducible refine zw ?_); refine yH rfl rfl rfl rfl rfl rfl rfl rfl rfl ?_ ?_ ?_))
      · show (es.length + 4) * 1 ≤ _; omega
      · show es.length + 4 ≤ _; omega
      refine zv ((za [4] [.par 102, .loc 13] rfl rfl).trans (zg (.loc 13) (.res 0) rfl rfl rfl rfl)) ?_
      exact zL (zp (zK rfl (AVLE.of_eq rfl)) (zc ⟨rfl, rfl, trivial⟩))
    · have ec : (Nd.mk 1 b n t ns is).jb = if b then w7 else xm := by simp [Nd.jb]
      rw [ec]
      have hB := zbD es b (by omega)
      generalize u8L (if b then w7 else xm) = D at hB ⊢
      refine wIG Tryz.func164 ?_
      repeat' (first | refine wC ?_ | refine wK ?_ | ((with_reducible refine ze ?_); refine wN (.row (.loc 903)) [(.res 0, .loc 903)] hB ?_) | fail)
      refine zv ((za [4] [.par 102, .loc 903] rfl rfl).trans (zg (.loc 903) (.res 0) rfl rfl rfl rfl)) ?_
      exact zL (zp (zK rfl (AVLE.of_eq rfl)) (zc ⟨rfl, rfl, trivial⟩))
    · have ec : (Nd.mk 2 b n t ns is).jb = Lib.itoa n := by simp [Nd.jb]
      rw [ec]
      have hB := zcP hP es (by omega) n i1 i2
      generalize u8L (Lib.itoa n) = D at hB ⊢
      refine wIG Tryz.func164 ?_
      repeat' (first | refine wC ?_ | refine wK ?_ | ((with_reducible refine ze ?_); refine wN (.row (.loc 903)) [(.res 0, .loc 903)] hB ?_) | fail)
      refine zv ((za [4] [.par 102, .loc 903] rfl rfl).trans (zg (.loc 903) (.res 0) rfl rfl rfl rfl)) ?_
      exact zL (zp (zK rfl (AVLE.of_eq rfl)) (zc ⟨rfl, rfl, trivial⟩))
    · have ec : (Nd.mk 3 b n t ns is).jb = jQ t := by simp [Nd.jb]
      have ht : t.size ≤ 65536 := by
        simp only [yh, Bool.and_eq_true, decide_eq_true_eq] at h5; omega
      rw [ec]
      have hB := kN es t (by omega)
      generalize u8L (jQ t) = D at hB ⊢
      refine wIG Tryz.func164 ?_
      repeat' (first | refine wC ?_ | refine wK ?_ | ((with_reducible refine ze ?_); refine wN (.row (.loc 903)) [(.res 0, .loc 903)] hB ?_) | fail)
      refine zv ((za [4] [.par 102, .loc 903] rfl rfl).trans (zg (.loc 903) (.res 0) rfl rfl rfl rfl)) ?_
      exact zL (zp (zK rfl (AVLE.of_eq rfl)) (zc ⟨rfl, rfl, trivial⟩))
    · have e1 : is.take is.length = is := List.take_length
      rcases hk with rfl | rfl
      · have ec : (Nd.mk 4 b n t ns is).jb = 91 :: (xz 4 ns is is.length ++ [93]) := by simp [Nd.jb, xz]
        rw [ec] at hb ⊢
        simp only [List.length_cons, List.length_append, List.length_nil] at hb
        exact zju b n t ns is (by omega) es (by omega) fun i hi es' hb' => by
          have hm : is.getD i default ∈ is := by rw [List.getD_eq_getElem?_getD, List.getElem?_eq_getElem hi]; exact List.getElem_mem _
          exact zbq hP (is.getD i default) (e - 1) (h8 _ hm) (i3 _ hm) es' hb'
      · have e2 : ns.take is.length = ns := by rw [← (h7 rfl).2]; exact List.take_length
        have ec : (Nd.mk 5 b n t ns is).jb = 123 :: (xz 5 ns is is.length ++ [125]) := by simp [Nd.jb, xz, e2]
        rw [ec] at hb ⊢
        simp only [List.length_cons, List.length_append, List.length_nil] at hb
        exact zlp b n t ns is (by omega) (by have := (h7 rfl).2; omega) (fun s hs => by
          have := ((yF (yh V) ns []).1 (h7 rfl).1).2 s hs
          have := this.2
          simp only [yh, Bool.and_eq_true, decide_eq_true_eq] at this; omega) es (by omega) fun i hi es' hb' => by
          have hm : is.getD i default ∈ is := by rw [List.getD_eq_getElem?_getD, List.getElem?_eq_getElem hi]; exact List.getElem_mem _
          exact zbq hP (is.getD i default) (e - 1) (h8 _ hm) (i3 _ hm) es' hb'
termination_by x => SizeOf.sizeOf x
decreasing_by
  all_goals
    have := List.sizeOf_lt_of_mem hm
    simp only [Nd.mk.sizeOf_spec]
    omega
set_option maxHeartbeats 8000000 in
theorem zfc {oF oA oP : Obj} {V : ByteArray → Bool} (hS : xH oF oA V) (hPw : y3 .u64 Lib.pow10Tab oP) (x : Nd) (hx : x.Ok) (hin : x.In) (hsz : x.validB V 8 = true → x.jb.length ≤ 49999999) : Spec Tryz.prog 101 [.t x.toT] [(.par 100, .dat (.fix 0 oF)), (.par 101, .dat (.fix 1 oA)), (.par 102, .dat (.fix 2 oP))] (.tup [.t (.str (zim V x).1), .t (.int .i64 (zim V x).2)]) [(.par 100, .dat (.fix 0 oF)), (.par 101, .dat (.fix 1 oA)), (.par 102, .dat (.fix 2 oP))] := by
  have hC : Spec Tryz.prog 99 [.t x.toT, .t (.fn 164)] [(.par 100, .dat (.fix 0 oF)), (.par 101, .dat (.fix 1 oA)), (.par 102, .dat (.fix 2 oP))] (.tup [.t (.str (zim V x).1), .t (.int .i64 (zim V x).2)]) [(.par 100, .dat (.fix 0 oF)), (.par 101, .dat (.fix 1 oA)), (.par 102, .dat (.fix 2 oP))] := by
    have hV := v8 hS x hx
    have hT := x.toT_full
    unfold zim
    cases hv : x.validB V 8 with
    | false =>
      rw [hv] at hV
      rw [hT] at hV ⊢
      refine wI Tryz.func99 ?_
      repeat' (first | refine wC ?_ | refine wK ?_ | ((with_reducible refine ze ?_); refine wN (.t (.bool false)) [] hV ?_) | fail)
      exact zp (zD rfl rfl rfl rfl rfl) (zc ⟨rfl, rfl, rfl, trivial⟩)
    | true =>
      have hP := Spec.nilArgS (zbq hPw x 8 hv hin [] (by have := hsz hv; simp; omega)) rfl rfl rfl rfl
      rw [List.nil_append] at hP
      rw [hv] at hV
      rw [hT] at hV hP ⊢
      have hlen : (u8L x.jb).length = x.jb.length := zZ _
      have hsz' := hsz hv
      refine wI Tryz.func99 ?_
      repeat' (first | refine wC ?_ | refine wK ?_ | ((with_reducible refine yJ ?_); refine z6 rfl rfl rfl rfl rfl rfl ?_ ?_) | ((with_reducible refine ze ?_); first | refine wN (.t (.bool true)) [] hV ?_ | refine wN (.row (.loc 903)) [(.res 0, .loc 903)] hP ?_) | refine zd rfl ?_ ?_ <;> intro hc)
      · exact zp (zD rfl rfl rfl (by rw [if_pos rfl, if_pos (by omega)]; rfl) (by rw [if_pos rfl, if_pos (by omega)])) (zc ⟨rfl, rfl, rfl, trivial⟩)
      · exact vt _
      · exact zp (zD rfl rfl rfl (by rw [if_pos rfl, if_neg (by omega), xU]) (by rw [if_pos rfl, if_neg (by omega)])) (zc ⟨rfl, rfl, rfl, trivial⟩)
  generalize (zim V x).1 = s1 at hC ⊢
  generalize (zim V x).2 = s2 at hC ⊢
  have hT := x.toT_full
  rw [hT] at hC ⊢
  refine wI Tryz.func101 ?_
  repeat' (first | refine wC ?_ | refine wK ?_ | ((with_reducible refine ze ?_); refine wN (.tup [.t (.str s1), .t (.int .i64 s2)]) [] hC ?_) | fail)
  exact zp (zD rfl rfl rfl rfl rfl) (zc ⟨rfl, rfl, rfl, trivial⟩)
set_option maxHeartbeats 8000000 in
theorem zeZ {oF oA oP : Obj} {V : ByteArray → Bool} (hS : xH oF oA V) (ty : TypeId) (ef : FuncId) [FnB Tryz.prog ef] (s : ByteArray) (x : Nd) (hx : x.Ok) (r : Rs) (E : ByteArray × Int)
    (hE : r.bad = false → r.s = eS → x.validB V 8 = true → Spec Tryz.prog ef [.t x.toT] [(.par 100, .dat (.fix 0 oF)), (.par 101, .dat (.fix 1 oA)), (.par 102, .dat (.fix 2 oP))] (.tup [.t (.str E.1), .t (.int .i64 E.2)]) [(.par 100, .dat (.fix 0 oF)), (.par 101, .dat (.fix 1 oA)), (.par 102, .dat (.fix 2 oP))])
    (res : Nd × Int) (hres : res = if r.bad = false ∧ r.s = eS ∧ x.validB V 8 = true ∧ E = (s, 0) then (x, 0) else (Nd.zero, 4)) :
    Spec Tryz.prog 166 [.t (.str s), .t x.toT, .ref (.par 0) 0 0 0, .t (.fn ef)] [(.par 0, r.row ty), (.par 100, .dat (.fix 0 oF)), (.par 101, .dat (.fix 1 oA)), (.par 102, .dat (.fix 2 oP))] (.tup [.t res.1.toT, .t (.int .i64 res.2)]) [(.par 0, r.row ty), (.par 100, .dat (.fix 0 oF)), (.par 101, .dat (.fix 1 oA)), (.par 102, .dat (.fix 2 oP))] := by
  have hV := v8 hS x hx
  have hT := x.toT_full
  obtain ⟨rs, bad⟩ := r
  obtain ⟨es, en⟩ := E
  unfold Rs.row
  simp only at hE hres ⊢
  have fail : res = (Nd.zero, 4) → res.1.toT = .agg [.int .i64 0, .bool false, .int .i64 0, .str ⟨#[]⟩, .sl 1 [], .sl 6 []] ∧ res.2 = 4 := fun h => by rw [h]; exact ⟨zJ, rfl⟩
  cases bad with
  | true =>
    rw [if_neg (by simp)] at hres
    obtain ⟨f1, f2⟩ := fail hres
    rw [f1, f2, hT]
    refine wI Tryz.func166 ?_
    repeat' (first | refine wC ?_ | refine wK ?_ | fail)
    exact wE
  | false =>
    by_cases hrs : rs = eS
    · subst hrs
      cases hv : x.validB V 8 with
      | false =>
        rw [hv] at hV hres
        rw [if_neg (by simp)] at hres
        obtain ⟨f1, f2⟩ := fail hres
        rw [hT] at hV
        rw [f1, f2, hT]
        refine wI Tryz.func166 ?_
        repeat' (first | refine wC ?_ | refine wK ?_ | ((with_reducible refine ze ?_); refine wN (.t (.bool false)) [] hV ?_) | fail)
        all_goals try (exact absurd rfl hc)
        exact wE
      | true =>
        rw [hv] at hV hres
        replace hE := hE rfl rfl hv
        rw [hT] at hV hE
        by_cases h0 : en = 0
        · subst h0
          by_cases hs : es = s
          · subst hs
            rw [if_pos ⟨rfl, rfl, rfl, rfl⟩] at hres
            rw [hres]
            simp only
            rw [hT]
            refine wI Tryz.func166 ?_
            repeat' (first | refine wC ?_ | refine wK ?_ | ((with_reducible refine ze ?_); first | refine wN (.t (.bool true)) [] hV ?_ | refine wN (.tup [.t (.str es), .t (.int .i64 0)]) [] hE ?_) | refine zS rfl ?_ ?_ <;> intro hc)
            · exact wE
            all_goals exact absurd rfl hc
          · rw [if_neg (fun h => hs (congrArg (·.1) h.2.2.2))] at hres
            obtain ⟨f1, f2⟩ := fail hres
            rw [f1, f2, hT]
            refine wI Tryz.func166 ?_
            repeat' (first | refine wC ?_ | refine wK ?_ | ((with_reducible refine ze ?_); first | refine wN (.t (.bool true)) [] hV ?_ | refine wN (.tup [.t (.str es), .t (.int .i64 0)]) [] hE ?_) | refine zS rfl ?_ ?_ <;> intro hc)
            · exact absurd hc hs
            exact wE
        · rw [if_neg (fun h => h0 (congrArg (·.2) h.2.2.2))] at hres
          obtain ⟨f1, f2⟩ := fail hres
          rw [f1, f2, hT]
          refine wI Tryz.func166 ?_
          repeat' (first | refine wC ?_ | refine wK ?_ | ((with_reducible refine ze ?_); first | refine wN (.t (.bool true)) [] hV ?_ | refine wN (.tup [.t (.str es), .t (.int .i64 en)]) [] hE ?_) | refine zS rfl ?_ ?_ <;> intro hc | refine zN rfl ?_ ?_ <;> intro hc)
          all_goals try (exact absurd ‹en = 0› h0)
          all_goals exact wE
    · rw [if_neg (fun h => hrs h.2.1)] at hres
      obtain ⟨f1, f2⟩ := fail hres
      rw [f1, f2, hT]
      refine wI Tryz.func166 ?_
      repeat' (first | refine wC ?_ | refine wK ?_ | ((with_reducible refine ze ?_); exact absurd ‹_› hrs) | refine zN rfl ?_ ?_ <;> intro hc)
      exact wE
def jsR (s : ByteArray) : Nd × Rs := yy 8 ⟨s, false⟩
theorem zjb {V : ByteArray → Bool} (s : ByteArray) : kH jsC V s = if (jsR s).2.bad = false ∧ (jsR s).2.s = eS ∧ (jsR s).1.validB V 8 = true ∧ za0 jsC V (jsR s).1 = (s, 0) then ((jsR s).1, 0) else (Nd.zero, 4) := rfl
set_option maxHeartbeats 8000000 in
theorem zkJ {oF oA oP oS oR : Obj} {V : ByteArray → Bool} (hS : xH oF oA V) (hPw : y3 .u64 Lib.pow10Tab oP) (G : EOk oS oR) (s : ByteArray) (hs : s.size ≤ 1000000) : Spec Tryz.prog 102 [.t (.str s)] [(.par 100, .dat (.fix 0 oF)), (.par 101, .dat (.fix 1 oA)), (.par 102, .dat (.fix 2 oP)), (.par 103, .dat (.fix 3 oS)), (.par 104, .dat (.fix 4 oR))] (.tup [.t (kH jsC V s).1.toT, .t (.int .i64 (kH jsC V s).2)]) [(.par 100, .dat (.fix 0 oF)), (.par 101, .dat (.fix 1 oA)), (.par 102, .dat (.fix 2 oP)), (.par 103, .dat (.fix 3 oS)), (.par 104, .dat (.fix 4 oR))] := by
  have hR : Spec Tryz.prog 165 [.ref (.par 0) 0 0 0, .t (.int .i64 8)] [(.par 0, Rs.row 190 ⟨s, false⟩), (.par 103, .dat (.fix 3 oS)), (.par 104, .dat (.fix 4 oR))] (.t (jsR s).1.toT) [(.par 0, (jsR s).2.row 190), (.par 103, .dat (.fix 3 oS)), (.par 104, .dat (.fix 4 oR))] := zcV G 8 (by omega) ⟨s, false⟩ hs
  have hle := zbf 1000000 (by omega) 8 ⟨s, false⟩ hs
  have hg : (jsR s).2.bad = false → (jsR s).1.jb.length ≤ 21 * s.size ∧ (jsR s).1.In := fun h => ⟨Nat.le_trans (Nat.le_add_right _ _) (vd 8 ⟨s, false⟩ h).2.1, (vd 8 ⟨s, false⟩ h).2.2⟩
  have hD := zjb (V := V) s
  have hF := zeZ (oP := oP) hS 190 101 s (jsR s).1 hle.2 (jsR s).2 (za0 jsC V (jsR s).1) (fun h1 h2 h3 => by
    have := hg h1
    exact zfc hS hPw (jsR s).1 hle.2 this.2 (fun _ => by have h9 := this.1; omega)) (kH jsC V s) hD
  clear hD hg hle
  generalize kH jsC V s = res at hF ⊢
  generalize jsR s = y at hR hF
  obtain ⟨x, rs, rb⟩ := y
  obtain ⟨z, e⟩ := res
  have hT := x.toT_full
  have hZ := z.toT_full
  unfold Rs.row at hR hF
  simp only at hR hF ⊢
  rw [hT] at hR hF
  rw [hZ] at hF ⊢
  refine wI Tryz.func102 ?_
  repeat' (first | refine wC ?_ | refine wK ?_ | ((with_reducible refine ze ?_); first | refine wN (.t (.agg [.int .i64 x.kind, .bool x.bool, .int .i64 x.num, .str x.text, .sl 1 (x.names.map .str), .sl 6 (x.items.map Nd.toT)])) [(.par 0, .loc 9)] hR ?_ | refine wN (.tup [.t (.agg [.int .i64 z.kind, .bool z.bool, .int .i64 z.num, .str z.text, .sl 1 (z.names.map .str), .sl 6 (z.items.map Nd.toT)]), .t (.int .i64 e)]) [(.par 0, .loc 9)] hF ?_) | fail)
  exact wE
def zhY : List (T × T) := [(.int .i64 1, .agg [.fn 101, .fn 102]), (.int .i64 2, .agg [.fn 103, .fn 104]), (.int .i64 3, .agg [.fn 50, .fn 105])]
theorem vZ : xp (.int .i64) zhY = true := by decide
set_option maxHeartbeats 2000000 in
theorem vO : Spec Tryz.prog 51 [] [] (.row (.res 0)) [(.res 0, .dat (.map zhY))] := by
  refine wIG Tryz.func51 ?_
  repeat' (first | refine wC ?_ | refine wK ?_ | ((with_reducible refine zhR ?_); refine zeT rfl rfl rfl rfl rfl rfl rfl rfl ?_ ?_))
  all_goals try rfl
  refine zv ((za [0] [.loc 1] rfl rfl).trans (zg (.loc 1) (.res 0) rfl rfl rfl rfl)) ?_
  exact zL (zp (zK rfl (AVLE.refl _)) (zc ⟨rfl, trivial⟩))
theorem znA (h : Heap) : RepT h (Value.agg [Value.nilFunc, Value.nilFunc].toArray) (.agg [.nilf, .nilf]) := ⟨_, rfl, rfl, ⟨_, rfl, rfl, rfl⟩, ⟨_, rfl, rfl, rfl⟩, trivial⟩
theorem zha (k : Int) (h : ¬ (1 ≤ k ∧ k ≤ 3)) : kg zhY (.int .i64 k) = none := by
  have h1 : ¬ k = 1 := by omega
  have h2 : ¬ k = 2 := by omega
  have h3 : ¬ k = 3 := by omega
  simp [kg, zhY, zaj, h1, h2, h3]
theorem ziJ {oF oA oP : Obj} (k : Int) (e d : FuncId) [FnB Tryz.prog e] (hk : kg zhY (.int .i64 k) = some (.agg [.fn e, .fn d])) (x : Nd) (a : ByteArray) (c : Int) (H : Spec Tryz.prog e [.t x.toT] [(.par 100, .dat (.fix 0 oF)), (.par 101, .dat (.fix 1 oA)), (.par 102, .dat (.fix 2 oP))] (.tup [.t (.str a), .t (.int .i64 c)]) [(.par 100, .dat (.fix 0 oF)), (.par 101, .dat (.fix 1 oA)), (.par 102, .dat (.fix 2 oP))]) :
    Spec Tryz.prog 16 [.t (.int .i64 k), .t x.toT] [(.par 100, .dat (.fix 0 oF)), (.par 101, .dat (.fix 1 oA)), (.par 102, .dat (.fix 2 oP))] (.tup [.t (.str a), .t (.int .i64 c)]) [(.par 100, .dat (.fix 0 oF)), (.par 101, .dat (.fix 1 oA)), (.par 102, .dat (.fix 2 oP))] := by
  have hW := vO
  have hKs := vZ
  generalize zhY = W at *
  rw [x.toT_full] at H ⊢
  generalize x.kind = yk at *
  generalize x.bool = yb at *
  generalize x.num = yn at *
  generalize x.text = yt at *
  generalize x.names = ym at *
  generalize x.items = yi at *
  refine wI Tryz.func16 ?_
  repeat' (first | refine wC ?_ | refine x4 (y := .agg [.fn e, .fn d]) (zT := .agg [.nilf, .nilf]) rfl rfl rfl rfl hk znA rfl rfl rfl rfl hKs ?_ | refine wK ?_ | ((with_reducible refine ze ?_); first | refine wN (.row (.loc 901)) [(.res 0, .loc 901)] hW ?_ | refine wN ((.tup [.t (.str a), .t (.int .i64 c)])) [] H ?_) | fail)
  all_goals exact zp (wh rfl (AVLE.refl _) (AVLE.refl _)) (zc ⟨rfl, rfl, rfl, trivial⟩)
theorem zdt {oF oA oP : Obj} (k : Int) (e d : FuncId) [FnB Tryz.prog e] (hk : kg zhY (.int .i64 k) = some (.agg [.fn e, .fn d])) (x : Nd) (a : ByteArray) (c : Int) (H : Spec Tryz.prog e [.t x.toT] [(.par 100, .dat (.fix 0 oF)), (.par 101, .dat (.fix 1 oA))] (.tup [.t (.str a), .t (.int .i64 c)]) [(.par 100, .dat (.fix 0 oF)), (.par 101, .dat (.fix 1 oA))]) :
    Spec Tryz.prog 16 [.t (.int .i64 k), .t x.toT] [(.par 100, .dat (.fix 0 oF)), (.par 101, .dat (.fix 1 oA)), (.par 102, .dat (.fix 2 oP))] (.tup [.t (.str a), .t (.int .i64 c)]) [(.par 100, .dat (.fix 0 oF)), (.par 101, .dat (.fix 1 oA)), (.par 102, .dat (.fix 2 oP))] := by
  have hW := vO
  have hKs := vZ
  generalize zhY = W at *
  rw [x.toT_full] at H ⊢
  generalize x.kind = yk at *
  generalize x.bool = yb at *
  generalize x.num = yn at *
  generalize x.text = yt at *
  generalize x.names = ym at *
  generalize x.items = yi at *
  refine wI Tryz.func16 ?_
  repeat' (first | refine wC ?_ | refine x4 (y := .agg [.fn e, .fn d]) (zT := .agg [.nilf, .nilf]) rfl rfl rfl rfl hk znA rfl rfl rfl rfl hKs ?_ | refine wK ?_ | ((with_reducible refine ze ?_); first | refine wN (.row (.loc 901)) [(.res 0, .loc 901)] hW ?_ | refine wN ((.tup [.t (.str a), .t (.int .i64 c)])) [] H ?_) | fail)
  all_goals exact zp (wh rfl (AVLE.refl _) (AVLE.refl _)) (zc ⟨rfl, rfl, rfl, trivial⟩)
theorem zir {oF oA oP oS oR : Obj} (k : Int) (e d : FuncId) [FnB Tryz.prog d] (hk : kg zhY (.int .i64 k) = some (.agg [.fn e, .fn d])) (s : ByteArray) (y : Nd) (c : Int) (H : Spec Tryz.prog d [.t (.str s)] [(.par 100, .dat (.fix 0 oF)), (.par 101, .dat (.fix 1 oA)), (.par 102, .dat (.fix 2 oP)), (.par 103, .dat (.fix 3 oS)), (.par 104, .dat (.fix 4 oR))] (.tup [.t y.toT, .t (.int .i64 c)]) [(.par 100, .dat (.fix 0 oF)), (.par 101, .dat (.fix 1 oA)), (.par 102, .dat (.fix 2 oP)), (.par 103, .dat (.fix 3 oS)), (.par 104, .dat (.fix 4 oR))]) :
    Spec Tryz.prog 20 [.t (.int .i64 k), .t (.str s)] [(.par 100, .dat (.fix 0 oF)), (.par 101, .dat (.fix 1 oA)), (.par 102, .dat (.fix 2 oP)), (.par 103, .dat (.fix 3 oS)), (.par 104, .dat (.fix 4 oR))] (.tup [.t y.toT, .t (.int .i64 c)]) [(.par 100, .dat (.fix 0 oF)), (.par 101, .dat (.fix 1 oA)), (.par 102, .dat (.fix 2 oP)), (.par 103, .dat (.fix 3 oS)), (.par 104, .dat (.fix 4 oR))] := by
  have hW := vO
  have hKs := vZ
  generalize zhY = W at *
  rw [y.toT_full] at H ⊢
  generalize y.kind = yk at *
  generalize y.bool = yb at *
  generalize y.num = yn at *
  generalize y.text = yt at *
  generalize y.names = ym at *
  generalize y.items = yi at *
  refine wI Tryz.func20 ?_
  repeat' (first | refine wC ?_ | refine x4 (y := .agg [.fn e, .fn d]) (zT := .agg [.nilf, .nilf]) rfl rfl rfl rfl hk znA rfl rfl rfl rfl hKs ?_ | refine wK ?_ | ((with_reducible refine ze ?_); first | refine wN (.row (.loc 901)) [(.res 0, .loc 901)] hW ?_ | refine wN ((.tup [.t (.agg [.int .i64 yk, .bool yb, .int .i64 yn, .str yt, .sl 1 (ym.map .str), .sl 6 (yi.map Nd.toT)]), .t (.int .i64 c)])) [] H ?_) | fail)
  all_goals (exact wE)
theorem zdS {oF oA oP oS oR : Obj} (k : Int) (e d : FuncId) [FnB Tryz.prog d] (hk : kg zhY (.int .i64 k) = some (.agg [.fn e, .fn d])) (s : ByteArray) (y : Nd) (c : Int) (H : Spec Tryz.prog d [.t (.str s)] [(.par 100, .dat (.fix 0 oF)), (.par 101, .dat (.fix 1 oA))] (.tup [.t y.toT, .t (.int .i64 c)]) [(.par 100, .dat (.fix 0 oF)), (.par 101, .dat (.fix 1 oA))]) :
    Spec Tryz.prog 20 [.t (.int .i64 k), .t (.str s)] [(.par 100, .dat (.fix 0 oF)), (.par 101, .dat (.fix 1 oA)), (.par 102, .dat (.fix 2 oP)), (.par 103, .dat (.fix 3 oS)), (.par 104, .dat (.fix 4 oR))] (.tup [.t y.toT, .t (.int .i64 c)]) [(.par 100, .dat (.fix 0 oF)), (.par 101, .dat (.fix 1 oA)), (.par 102, .dat (.fix 2 oP)), (.par 103, .dat (.fix 3 oS)), (.par 104, .dat (.fix 4 oR))] := by
  have hW := vO
  have hKs := vZ
  generalize zhY = W at *
  rw [y.toT_full] at H ⊢
  generalize y.kind = yk at *
  generalize y.bool = yb at *
  generalize y.num = yn at *
  generalize y.text = yt at *
  generalize y.names = ym at *
  generalize y.items = yi at *
  refine wI Tryz.func20 ?_
  repeat' (first | refine wC ?_ | refine x4 (y := .agg [.fn e, .fn d]) (zT := .agg [.nilf, .nilf]) rfl rfl rfl rfl hk znA rfl rfl rfl rfl hKs ?_ | refine wK ?_ | ((with_reducible refine ze ?_); first | refine wN (.row (.loc 901)) [(.res 0, .loc 901)] hW ?_ | refine wN ((.tup [.t (.agg [.int .i64 yk, .bool yb, .int .i64 yn, .str yt, .sl 1 (ym.map .str), .sl 6 (yi.map Nd.toT)]), .t (.int .i64 c)])) [] H ?_) | fail)
  all_goals (exact wE)
theorem ziy {oF oA oP : Obj} (k : Int) (h : ¬ (1 ≤ k ∧ k ≤ 3)) (x : Nd) :
    Spec Tryz.prog 16 [.t (.int .i64 k), .t x.toT] [(.par 100, .dat (.fix 0 oF)), (.par 101, .dat (.fix 1 oA)), (.par 102, .dat (.fix 2 oP))] (.tup [.t (.str eS), .t (.int .i64 2)]) [(.par 100, .dat (.fix 0 oF)), (.par 101, .dat (.fix 1 oA)), (.par 102, .dat (.fix 2 oP))] := by
  have hk := zha k h
  have hW := vO
  have hKs := vZ
  generalize zhY = W at *
  rw [x.toT_full]
  generalize x.kind = yk at *
  generalize x.bool = yb at *
  generalize x.num = yn at *
  generalize x.text = yt at *
  generalize x.names = ym at *
  generalize x.items = yi at *
  refine wI Tryz.func16 ?_
  repeat' (first | refine wC ?_ | refine vb (zT := .agg [.nilf, .nilf]) rfl rfl rfl rfl hk znA rfl rfl rfl rfl hKs ?_ | refine wK ?_ | ((with_reducible refine ze ?_); refine wN (.row (.loc 901)) [(.res 0, .loc 901)] hW ?_) | fail)
  all_goals exact zp (wh rfl (AVLE.refl _) (AVLE.refl _)) (zc ⟨rfl, rfl, rfl, trivial⟩)
theorem ziS {oF oA oP oS oR : Obj} (k : Int) (h : ¬ (1 ≤ k ∧ k ≤ 3)) (s : ByteArray) :
    Spec Tryz.prog 20 [.t (.int .i64 k), .t (.str s)] [(.par 100, .dat (.fix 0 oF)), (.par 101, .dat (.fix 1 oA)), (.par 102, .dat (.fix 2 oP)), (.par 103, .dat (.fix 3 oS)), (.par 104, .dat (.fix 4 oR))] (.tup [.t Nd.zero.toT, .t (.int .i64 2)]) [(.par 100, .dat (.fix 0 oF)), (.par 101, .dat (.fix 1 oA)), (.par 102, .dat (.fix 2 oP)), (.par 103, .dat (.fix 3 oS)), (.par 104, .dat (.fix 4 oR))] := by
  have hk := zha k h
  have hW := vO
  have hKs := vZ
  generalize zhY = W at *
  rw [Nd.zero.toT_full]
  refine wI Tryz.func20 ?_
  repeat' (first | refine wC ?_ | refine vb (zT := .agg [.nilf, .nilf]) rfl rfl rfl rfl hk znA rfl rfl rfl rfl hKs ?_ | refine wK ?_ | ((with_reducible refine ze ?_); refine wN (.row (.loc 901)) [(.res 0, .loc 901)] hW ?_) | fail)
  all_goals (exact wE)
theorem zlb (l : List T) : (zbi l).size = l.length := by
  unfold zbi strOfNums
  rw [ByteArray.size, List.size_toArray, List.length_map, List.length_map]
theorem zlR {V : ByteArray → Bool} (s : ByteArray) : zeG V s = (Nd.zero, 4) ∨ ∃ x : Nd, zeG V s = (x, 0) ∧ x.validB V 8 = true ∧ x.In ∧ x.Ok ∧ x.cb.length ≤ 65536 ∧ s = ofL x.cb := by
  by_cases h : zcI V s
  · obtain ⟨x, h1, h2, h3, rfl⟩ := zec.1 h
    exact .inr ⟨x, zbW h1 h2 h3, h1, h2, Nd.ok_of_valid x 8 h1, h3, rfl⟩
  · exact .inl (zeP h)
set_option maxHeartbeats 2000000 in
theorem wz (n : Nat) (hn : n < 18446744073709551616) (k : Nat) (hk1 : 1 ≤ k) (hk : k ≤ 8) : Spec Tryz.prog 176 [.t (.int .u64 (n : Int)), .t (.int .i64 (k : Int))] [] (.t (.str (ofL (yr k n)))) [] := by
  refine wI Tryz.func176 ?_
  repeat' (first | refine wC ?_ | refine wK ?_ | fail)
  refine zl (kz 5 (.loc 900) 5 1 rfl rfl rfl) ?_
  refine zl (za [0, 5, 6] [.loc 900] rfl rfl) ?_
  refine zz (fun p env st => ∃ (c : Nat) (xs : List T), c ≤ 8 ∧ p = c ∧ xs.length + c = k ∧ xs ++ u8L (yr c n) = u8L (yr k n) ∧
      env = EnvL.get [(0, .t (.int .u64 (n : Int))), (5, .row (.loc 900)), (6, .t (.int .i64 ((c : Int) - 1)))] ∧ st = StO.get [(.loc 900, some (.slt 5 1 xs))])
    ?_ (n := k) ⟨k, [], hk, rfl, by simp, by simp, ?_, rfl⟩
  rotate_left
  · rw [zr (by omega) (by omega)]; rfl
  rintro p env st ⟨c, xs, hc8, rfl, hlen, hi, rfl, rfl⟩
  repeat' (first | refine wC ?_ | refine wK ?_ | ((with_reducible refine zM ?_); refine je rfl rfl rfl rfl rfl rfl ?_ ?_) | ((with_reducible refine yJ ?_); refine z6 rfl rfl rfl rfl rfl rfl ?_ ?_) | ((with_reducible refine zw ?_); refine zh rfl rfl rfl rfl rfl rfl rfl rfl rfl rfl ?_ ?_ ?_) | refine zd rfl ?_ ?_ <;> intro hc)
  · rw [zr (by omega) (by omega), ye (by omega) (by omega)]; omega
  · simp; omega
  · simp; omega
  · obtain ⟨c, rfl⟩ : ∃ c, p = c + 1 := ⟨p - 1, by omega⟩
    refine zI (n' := c) (by omega) ((za [0, 5, 6] [.loc 21] rfl rfl).trans (zg (.loc 21) (.loc 900) rfl rfl rfl rfl)) ⟨c, _, by omega, rfl, ?_, ?_, ?_, rfl⟩
    · simp; omega
    · rw [← hi, List.append_assoc]
      congr 1
      have e : (min (IntKind.u64.wrap (IntKind.i64.wrap (8 * ((c + 1 : Nat) - 1 : Int)))).toNat IntKind.u64.bits) = 8 * c := by
        rw [zr (by omega) (by omega), ye (by omega) (by omega)]
        have : IntKind.u64.bits = 64 := rfl
        omega
      rw [e, zes]
      rfl
    · rw [zr (by omega) (by omega)]
      rw [show ((c + 1 : Nat) : Int) - 1 - 1 = (c : Int) - 1 by omega]
      rfl
  · obtain rfl : p = 0 := by omega
    simp only [yr, u8L, List.map_nil, List.append_nil] at hi
    rw [hi]
    exact vt _
  · obtain rfl : p = 0 := by omega
    simp only [yr, u8L, List.map_nil, List.append_nil] at hi
    subst hi
    exact zp (zo rfl rfl (congrArg T.str (xU _))) (by simp)
set_option maxHeartbeats 2000000 in
theorem jR (b : Int) : Spec Tryz.prog 177 [.t (.int .i64 b)] [] (.t (.str (zbi [.int .u8 (IntKind.u8.wrap b)]))) [] := by
  refine wI Tryz.func177 ?_
  repeat' (first | refine wC ?_ | refine wK ?_ | ((with_reducible refine yJ ?_); refine z6 rfl rfl rfl rfl rfl rfl ?_ ?_))
  all_goals try exact zhu _
  exact zp (zo rfl rfl rfl) (by simp)
theorem zoH {b : Nat} (h : b < 256) : zbi [T.int .u8 (IntKind.u8.wrap (b : Int))] = ofL [UInt8.ofNat b] := by
  have : IntKind.u8.wrap (b : Int) = ((UInt8.ofNat b).toNat : Int) := by
    rw [xo (by omega) (by omega), UInt8.toNat_ofNat']; omega
  rw [this]
  exact xU [UInt8.ofNat b]
theorem zoM (n : Int) : zbi [T.int .u8 (IntKind.u8.wrap n)] = ofL [UInt8.ofNat (n % 256).toNat] := by
  have : IntKind.u8.wrap n = ((UInt8.ofNat (n % 256).toNat).toNat : Int) := by
    simp only [IntKind.wrap, IntKind.bits, IntKind.signed, Bool.false_and, Bool.false_eq_true, if_false]
    rw [UInt8.toNat_ofNat']; omega
  rw [this]
  exact xU [UInt8.ofNat (n % 256).toNat]
theorem zd3 (a : UInt8) (l : List UInt8) : ofL [a] ++ ofL l = ofL (a :: l) := z7 [a] l
set_option maxHeartbeats 8000000 in
theorem zko (n : Int) (h0 : -9223372036854775808 ≤ n) (h1 : n ≤ 9223372036854775807) : Spec Tryz.prog 174 [.t (.int .i64 n)] [] (.t (.str (ofL (qI n)))) [] := by
  have hu : IntKind.u64.wrap n = ((xP n : Nat) : Int) := by
    unfold xP
    simp only [IntKind.wrap, IntKind.bits, IntKind.signed, Bool.false_and, Bool.false_eq_true, if_false]
    omega
  have hun : xP n < 18446744073709551616 := by unfold xP; omega
  have b0 := jR n
  rw [zoM] at b0
  have b1 : Spec Tryz.prog 176 [.t (.int .u64 (IntKind.u64.wrap n)), .t (.int .i64 1)] [] (.t (.str (ofL (yr 1 (xP n))))) [] := by rw [hu]; exact wz _ hun 1 (by omega) (by omega)
  have b2 : Spec Tryz.prog 176 [.t (.int .u64 (IntKind.u64.wrap n)), .t (.int .i64 2)] [] (.t (.str (ofL (yr 2 (xP n))))) [] := by rw [hu]; exact wz _ hun 2 (by omega) (by omega)
  have b4 : Spec Tryz.prog 176 [.t (.int .u64 (IntKind.u64.wrap n)), .t (.int .i64 4)] [] (.t (.str (ofL (yr 4 (xP n))))) [] := by rw [hu]; exact wz _ hun 4 (by omega) (by omega)
  have b8 : Spec Tryz.prog 176 [.t (.int .u64 (IntKind.u64.wrap n)), .t (.int .i64 8)] [] (.t (.str (ofL (yr 8 (xP n))))) [] := by rw [hu]; exact wz _ hun 8 (by omega) (by omega)
  have hR : ofL (qI n) = if -32 ≤ n ∧ n < 128 then ofL [UInt8.ofNat (n % 256).toNat] else if 0 < n ∧ n < 256 then ⟨#[204]⟩ ++ ofL (yr 1 (xP n)) else if 0 < n ∧ n < 65536 then ⟨#[205]⟩ ++ ofL (yr 2 (xP n)) else if 0 < n ∧ n < 4294967296 then ⟨#[206]⟩ ++ ofL (yr 4 (xP n)) else if 0 < n then ⟨#[207]⟩ ++ ofL (yr 8 (xP n)) else if -128 ≤ n then ⟨#[208]⟩ ++ ofL (yr 1 (xP n)) else if -32768 ≤ n then ⟨#[209]⟩ ++ ofL (yr 2 (xP n)) else if -2147483648 ≤ n then ⟨#[210]⟩ ++ ofL (yr 4 (xP n)) else ⟨#[211]⟩ ++ ofL (yr 8 (xP n)) := by
    have e (a : UInt8) (l : List UInt8) : (⟨#[a]⟩ : ByteArray) ++ ofL l = ofL (a :: l) := zd3 a l
    simp only [e]
    unfold qI
    repeat' split
    all_goals first | rfl | (exfalso; omega)
  have z (k : Nat) : (ofL (yr k (xP n))).size = k := by rw [zx, zO]
  have z1 := z 1
  have z2 := z 2
  have z4 := z 4
  have z8 := z 8
  clear z
  generalize ofL (yr 1 (xP n)) = B1 at *
  generalize ofL (yr 2 (xP n)) = B2 at *
  generalize ofL (yr 4 (xP n)) = B4 at *
  generalize ofL (yr 8 (xP n)) = B8 at *
  generalize ofL [UInt8.ofNat (n % 256).toNat] = B0 at *
  generalize ofL (qI n) = R at hR ⊢
  refine wI Tryz.func174 ?_
  repeat' (first | refine wC ?_ | refine wK ?_ | ((with_reducible refine zM ?_); refine yj rfl rfl rfl rfl rfl rfl ?_ ?_) | ((with_reducible refine ze ?_); first | refine wL b0 ?_ | refine wL b1 ?_ | refine wL b2 ?_ | refine wL b4 ?_ | refine wL b8 ?_) | refine zd rfl ?_ ?_ <;> intro hc | refine zj rfl ?_ ?_ <;> intro hc)
  all_goals try (show (1 : Nat) + _ ≤ _; omega)
  all_goals try (exfalso; omega)
  all_goals (refine zp (zo rfl rfl (congrArg T.str ?_)) (by simp); rw [hR]; repeat (first | rw [if_pos (by omega)] | rw [if_neg (by omega)]))
set_option maxHeartbeats 8000000 in
theorem zcU (s : ByteArray) (hs : s.size < 4294967296) : Spec Tryz.prog 175 [.t (.str s)] [] (.t (.str (ofL (pTx s)))) [] := by
  have hu : IntKind.u64.wrap (s.size : Int) = ((s.size : Nat) : Int) := ye (by omega) (by omega)
  have b0 := jR (IntKind.i64.wrap (160 + (s.size : Int)))
  have b1 : Spec Tryz.prog 176 [.t (.int .u64 (IntKind.u64.wrap (s.size : Int))), .t (.int .i64 1)] [] (.t (.str (ofL (yr 1 s.size)))) [] := by rw [hu]; exact wz _ (by omega) 1 (by omega) (by omega)
  have b2 : Spec Tryz.prog 176 [.t (.int .u64 (IntKind.u64.wrap (s.size : Int))), .t (.int .i64 2)] [] (.t (.str (ofL (yr 2 s.size)))) [] := by rw [hu]; exact wz _ (by omega) 2 (by omega) (by omega)
  have b4 : Spec Tryz.prog 176 [.t (.int .u64 (IntKind.u64.wrap (s.size : Int))), .t (.int .i64 4)] [] (.t (.str (ofL (yr 4 s.size)))) [] := by rw [hu]; exact wz _ (by omega) 4 (by omega) (by omega)
  have hR : ofL (pTx s) = if s.size < 32 then zbi [.int .u8 (IntKind.u8.wrap (IntKind.i64.wrap (160 + (s.size : Int))))] ++ s else if s.size < 256 then ⟨#[217]⟩ ++ ofL (yr 1 s.size) ++ s else if s.size < 65536 then ⟨#[218]⟩ ++ ofL (yr 2 s.size) ++ s else ⟨#[219]⟩ ++ ofL (yr 4 s.size) ++ s := by
    have e (a : UInt8) (l : List UInt8) : (⟨#[a]⟩ : ByteArray) ++ ofL l = ofL (a :: l) := zd3 a l
    have e0 : ofL (pTx s) = ofL (pTh s.size) ++ s := by unfold pTx; rw [← z7, vI]
    rw [e0]
    simp only [e]
    unfold pTh
    repeat' split
    · rw [zr (by omega) (by omega), show (160 + (s.size : Int)) = ((160 + s.size : Nat) : Int) by omega, zoH (by omega)]
    all_goals first | rfl | (exfalso; omega)
  have z (k : Nat) : (ofL (yr k s.size)).size = k := by rw [zx, zO]
  have z1 := z 1
  have z2 := z 2
  have z4 := z 4
  clear z
  have z0 := zlb [.int .u8 (IntKind.u8.wrap (IntKind.i64.wrap (160 + (s.size : Int))))]
  generalize ofL (yr 1 s.size) = B1 at *
  generalize ofL (yr 2 s.size) = B2 at *
  generalize ofL (yr 4 s.size) = B4 at *
  generalize zbi [.int .u8 (IntKind.u8.wrap (IntKind.i64.wrap (160 + (s.size : Int))))] = B0 at *
  generalize ofL (pTx s) = R at hR ⊢
  refine wI Tryz.func175 ?_
  repeat' (first | refine zd rfl ?_ ?_ <;> intro hc | refine wC ?_ | refine wK ?_ | ((with_reducible refine zM ?_); refine yj rfl rfl rfl rfl rfl rfl ?_ ?_) | ((with_reducible refine ze ?_); first | refine wL b0 ?_ | refine wL b1 ?_ | refine wL b2 ?_ | refine wL b4 ?_) | fail)
  all_goals try (show (1 : Nat) + _ ≤ _; omega)
  all_goals try (rw [ByteArray.size_append]; show (1 : Nat) + _ + _ ≤ _; omega)
  all_goals try (rw [z0]; show (1 : Nat) + _ ≤ _; omega)
  all_goals try (exfalso; omega)
  all_goals (refine zp (zo rfl rfl (congrArg T.str ?_)) (by simp); rw [hR]; repeat (first | rw [if_pos (by omega)] | rw [if_neg (by omega)]))
theorem zms (few many n : Nat) (hn : n ≤ 256) (hf : few + n < 256 ∨ 16 ≤ n) : ofL (pCn few many n) = if n < 16 then zbi [.int .u8 (IntKind.u8.wrap (IntKind.i64.wrap ((few : Int) + (n : Int))))] else ofL (UInt8.ofNat many :: yr 2 n) := by
  unfold pCn
  split
  · rw [zr (by omega) (by omega), show ((few : Int) + (n : Int)) = ((few + n : Nat) : Int) by omega, zoH (by omega)]
  · rfl
set_option maxHeartbeats 8000000 in
theorem zis (k : Int) (hk45 : k = 4 ∨ k = 5) (b : Bool) (n : Int) (t : ByteArray) (ns : List ByteArray) (is : List Nd) (hlen : is.length ≤ 256) (hk : k = 5 → ns.length = is.length)
    (hns : ∀ s ∈ ns, s.size ≤ 65536) (hb : (pCn (zhP k) (jB k) is.length).length + (qa k ns is is.length).length ≤ 50000000)
    (IH : ∀ i, i < is.length → (is.getD i default).pb.length ≤ 50000000 → Spec Tryz.prog 108 [.t (is.getD i default).toT] [] (.t (.str (ofL (is.getD i default).pb))) []) :
    Spec Tryz.prog 108 [.t (.agg [.int .i64 k, .bool b, .int .i64 n, .str t, .sl 1 (ns.map .str), .sl 6 (is.map Nd.toT)])] [] (.t (.str (ofL (pCn (zhP k) (jB k) is.length ++ qa k ns is is.length)))) [] := by
  have hu : IntKind.u64.wrap (is.length : Int) = ((is.length : Nat) : Int) := ye (by omega) (by omega)
  have b2 : Spec Tryz.prog 176 [.t (.int .u64 (IntKind.u64.wrap (is.length : Int))), .t (.int .i64 2)] [] (.t (.str (ofL (yr 2 is.length)))) [] := by rw [hu]; exact wz _ (by omega) 2 (by omega) (by omega)
  have z2 : (ofL (yr 2 is.length)).size = 2 := by rw [zx, zO]
  have o4 := jR (IntKind.i64.wrap (144 + (is.length : Int)))
  have o5 := jR (IntKind.i64.wrap (128 + (is.length : Int)))
  have h4 := zms 144 220 is.length hlen (by omega)
  have h5 := zms 128 222 is.length hlen (by omega)
  have hmono := fun i j (hij : i ≤ j) (hj : j ≤ is.length) => zbX (k := k) hk hij hj
  have e1 (a : UInt8) : (⟨#[a]⟩ : ByteArray) ++ ofL (yr 2 is.length) = ofL (a :: yr 2 is.length) := zd3 a _
  rw [← show (⟨#[220]⟩ : ByteArray) ++ ofL (yr 2 is.length) = ofL (UInt8.ofNat 220 :: yr 2 is.length) from e1 _] at h4
  rw [← show (⟨#[222]⟩ : ByteArray) ++ ofL (yr 2 is.length) = ofL (UInt8.ofNat 222 :: yr 2 is.length) from e1 _] at h5
  clear e1
  generalize ofL (yr 2 is.length) = B2 at *
  obtain rfl | rfl := hk45
  · rw [show zhP 4 = 144 from rfl, show jB 4 = 220 from rfl] at *
    obtain ⟨H0, hH0⟩ : ∃ H, H = pCn 144 220 is.length := ⟨_, rfl⟩
    rw [← hH0] at h4 hb ⊢
    have ha : (is.length : Int) < 16 → zbi [.int .u8 (IntKind.u8.wrap (IntKind.i64.wrap (144 + (is.length : Int))))] = ofL H0 := fun h => by rw [h4, if_pos (by omega)]; rfl
    have hb' : ¬ (is.length : Int) < 16 → (⟨#[220]⟩ : ByteArray) ++ B2 = ofL H0 := fun h => by rw [h4, if_neg (by omega)]
    refine wI Tryz.func108 ?_
    repeat' (first | refine wC ?_ | refine wK ?_ | ((with_reducible refine zM ?_); refine yj rfl rfl rfl rfl rfl rfl ?_ ?_) | ((with_reducible refine ze ?_); first | refine wL b2 ?_ | refine wL o4 ?_) | refine zd rfl ?_ ?_ <;> intro hc)
    · show 1 + _ ≤ _; omega
    all_goals first | rw [ha hc] | rw [hb' hc]
    all_goals (clear ha hb' h4 hc)
    all_goals (refine zl (za [1, 4, 49, 50, 51] [.loc 1] rfl rfl) ?_)
    all_goals
     refine zz (fun p env st => ∃ (j : Nat) (S : ByteArray), j ≤ is.length ∧ p = is.length - j ∧ S = ofL (H0 ++ qa 4 ns is j) ∧
        env = EnvL.get [(1, .ref (.loc 1) 0 0 0), (4, .t (.str S)), (49, .t (.sl 6 (is.map Nd.toT))), (50, .t (.int .i64 is.length)), (51, .t (.int .i64 (j : Int)))] ∧
        st = StO.get [(.loc 1, some (.var 30 [.t (.int .i64 4), .t (.bool b), .t (.int .i64 n), .t (.str t), .t (.sl 1 (ns.map .str)), .t (.sl 6 (is.map Nd.toT))]))])
      ?_ (n := is.length) ⟨0, ofL H0, by omega, rfl, by simp [qa, Nd.pbs, Nd.pbm], rfl, rfl⟩
    all_goals
      rintro p env st ⟨j, S, hj, rfl, hS, rfl, rfl⟩
      by_cases hlt : j < is.length
      · have hle := hmono (j + 1) is.length (by omega) (by omega)
        rw [qZ (by decide) hlt, List.length_append] at hle
        have hP := IH j hlt (by omega)
        have hsz : S.size = H0.length + (qa 4 ns is j).length := by rw [hS, zx, List.length_append]
        have hT := (is.getD j default).toT_full
        rw [hT] at hP
        have hw : ofL (H0 ++ qa 4 ns is (j + 1)) = S ++ ofL (is.getD j default).pb := by
          rw [qZ (by decide) hlt, hS, z7, List.append_assoc]
        obtain ⟨W, hW⟩ : ∃ W, W = ofL (is.getD j default).pb := ⟨_, rfl⟩
        have hWs : W.size = (is.getD j default).pb.length := by rw [hW, zx]
        rw [← hW] at hP hw
        have hg : is.getD (j : Int).toNat default = is.getD j default := rfl
        repeat' (first | refine wC ?_ | refine zR rfl rfl hT rfl rfl rfl rfl rfl rfl ?_ | refine wK ?_ | ((with_reducible refine zM ?_); refine yj rfl rfl rfl rfl rfl rfl ?_ ?_) | ((with_reducible refine zA ?_); refine zq rfl rfl rfl rfl rfl rfl ?_ ?_ ?_) | ((with_reducible refine ze ?_); refine wL hP ?_) | refine zd rfl ?_ ?_ <;> intro hc)
        all_goals try omega
        all_goals try (simp only [ByteArray.size_append] at *; omega)
        all_goals try (exfalso; omega)
        exact zI (n' := is.length - (j + 1)) (by omega) (za [1, 4, 49, 50, 51] [.loc 1] rfl rfl) ⟨j + 1, _, by omega, rfl, hw.symm, by rw [zr (by omega) (by omega)]; rfl, rfl⟩
      · repeat' (first | refine wC ?_ | refine wK ?_ | ((with_reducible refine zA ?_); refine zq rfl rfl rfl rfl rfl rfl ?_ ?_ ?_) | refine zd rfl ?_ ?_ <;> intro hc)
        all_goals try (exfalso; omega)
        obtain rfl : j = is.length := by omega
        exact zp (zo rfl rfl (congrArg T.str hS)) (by simp)
  · rw [show zhP 5 = 128 from rfl, show jB 5 = 222 from rfl] at *
    obtain ⟨H0, hH0⟩ : ∃ H, H = pCn 128 222 is.length := ⟨_, rfl⟩
    rw [← hH0] at h5 hb ⊢
    have ha : (is.length : Int) < 16 → zbi [.int .u8 (IntKind.u8.wrap (IntKind.i64.wrap (128 + (is.length : Int))))] = ofL H0 := fun h => by rw [h5, if_pos (by omega)]; rfl
    have hb' : ¬ (is.length : Int) < 16 → (⟨#[222]⟩ : ByteArray) ++ B2 = ofL H0 := fun h => by rw [h5, if_neg (by omega)]
    refine wI Tryz.func108 ?_
    repeat' (first | refine wC ?_ | refine wK ?_ | ((with_reducible refine zM ?_); refine yj rfl rfl rfl rfl rfl rfl ?_ ?_) | ((with_reducible refine ze ?_); first | refine wL b2 ?_ | refine wL o5 ?_) | refine zd rfl ?_ ?_ <;> intro hc)
    · show 1 + _ ≤ _; omega
    all_goals first | rw [ha hc] | rw [hb' hc]
    all_goals (clear ha hb' h5 hc)
    all_goals (refine zl (za [1, 4, 49, 50, 51] [.loc 1] rfl rfl) ?_)
    all_goals
     refine zz (fun p env st => ∃ (j : Nat) (S : ByteArray), j ≤ is.length ∧ p = is.length - j ∧ S = ofL (H0 ++ qa 5 ns is j) ∧
        env = EnvL.get [(1, .ref (.loc 1) 0 0 0), (4, .t (.str S)), (49, .t (.sl 6 (is.map Nd.toT))), (50, .t (.int .i64 is.length)), (51, .t (.int .i64 (j : Int)))] ∧
        st = StO.get [(.loc 1, some (.var 30 [.t (.int .i64 5), .t (.bool b), .t (.int .i64 n), .t (.str t), .t (.sl 1 (ns.map .str)), .t (.sl 6 (is.map Nd.toT))]))])
      ?_ (n := is.length) ⟨0, ofL H0, by omega, rfl, by simp [qa, Nd.pbs, Nd.pbm], rfl, rfl⟩
    all_goals
      rintro p env st ⟨j, S, hj, rfl, hS, rfl, rfl⟩
      by_cases hlt : j < is.length
      · have hle := hmono (j + 1) is.length (by omega) (by omega)
        have hl5 := hk rfl
        rw [jF hl5 hlt, List.length_append, List.length_append] at hle
        have hP := IH j hlt (by omega)
        have hsz : S.size = H0.length + (qa 5 ns is j).length := by rw [hS, zx, List.length_append]
        have hT := (is.getD j default).toT_full
        rw [hT] at hP
        have hsn : (ns.getD j default).size ≤ 65536 := hns _ (by rw [List.getD_eq_getElem?_getD, List.getElem?_eq_getElem (by omega)]; simp)
        have hw : ofL (H0 ++ qa 5 ns is (j + 1)) = S ++ ofL (pTx (ns.getD j default)) ++ ofL (is.getD j default).pb := by
          rw [jF hl5 hlt, hS, z7, z7]
          simp only [List.append_assoc]
        obtain ⟨W, hW⟩ : ∃ W, W = ofL (is.getD j default).pb := ⟨_, rfl⟩
        have hWs : W.size = (is.getD j default).pb.length := by rw [hW, zx]
        rw [← hW] at hP hw
        have hH3 := zcU (ns.getD (j : Int).toNat default) (by show (ns.getD j default).size < _; omega)
        have hgn : (ns.getD (j : Int).toNat default) = ns.getD j default := rfl
        rw [← hgn] at hw hle
        obtain ⟨H3, hH3e⟩ : ∃ H, H = ofL (pTx (ns.getD (j : Int).toNat default)) := ⟨_, rfl⟩
        have hH3s : H3.size = (pTx (ns.getD (j : Int).toNat default)).length := by rw [hH3e, zx]
        rw [← hH3e] at hH3 hw
        repeat' (first | refine wC ?_ | refine zR rfl rfl hT rfl rfl rfl rfl rfl rfl ?_ | refine wK ?_ | ((with_reducible refine zM ?_); refine yj rfl rfl rfl rfl rfl rfl ?_ ?_) | ((with_reducible refine zA ?_); refine zq rfl rfl rfl rfl rfl rfl ?_ ?_ ?_) | ((with_reducible refine ze ?_); first | refine wL hP ?_ | refine wL hH3 ?_) | refine zd rfl ?_ ?_ <;> intro hc)
        all_goals try omega
        all_goals try (simp only [ByteArray.size_append] at *; omega)
        all_goals try (exfalso; omega)
        exact zI (n' := is.length - (j + 1)) (by omega) (za [1, 4, 49, 50, 51] [.loc 1] rfl rfl) ⟨j + 1, _, by omega, rfl, hw.symm, by rw [zr (by omega) (by omega)]; rfl, rfl⟩
      · repeat' (first | refine wC ?_ | refine wK ?_ | ((with_reducible refine zA ?_); refine zq rfl rfl rfl rfl rfl rfl ?_ ?_ ?_) | refine zd rfl ?_ ?_ <;> intro hc)
        all_goals try (exfalso; omega)
        obtain rfl : j = is.length := by omega
        exact zp (zo rfl rfl (congrArg T.str hS)) (by simp)
theorem sP0 : (⟨#[192]⟩ : ByteArray) = ofL [192] := rfl
theorem sP2 : (⟨#[194]⟩ : ByteArray) = ofL [194] := rfl
theorem sP3 : (⟨#[195]⟩ : ByteArray) = ofL [195] := rfl
set_option maxHeartbeats 8000000 in
theorem k8 {V : ByteArray → Bool} : ∀ (x : Nd) (e : Int), x.validB V e = true → x.In → x.pb.length ≤ 50000000 →
    Spec Tryz.prog 108 [.t x.toT] [] (.t (.str (ofL x.pb))) []
  | .mk k b n t ns is, e, hv, hin, hb => by
    rw [yo] at hv
    obtain ⟨h1, h2, h3, h4, h5, h6, h7, h8⟩ := hv
    cases hin with
    | mk i1 i2 i3 =>
    rw [Nd.toT_eq]
    have hk : k = 0 ∨ k = 1 ∨ k = 2 ∨ k = 3 ∨ (k = 4 ∨ k = 5) := by omega
    rcases hk with rfl | rfl | rfl | rfl | hk
    · rw [show (Nd.mk 0 b n t ns is).pb = [192] by simp [Nd.pb], ← sP0]
      refine wI Tryz.func108 ?_
      repeat' (first | refine wC ?_ | refine wK ?_ | fail)
      exact zp (zo rfl rfl rfl) (by simp)
    · cases b with
      | true =>
        rw [show (Nd.mk 1 true n t ns is).pb = [195] by simp [Nd.pb], ← sP3]
        refine wI Tryz.func108 ?_
        repeat' (first | refine wC ?_ | refine wK ?_ | fail)
        exact zp (zo rfl rfl rfl) (by simp)
      | false =>
        rw [show (Nd.mk 1 false n t ns is).pb = [194] by simp [Nd.pb], ← sP2]
        refine wI Tryz.func108 ?_
        repeat' (first | refine wC ?_ | refine wK ?_ | fail)
        exact zp (zo rfl rfl rfl) (by simp)
    · have ec : (Nd.mk 2 b n t ns is).pb = qI n := by simp [Nd.pb]
      rw [ec]
      have hH := zko n i1 i2
      generalize ofL (qI n) = R at hH ⊢
      refine wI Tryz.func108 ?_
      repeat' (first | refine wC ?_ | refine wK ?_ | ((with_reducible refine ze ?_); refine wL hH ?_) | fail)
      exact zp (zo rfl rfl rfl) (by simp)
    · have ec : (Nd.mk 3 b n t ns is).pb = pTx t := by simp [Nd.pb]
      have ht : t.size ≤ 65536 := by
        simp only [yh, Bool.and_eq_true, decide_eq_true_eq] at h5; omega
      rw [ec]
      have hH := zcU t (by omega)
      generalize ofL (pTx t) = R at hH ⊢
      refine wI Tryz.func108 ?_
      repeat' (first | refine wC ?_ | refine wK ?_ | ((with_reducible refine ze ?_); refine wL hH ?_) | fail)
      exact zp (zo rfl rfl rfl) (by simp)
    · have hl : k = 5 → ns.length = is.length := fun h => by have := (h7 h).2; omega
      have ec : (Nd.mk k b n t ns is).pb = pCn (zhP k) (jB k) is.length ++ qa k ns is is.length := by
        have e1 : is.take is.length = is := List.take_length
        rcases hk with rfl | rfl
        · simp [Nd.pb, qa, zhP, jB]
        · have e2 : ns.take is.length = ns := by rw [← (h7 rfl).2]; exact List.take_length
          simp [Nd.pb, qa, e2, zhP, jB]
      rw [ec] at hb ⊢
      rw [List.length_append] at hb
      refine zis k hk b n t ns is (by omega) hl (fun s hs => ?_) (by omega) fun i hi hb' => ?_
      · by_cases h : k = 5
        · have := ((yF (yh V) ns []).1 (h7 h).1).2 s hs
          have := this.2
          simp only [yh, Bool.and_eq_true, decide_eq_true_eq] at this; omega
        · have hz : ns.length = 0 := by
            simp only [Nd.fieldsOK, Bool.and_eq_true, Bool.or_eq_true, decide_eq_true_eq] at h4
            have := h4.2; omega
          rw [List.eq_nil_of_length_eq_zero hz] at hs; cases hs
      · have hm : is.getD i default ∈ is := by rw [List.getD_eq_getElem?_getD, List.getElem?_eq_getElem hi]; exact List.getElem_mem _
        exact k8 (is.getD i default) (e - 1) (h8 _ hm) (i3 _ hm) hb'
termination_by x => SizeOf.sizeOf x
decreasing_by
  have := List.sizeOf_lt_of_mem hm
  simp only [Nd.mk.sizeOf_spec]
  omega
set_option maxHeartbeats 4000000 in
theorem zkQ {oF oA : Obj} {V : ByteArray → Bool} (hS : xH oF oA V) (x : Nd) (hx : x.Ok) (hin : x.In) (hsz : x.validB V 8 = true → x.pb.length ≤ 49999999) : Spec Tryz.prog 54 [.t x.toT] [(.par 100, .dat (.fix 0 oF)), (.par 101, .dat (.fix 1 oA))] (.tup [.t (.str (za0 pkC V x).1), .t (.int .i64 (za0 pkC V x).2)]) [(.par 100, .dat (.fix 0 oF)), (.par 101, .dat (.fix 1 oA))] := by
  have hV := x7 hS x hx
  have hT := x.toT_full
  unfold za0
  show Spec Tryz.prog _ _ _ (.tup [.t (.str (if x.validB V 8 = true then (if 65536 < x.pb.length then (eS, 3) else (ofL x.pb, 0)) else (eS, 1) : ByteArray × Int).1), .t (.int .i64 (if x.validB V 8 = true then (if 65536 < x.pb.length then (eS, 3) else (ofL x.pb, 0)) else (eS, 1) : ByteArray × Int).2)]) _
  cases hv : x.validB V 8 with
  | false =>
    rw [hv] at hV
    rw [hT] at hV ⊢
    refine wI Tryz.func54 ?_
    repeat' (first | refine wC ?_ | refine wK ?_ | ((with_reducible refine ze ?_); refine wN (.t (.bool false)) [] hV ?_) | fail)
    exact zp (zD rfl rfl rfl rfl rfl) (zc ⟨rfl, rfl, trivial⟩)
  | true =>
    have hP := k8 x 8 hv hin (by have := hsz hv; omega)
    rw [hv] at hV
    have hlen : (ofL x.pb).size = x.pb.length := zx _
    generalize ofL x.pb = W at hP hlen ⊢
    rw [hT] at hV hP ⊢
    refine wI Tryz.func54 ?_
    repeat' (first | refine wC ?_ | refine wK ?_ | ((with_reducible refine ze ?_); first | refine wN (.t (.bool true)) [] hV ?_ | refine wL hP ?_) | refine zd rfl ?_ ?_ <;> intro hc)
    · exact zp (zD rfl rfl rfl (by rw [if_pos rfl, if_pos (by omega)]; rfl) (by rw [if_pos rfl, if_pos (by omega)])) (zc ⟨rfl, rfl, trivial⟩)
    · exact zp (zD rfl rfl rfl (by rw [if_pos rfl, if_neg (by omega)]) (by rw [if_pos rfl, if_neg (by omega)])) (zc ⟨rfl, rfl, trivial⟩)
structure Enc2 (V : ByteArray → Bool) (x : Nd) : Prop where
  ok : x.Ok
  inn : x.In
  sz : x.validB V 8 = true → x.pb.length ≤ 49999999
end Go.AL
