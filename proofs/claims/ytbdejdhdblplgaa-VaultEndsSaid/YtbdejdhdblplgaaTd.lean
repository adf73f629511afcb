/- What functions of the program and of the document answer, and the plain laws behind it; each under the conditions that its own theorem names. -/
import Derived.Test.YtbdejdhdblplgaaTc
import Derived.Test.YtbdejdhdblplgaaAl3
set_option linter.unusedVariables false
namespace Go.AL
open Go Go.Proofs Go.RowKit
theorem ze8 {n : Nat} {a b : Nat} (h : kw n a 0 ≠ kw n b 0) : kyS (sdN (n : Int)) (a : Int) 0 ≠ kyS (sdN (n : Int)) (b : Int) 0 := fun e =>
  zkR h (ziZ (qe _) (qe _) e)
theorem ziE (n : Nat) (hn : n < 256) : ∀ a b : Nat, a < b → b < 3 → kyS (sdN (n : Int)) (a : Int) 0 ≠ kyS (sdN (n : Int)) (b : Int) 0 := by
  obtain ⟨h1, h2, h3⟩ := zhu n hn
  intro a b hab hb
  have : (a = 0 ∧ b = 1) ∨ (a = 0 ∧ b = 2) ∨ (a = 1 ∧ b = 2) := by omega
  rcases this with ⟨rfl, rfl⟩ | ⟨rfl, rfl⟩ | ⟨rfl, rfl⟩
  · exact (ze8 h1).symm
  · exact (ze8 h2).symm
  · exact (ze8 h3).symm
def zgn (S : ByteArray) (j : Nat) : List ByteArray := (List.range j).map (fun (g : Nat) => kyS S (g : Int) 0)
theorem zgU (S : ByteArray) (j : Nat) : (zgn S j).length = j := by simp [zgn]
theorem zfD (S : ByteArray) (j : Nat) : zgn S (j + 1) = zgn S j ++ [kyS S (j : Int) 0] := by simp [zgn, List.range_succ]
theorem zja (S : ByteArray) (j : Nat) {i : Nat} (h : i < j) : (zgn S j).getD i default = kyS S (i : Int) 0 := by
  unfold zgn
  rw [List.getD_eq_getElem?_getD, List.getElem?_map, List.getElem?_range h]; rfl
set_option maxRecDepth 8000 in
set_option maxHeartbeats 16000000 in
theorem jL (n r : Int) (h0 : 0 ≤ n) (h1 : n < 256) (r0 : 0 ≤ r) (r1 : r < 256) : Spec Try.prog 3 [.t (.int .u8 n), .t (.int .u8 r)] [] (.t (.bool true)) [] := by
  have hA := zcq
  have hL := zaq n h0 h1
  have z0 := zaz n
  have hd : ∀ a b : Nat, a < b → b < 3 → kyS (sdN n) (a : Int) 0 ≠ kyS (sdN n) (b : Int) 0 := by
    have := ziE n.toNat (by omega)
    rw [Int.toNat_of_nonneg h0] at this
    exact this
  generalize sdN n = S at *
  have hN := jU S z0
  unfold vaT at hN
  obtain ⟨m, hm1, hm3, hmr⟩ : ∃ m : Nat, 1 ≤ m ∧ m ≤ 3 ∧ IntKind.u8.wrap (1 + r.tmod 3) = (m : Int) := by
    have e : r.tmod 3 = r % 3 := Int.tmod_eq_emod_of_nonneg r0
    rw [e]
    refine ⟨(1 + r % 3).toNat, by omega, by omega, ?_⟩
    simp only [IntKind.wrap, IntKind.bits, IntKind.signed, Bool.false_and, Bool.false_eq_true, if_false]
    omega
  refine wI Try.func3 ?_
  repeat' (first | refine wC ?_ | refine wK ?_ | ((with_reducible refine zp ?_); first | refine wL hL ?_ | refine wL hN ?_) | fail)
  rw [hmr]
  refine zc (xG 7 (.loc 900) 9 1 rfl rfl rfl) ?_
  refine zc (za [5, 7, 27, 28] [.loc 5, .loc 900] rfl rfl) ?_
  refine zh (fun q env st => ∃ (j : Nat), j ≤ m ∧ q = m - j ∧ env = EnvL.get [(5, .ref (.loc 5) 0 0 0), (7, .row (.loc 900)), (27, .t (.int .u8 (m : Int))), (28, .t (.int .u8 (j : Int)))] ∧ st = StO.get [(.loc 5, some (.var 24 [.t (.str S), .t (.int .i64 (j : Int)), .t (.int .i64 1), .t (.int .i64 1), .t (.sl 1 ([((0 : Nat) : Int)].map (T.int .i64)))])), (.loc 900, some (.slt 9 1 ((zgn S j).map .str)))])
    ?_ (n := m) ⟨0, by omega, rfl, rfl, rfl⟩
  clear hL hN
  rintro q env st ⟨j, hj, rfl, rfl, rfl⟩
  have wj : IntKind.u8.wrap ((j : Int) + 1) = ((j + 1 : Nat) : Int) := by
    simp only [IntKind.wrap, IntKind.bits, IntKind.signed, Bool.false_and, Bool.false_eq_true, if_false]; omega
  have wj64 : IntKind.i64.wrap ((j : Int) + 1) = (j : Int) + 1 := zl (by omega) (by omega)
  have hln := zgU S j
  by_cases hlt : j < m
  · have hK := jY S (j : Int) 1 [((0 : Nat) : Int)] (by omega)
    rw [show qZ 2 (ktP (sdS S (j : Int) 0)) = kyS S (j : Int) 0 from rfl] at hK
    have hR := vY S (j : Int) 1 z0 (by omega) (by omega) (by decide) (by decide)
    have hsuc := zfD S j
    have hne : ∀ i : Nat, i < j → (zgn S j).getD i default ≠ kyS S (j : Int) 0 := fun i hi => by
      rw [zja S j hi]; exact hd i j hi (by omega)
    generalize kyS S (j : Int) 0 = Y at *
    generalize zgn S j = L at *
    unfold vaT at hK hR
    repeat' (first | refine wC ?_ | (exfalso; omega) | refine wK ?_ | ((with_reducible refine zp ?_); refine wL hK ?_) | refine zq rfl ?_ ?_ <;> intro hc | fail)
    refine zc (za [5, 7, 8, 27, 28, 35, 36, 37] [.loc 5, .loc 900] rfl rfl) ?_
    refine zh (fun q env st => ∃ (i : Nat), i ≤ j ∧ q = j - i ∧ env = EnvL.get [(5, .ref (.loc 5) 0 0 0), (7, .row (.loc 900)), (8, .t (.sl 1 [T.str Y])), (27, .t (.int .u8 (m : Int))), (28, .t (.int .u8 (j : Int))), (35, .row (.loc 900)), (36, .t (.int .i64 (L.length : Int))), (37, .t (.int .i64 (i : Int)))] ∧ st = StO.get [(.loc 5, some (.var 24 [.t (.str S), .t (.int .i64 (j : Int)), .t (.int .i64 1), .t (.int .i64 1), .t (.sl 1 ([((0 : Nat) : Int)].map (T.int .i64)))])), (.loc 900, some (.slt 9 1 (L.map .str)))])
      ?_ (n := j) ⟨0, by omega, rfl, rfl, rfl⟩
    rintro q env st ⟨i, hi, rfl, rfl, rfl⟩
    have wi : IntKind.i64.wrap ((i : Int) + 1) = ((i + 1 : Nat) : Int) := by rw [zl (by omega) (by omega)]; omega
    by_cases hil : i < j
    · have hat : decide (L.getD (i : Int).toNat default = Y) = false := by rw [Int.toNat_natCast]; exact decide_eq_false (hne i hil)
      repeat' (first | refine wC ?_ | (exfalso; omega) | refine zfd (congrArg (fun b => AV.t (T.bool b)) hat) ?_ | refine y4 rfl rfl rfl rfl rfl rfl ?_ ?_ ?_ | refine wK ?_ | ((with_reducible refine wy ?_); refine xR rfl rfl rfl rfl rfl rfl rfl rfl ?_ ?_) | ((with_reducible refine zi ?_); refine ye rfl rfl rfl rfl rfl rfl rfl ?_ ?_ ?_) | refine zq rfl ?_ ?_ <;> intro hc | fail)
      all_goals try (simp only [List.length_map]; omega)
      all_goals try omega
      all_goals try (simp; done)
      all_goals exact zC (n' := j - (i + 1)) (by omega) (za [5, 7, 8, 27, 28, 35, 36, 37] [.loc 5, .loc 900] rfl rfl) ⟨i + 1, by omega, rfl, by rw [wi]; rfl, rfl⟩
    · obtain rfl : i = j := by omega
      repeat' (first | refine wC ?_ | (exfalso; omega) | refine y4 rfl rfl rfl rfl rfl rfl ?_ ?_ ?_ | refine wK ?_ | ((with_reducible refine z6 ?_); refine zx rfl rfl rfl rfl rfl rfl rfl rfl rfl rfl ?_ ?_ ?_) | ((with_reducible refine zp ?_); refine wL hR ?_) | refine zq rfl ?_ ?_ <;> intro hc | refine zbz rfl ?_ ?_ <;> intro hc | fail)
      all_goals try (simp only [List.length_map, List.length_cons, List.length_nil]; omega)
      all_goals try omega
      all_goals try (simp; done)
      all_goals exact zC (n' := m - (i + 1)) (by omega) ((za [5, 7, 27, 28] [.loc 5, .loc 52] rfl rfl).trans (zw (.loc 52) (.loc 900) rfl rfl rfl rfl)) ⟨i + 1, by omega, rfl, by rw [wj]; rfl, by rw [hsuc, List.map_append, List.map_singleton]; rfl⟩
  · obtain rfl : j = m := by omega
    have hR1 := vY S (j : Int) 0 z0 (by omega) (by omega) (by decide) (by decide)
    have hR2 := kr S ((j : Int) + 1) z0 (by omega) (by omega)
    have hX := zcR S ((j : Int) + 1) 1 [((0 : Nat) : Int)] (by omega) (by omega) (by omega)
    unfold vaT at hR1 hR2 hX
    repeat' (first | refine wC ?_ | (exfalso; omega) | refine wK ?_ | ((with_reducible refine zp ?_); first | refine wL hA ?_ | refine wL hR1 ?_ | refine wL hR2 ?_ | refine wL hX ?_) | refine zq rfl ?_ ?_ <;> intro hc | fail)
    all_goals try omega
    all_goals try (simp; done)
    all_goals exact zH (zj rfl rfl (congrArg T.bool (by simp))) (by simp)
end Go.AL
