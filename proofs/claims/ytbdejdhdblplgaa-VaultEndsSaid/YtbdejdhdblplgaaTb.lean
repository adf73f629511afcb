/- What functions of the program and of the document answer, and the plain laws behind it; each under the conditions that its own theorem names. -/
import Derived.Test.YtbdejdhdblplgaaTa
import Derived.Test.YtbdejdhdblplgaaAl3
import Derived.Test.YtbdejdhdblplgaaAl4
set_option linter.unusedVariables false
namespace Go.AL
open Go Go.Proofs Go.RowKit
theorem zk4 : ∀ n : Fin 256, IntKind.i64.wrap ((BitVec.ofInt IntKind.i64.bits (n.val : Int) &&& BitVec.ofInt IntKind.i64.bits 3).toNat : Int) = ((n.val % 4 : Nat) : Int) := by decide +kernel
theorem zke {n : Nat} (h : n < 256) : IntKind.i64.wrap ((BitVec.ofInt IntKind.i64.bits (n : Int) &&& BitVec.ofInt IntKind.i64.bits 3).toNat : Int) = ((n % 4 : Nat) : Int) := zk4 ⟨n, h⟩
theorem ix4 : ∀ j : Fin 32, IntKind.i64.wrap ((j.val : Int).tdiv 4) = ((j.val / 4 : Nat) : Int) := by decide +kernel
theorem sh4 : ∀ j : Fin 32, IntKind.i64.wrap (6 - IntKind.i64.wrap (2 * (j.val : Int).tmod 4)) = ((6 - 2 * (j.val % 4) : Nat) : Int) := by decide +kernel
theorem mn4 (j : Nat) : min ((6 - 2 * (j % 4) : Nat) : Int).toNat IntKind.u8.bits = 6 - 2 * (j % 4) := by
  have : IntKind.u8.bits = 8 := rfl
  omega
theorem zf2 (Y : ByteArray) (j : Nat) (hj : j < 32) : IntKind.i64.wrap ((BitVec.ofInt IntKind.i64.bits (IntKind.i64.wrap (bAt Y ((j / 4 : Nat) : Int) / 2 ^ (6 - 2 * (j % 4)))) &&& BitVec.ofInt IntKind.i64.bits 3).toNat : Int) = (vA Y j : Int) := by
  unfold vA
  rw [if_pos hj]
  unfold zkj
  have hb := zbB Y ((j / 4 : Nat) : Int)
  generalize bAt Y ((j / 4 : Nat) : Int) = b at hb ⊢
  obtain ⟨n, rfl⟩ : ∃ n : Nat, b = n := ⟨b.toNat, by omega⟩
  have hn : n < 256 := by omega
  have hq : n / 2 ^ (6 - 2 * (j % 4)) ≤ n := Nat.div_le_self _ _
  have e : (n : Int) / 2 ^ (6 - 2 * (j % 4)) = ((n / 2 ^ (6 - 2 * (j % 4)) : Nat) : Int) := by simp
  rw [e]
  have hm : (n : Int).toNat / 2 ^ (6 - 2 * (j % 4)) = n / 2 ^ (6 - 2 * (j % 4)) := by rw [Int.toNat_natCast]
  generalize n / 2 ^ (6 - 2 * (j % 4)) = m at hq hm ⊢
  rw [zl (n := (m : Int)) (by omega) (by omega), zke (by omega)]
  exact congrArg (fun k : Nat => ((k % 4 : Nat) : Int)) hm.symm
theorem qb (Y : ByteArray) (k : Nat) (hk : k < 4) : IntKind.i64.wrap ((BitVec.ofInt IntKind.i64.bits ((xt Y 32 : Int) / 2 ^ (2 * (3 - k))) &&& BitVec.ofInt IntKind.i64.bits 3).toNat : Int) = (vA Y (32 + k) : Int) := by
  unfold vA
  rw [if_neg (by omega), show 35 - (32 + k) = 3 - k by omega]
  have hr := kC Y 32
  generalize xt Y 32 = n at hr ⊢
  have hq : n / 2 ^ (2 * (3 - k)) ≤ n := Nat.div_le_self _ _
  have e : (n : Int) / 2 ^ (2 * (3 - k)) = ((n / 2 ^ (2 * (3 - k)) : Nat) : Int) := by simp
  rw [e]
  generalize n / 2 ^ (2 * (3 - k)) = m at hq ⊢
  rw [zke (by omega)]
theorem sh3 : ∀ k : Fin 4, 0 ≤ IntKind.i64.wrap (2 * (3 - (k.val : Int))) ∧ min (IntKind.i64.wrap (2 * (3 - (k.val : Int)))).toNat IntKind.i64.bits = 2 * (3 - k.val) := by decide +kernel
set_option maxHeartbeats 4000000 in
theorem zc9 (s : ByteArray) (hs : s.size ≤ 40000000) : Spec Try.prog 64 [.t (.str s)] [] (.t (.sl 1 (zc1 (sha s) 36))) [] := by
  have hS := vr s hs
  have hz := xA s
  generalize sha s = Y at hS hz ⊢
  refine wIG Try.func64 ?_
  repeat' (first | refine wC ?_ | refine wK ?_ | ((with_reducible refine xh ?_); refine yX (zT := .int _ _) rfl rfl rfl rfl rfl rfl rfl rfl rfl ?_ ?_ ?_ ?_ ?_) | ((with_reducible refine zp ?_); refine wL hS ?_) | fail)
  all_goals try decide
  refine zc (za [3, 4, 5, 12] [.loc 11] rfl rfl) ?_
  refine zh (fun p env st => ∃ (j : Nat), j ≤ 32 ∧ p = 32 - j ∧
      env = EnvL.get [(3, .t (.str Y)), (4, .row (.loc 11)), (5, .t (.int .i64 (xt Y j : Int))), (12, .t (.int .i64 (j : Int)))] ∧ st = StO.get [(.loc 11, some (.slt 3 1 (zc1 Y j)))])
    ?_ (n := 32) ⟨0, by omega, rfl, rfl, rfl⟩
  rintro p env st ⟨j, hj, rfl, rfl, rfl⟩
  by_cases hlt : j < 32
  · have h1 := ix4 ⟨j, hlt⟩
    have h2 := sh4 ⟨j, hlt⟩
    have h3 := mn4 j
    have h4 := zf2 Y j hlt
    have h5 := jd Y j
    have h6 := kC Y j
    simp only at h1 h2
    repeat' (first | refine wC ?_ | (exfalso; omega) | refine wK ?_ | ((with_reducible refine zW ?_); refine q7 rfl rfl rfl rfl rfl rfl ?_ ?_) | ((with_reducible refine yB ?_); refine zM rfl rfl rfl rfl rfl rfl ?_ ?_ ?_) | ((with_reducible refine z6 ?_); refine zx rfl rfl rfl rfl rfl rfl rfl rfl rfl rfl ?_ ?_ ?_) | refine zq rfl ?_ ?_ <;> intro hc | fail)
    all_goals try simp only [h1, h2, h3, h4, v6, List.length_singleton]
    all_goals try omega
    refine zC (n' := 32 - (j + 1)) (by omega) ((za [3, 4, 5, 12] [.loc 29] rfl rfl).trans (zw (.loc 29) (.loc 11) rfl rfl rfl rfl)) ⟨j + 1, by omega, rfl, ?_, ?_⟩
    · try simp only [h1, h2, h3, h4]
      have : xt Y (j + 1) = xt Y j + 3 - vA Y j := by rw [xt, vA, if_pos hlt]
      rw [this, zl (n := (xt Y j : Int) + 3) (by omega) (by omega), zl (by omega) (by omega), zl (by omega) (by omega), show ((xt Y j : Int) + 3 - (vA Y j : Int)) = ((xt Y j + 3 - vA Y j : Nat) : Int) by omega]
      rfl
    · try simp only [h1, h2, h3, h4]
      rw [xJ]
      rfl
  · obtain rfl : j = 32 := by omega
    repeat' (first | refine wC ?_ | refine wK ?_ | fail)
    refine zc (za [4, 5, 8] [.loc 11] rfl rfl) ?_
    refine zh (fun p env st => ∃ (k : Nat), k ≤ 4 ∧ p = 4 - k ∧
        env = EnvL.get [(4, .row (.loc 11)), (5, .t (.int .i64 (xt Y 32 : Int))), (8, .t (.int .i64 (3 - (k : Int))))] ∧ st = StO.get [(.loc 11, some (.slt 3 1 (zc1 Y (32 + k))))])
      ?_ (n := 4) ⟨0, by omega, rfl, rfl, rfl⟩
    rintro p env st ⟨k, hk, rfl, rfl, rfl⟩
    by_cases hlt : k < 4
    · have h1 := sh3 ⟨k, hlt⟩
      have h4 := qb Y k hlt
      simp only at h1
      obtain ⟨h1, h2⟩ := h1
      repeat' (first | refine wC ?_ | (exfalso; omega) | refine wK ?_ | ((with_reducible refine zW ?_); refine q7 rfl rfl rfl rfl rfl rfl ?_ ?_) | ((with_reducible refine z6 ?_); refine zx rfl rfl rfl rfl rfl rfl rfl rfl rfl rfl ?_ ?_ ?_) | refine zq rfl ?_ ?_ <;> intro hc | fail)
      all_goals try simp only [h2, h4, v6, List.length_singleton]
      all_goals try omega
      refine zC (n' := 4 - (k + 1)) (by omega) ((za [4, 5, 8] [.loc 46] rfl rfl).trans (zw (.loc 46) (.loc 11) rfl rfl rfl rfl)) ⟨k + 1, by omega, rfl, ?_, ?_⟩
      · rw [zl (by omega) (by omega), show (3 : Int) - (k : Int) - 1 = 3 - ((k + 1 : Nat) : Int) by omega]
        rfl
      · try simp only [h2, h4]
        rw [show 32 + (k + 1) = 32 + k + 1 by omega, xJ]
        rfl
    · obtain rfl : k = 4 := by omega
      repeat' (first | refine wC ?_ | refine wK ?_ | fail)
      refine yc (zI (id := .loc 11) rfl rfl rfl) ?_
      exact y5 (zH (zj rfl rfl rfl) (zN trivial))
theorem zjL (Y : ByteArray) : [T.int .i64 (IntKind.i64.wrap ((BitVec.ofInt IntKind.i64.bits ((xt Y 32 : Int) / 2 ^ 6) &&& BitVec.ofInt IntKind.i64.bits 3).toNat : Int)),
    .int .i64 (IntKind.i64.wrap ((BitVec.ofInt IntKind.i64.bits ((xt Y 32 : Int) / 2 ^ 4) &&& BitVec.ofInt IntKind.i64.bits 3).toNat : Int)),
    .int .i64 (IntKind.i64.wrap ((BitVec.ofInt IntKind.i64.bits ((xt Y 32 : Int) / 2 ^ 2) &&& BitVec.ofInt IntKind.i64.bits 3).toNat : Int)),
    .int .i64 (IntKind.i64.wrap ((BitVec.ofInt IntKind.i64.bits (xt Y 32 : Int) &&& BitVec.ofInt IntKind.i64.bits 3).toNat : Int))] = [T.int .i64 (vA Y 32 : Int), .int .i64 (vA Y 33 : Int), .int .i64 (vA Y 34 : Int), .int .i64 (vA Y 35 : Int)] := by
  have h0 := qb Y 0 (by omega)
  have h1 := qb Y 1 (by omega)
  have h2 := qb Y 2 (by omega)
  have h3 := qb Y 3 (by omega)
  simp only [Nat.sub_self, Nat.mul_zero, Int.pow_zero, Int.ediv_one] at h3
  rw [← h0, ← h1, ← h2, ← h3]
theorem zhS (Y : ByteArray) : zc1 Y 36 = zc1 Y 32 ++ [T.int .i64 (vA Y 32 : Int), .int .i64 (vA Y 33 : Int), .int .i64 (vA Y 34 : Int), .int .i64 (vA Y 35 : Int)] := by
  rw [xJ, xJ, xJ, xJ]
  simp
set_option maxHeartbeats 4000000 in
theorem zbF (s : ByteArray) (hs : s.size ≤ 40000000) : Spec Try.prog 46 [.t (.str s)] [] (.t (.sl 1 (zc1 (sha s) 36))) [] := by
  have hS := k8 s hs
  have hz := xA s
  generalize sha s = Y at hS hz ⊢
  refine wIG Try.func46 ?_
  repeat' (first | refine wC ?_ | refine wK ?_ | ((with_reducible refine zp ?_); refine wL hS ?_) | fail)
  refine zc (xG 4 (.loc 1000) 3 1 rfl rfl rfl) ?_
  refine zc (za [3, 4, 5, 10] [.loc 1000] rfl rfl) ?_
  refine zh (fun p env st => ∃ (j : Nat), j ≤ 32 ∧ p = 32 - j ∧
      env = EnvL.get [(3, .t (.str Y)), (4, .row (.loc 1000)), (5, .t (.int .i64 (xt Y j : Int))), (10, .t (.int .i64 (j : Int)))] ∧ st = StO.get [(.loc 1000, some (.slt 3 1 (zc1 Y j)))])
    ?_ (n := 32) ⟨0, by omega, rfl, rfl, rfl⟩
  rintro p env st ⟨j, hj, rfl, rfl, rfl⟩
  by_cases hlt : j < 32
  · have h1 := ix4 ⟨j, hlt⟩
    have h2 := sh4 ⟨j, hlt⟩
    have h3 := mn4 j
    have h4 := zf2 Y j hlt
    have h5 := jd Y j
    have h6 := kC Y j
    have h7 : IntKind.u64.wrap ((6 - 2 * (j % 4) : Nat) : Int) = ((6 - 2 * (j % 4) : Nat) : Int) := yQ (by omega) (by omega)
    simp only at h1 h2
    repeat' (first | refine wC ?_ | (exfalso; omega) | refine wK ?_ | ((with_reducible refine zW ?_); refine q7 rfl rfl rfl rfl rfl rfl ?_ ?_) | ((with_reducible refine yB ?_); refine zM rfl rfl rfl rfl rfl rfl ?_ ?_ ?_) | ((with_reducible refine z6 ?_); refine zx rfl rfl rfl rfl rfl rfl rfl rfl rfl rfl ?_ ?_ ?_) | refine zq rfl ?_ ?_ <;> intro hc | fail)
    all_goals try simp only [h1, h2, h7, h3, h4, v6, List.length_singleton]
    all_goals try omega
    refine zC (n' := 32 - (j + 1)) (by omega) ((za [3, 4, 5, 10] [.loc 28] rfl rfl).trans (zw (.loc 28) (.loc 1000) rfl rfl rfl rfl)) ⟨j + 1, by omega, rfl, ?_, ?_⟩
    · try simp only [h1, h2, h7, h3, h4]
      have : xt Y (j + 1) = xt Y j + 3 - vA Y j := by rw [xt, vA, if_pos hlt]
      rw [this, zl (n := (xt Y j : Int) + 3) (by omega) (by omega), zl (by omega) (by omega), zl (by omega) (by omega), show ((xt Y j : Int) + 3 - (vA Y j : Int)) = ((xt Y j + 3 - vA Y j : Nat) : Int) by omega]
      rfl
    · try simp only [h1, h2, h7, h3, h4]
      rw [xJ]
      rfl
  · obtain rfl : j = 32 := by omega
    have h4 := zjL Y
    repeat' (first | refine wC ?_ | refine wK ?_ | ((with_reducible refine z6 ?_); refine zx rfl rfl rfl rfl rfl rfl rfl rfl rfl rfl ?_ ?_ ?_) | fail)
    · rw [v6]; simp only [List.length_cons, List.length_nil]; omega
    · rw [v6]; simp only [List.length_cons, List.length_nil]; omega
    refine yc (za [2] [.loc 47] rfl rfl) ?_
    refine yc (zI (id := .loc 47) rfl rfl rfl) ?_
    exact y5 (zH (zj rfl rfl (congrArg (T.sl 1) ((congrArg (zc1 Y 32 ++ ·) h4).trans (zhS Y).symm))) (zN trivial))
set_option maxHeartbeats 1000000 in
theorem zga (v : ByteArray) (hv : v.size ≤ 1000000) (c p : Int) : Spec Try.prog 91 [.t (.str v), .t (.int .i64 c), .t (.int .i64 p)] [] (.t (.str (vQ v c p))) [] := by
  have hz := qA c p
  have hS := ww (v ++ zK c p) (by rw [ByteArray.size_append]; omega)
  unfold vQ
  generalize zL (v ++ zK c p) = Y at hS ⊢
  unfold zK at hS hz
  refine wI Try.func91 ?_
  repeat' (first | refine wC ?_ | refine wK ?_ | ((with_reducible refine zW ?_); refine zX rfl rfl rfl rfl rfl rfl ?_ ?_) | ((with_reducible refine z7 ?_); refine zE rfl rfl rfl rfl rfl rfl ?_ ?_) | ((with_reducible refine zp ?_); refine wL hS ?_) | fail)
  all_goals try exact zdW _ _
  all_goals try omega
  exact zH (zj rfl rfl rfl) (by simp)
set_option maxHeartbeats 1000000 in
theorem zc4 (c p : Int) : Spec Try.prog 85 [.t (.int .i64 c), .t (.int .i64 p)] [] (.t (.str (zK c p))) [] := by
  unfold zK
  refine wI Try.func85 ?_
  repeat' (first | refine wC ?_ | refine wK ?_ | ((with_reducible refine z7 ?_); refine zE rfl rfl rfl rfl rfl rfl ?_ ?_) | fail)
  all_goals try exact zdW _ _
  exact zH (zj rfl rfl rfl) (by simp)
set_option maxHeartbeats 1000000 in
theorem zeF (v : ByteArray) (hv : v.size ≤ 1000000) (c p : Int) : Spec Try.prog 69 [.t (.str v), .t (.int .i64 c), .t (.int .i64 p)] [] (.t (.str (vQ v c p))) [] := by
  have hz := qA c p
  have hS := wO (v ++ zK c p) (by rw [ByteArray.size_append]; omega)
  have hB := zc4 c p
  unfold vQ
  generalize zL (v ++ zK c p) = Y at hS ⊢
  generalize zK c p = W at *
  refine wI Try.func69 ?_
  repeat' (first | refine wC ?_ | refine wK ?_ | ((with_reducible refine zW ?_); refine zX rfl rfl rfl rfl rfl rfl ?_ ?_) | ((with_reducible refine zp ?_); first | refine wL hB ?_ | refine wL hS ?_) | fail)
  all_goals try omega
  exact zH (zj rfl rfl rfl) (by simp)
set_option maxHeartbeats 1000000 in
theorem zcI (v : ByteArray) (hv : v.size ≤ 1000000) (c : Int) : Spec Try.prog 82 [.t (.str v), .t (.int .i64 c)] [] (.t (.str (zeY v c))) [] := by
  have hz := qA 128 c
  have hS := ww (v ++ zK 128 c) (by rw [ByteArray.size_append]; omega)
  unfold zeY
  generalize zL (v ++ zK 128 c) = Y at hS ⊢
  rw [← zhx, ← ByteArray.append_assoc] at hS
  have z1 : (⟨#[128]⟩ : ByteArray).size = 1 := rfl
  have z2 : (qq [T.int .u8 (IntKind.u8.wrap c)]).size = 1 := vi _
  refine wI Try.func82 ?_
  repeat' (first | refine wC ?_ | refine wK ?_ | ((with_reducible refine zW ?_); refine zX rfl rfl rfl rfl rfl rfl ?_ ?_) | ((with_reducible refine z7 ?_); refine zE rfl rfl rfl rfl rfl rfl ?_ ?_) | ((with_reducible refine zp ?_); refine wL hS ?_) | fail)
  all_goals try exact zaO _
  all_goals try (simp only [ByteArray.size_append, z1, z2]; omega)
  exact zH (zj rfl rfl rfl) (by simp)
set_option maxHeartbeats 2000000 in
theorem zd7 (v : ByteArray) (hv : v.size ≤ 900000) (c : Int) (p n : Nat) (hp : p + n ≤ 1000) : Spec Try.prog 81 [.t (.str v), .t (.int .i64 c), .t (.int .i64 (p : Int)), .t (.int .i64 ((p + n : Nat) : Int))] [] (.t (.str (yq v c p n))) [] := by
  refine wI Try.func81 ?_
  repeat' (first | refine wC ?_ | refine wK ?_ | fail)
  refine zc (za [0, 1, 3, 9] [] rfl rfl) ?_
  refine zh (fun q env st => ∃ (j : Nat), j ≤ n ∧ q = n - j ∧
      env = EnvL.get [(0, .t (.str (yq v c p j))), (1, .t (.int .i64 c)), (3, .t (.int .i64 ((p + n : Nat) : Int))), (9, .t (.int .i64 ((p + j : Nat) : Int)))] ∧ st = StO.get [])
    ?_ (n := n) ⟨0, by omega, rfl, rfl, rfl⟩
  rintro q env st ⟨j, hj, rfl, rfl, rfl⟩
  have hz := zcl v c p j
  by_cases hlt : j < n
  · have hS := zga (yq v c p j) (by omega) c ((p + j : Nat) : Int)
    rw [show vQ (yq v c p j) c ((p + j : Nat) : Int) = yq v c p (j + 1) from rfl] at hS
    repeat' (first | refine wC ?_ | (exfalso; omega) | refine wK ?_ | ((with_reducible refine zp ?_); refine wL hS ?_) | refine zq rfl ?_ ?_ <;> intro hc | fail)
    refine zC (n' := n - (j + 1)) (by omega) (za [0, 1, 3, 9] [] rfl rfl) ⟨j + 1, by omega, rfl, ?_, rfl⟩
    rw [zl (by omega) (by omega), show ((p + j : Nat) : Int) + 1 = ((p + (j + 1) : Nat) : Int) by omega]
    rfl
  · obtain rfl : j = n := by omega
    repeat' (first | refine wC ?_ | (exfalso; omega) | refine wK ?_ | refine zq rfl ?_ ?_ <;> intro hc | fail)
    exact zH (zj rfl rfl rfl) (by simp)
set_option maxHeartbeats 2000000 in
theorem zew (v : ByteArray) (hv : v.size ≤ 900000) (c : Int) (p n : Nat) (hp : p + n ≤ 1000) : Spec Try.prog 47 [.t (.str v), .t (.int .i64 c), .t (.int .i64 (p : Int)), .t (.int .i64 ((p + n : Nat) : Int))] [] (.t (.str (yq v c p n))) [] := by
  refine wI Try.func47 ?_
  repeat' (first | refine wC ?_ | refine wK ?_ | fail)
  refine zc (za [0, 1, 3, 9] [] rfl rfl) ?_
  refine zh (fun q env st => ∃ (j : Nat), j ≤ n ∧ q = n - j ∧
      env = EnvL.get [(0, .t (.str (yq v c p j))), (1, .t (.int .i64 c)), (3, .t (.int .i64 ((p + n : Nat) : Int))), (9, .t (.int .i64 ((p + j : Nat) : Int)))] ∧ st = StO.get [])
    ?_ (n := n) ⟨0, by omega, rfl, rfl, rfl⟩
  rintro q env st ⟨j, hj, rfl, rfl, rfl⟩
  have hz := zcl v c p j
  by_cases hlt : j < n
  · have hS := zeF (yq v c p j) (by omega) c ((p + j : Nat) : Int)
    rw [show vQ (yq v c p j) c ((p + j : Nat) : Int) = yq v c p (j + 1) from rfl] at hS
    repeat' (first | refine wC ?_ | (exfalso; omega) | refine wK ?_ | ((with_reducible refine zp ?_); refine wL hS ?_) | refine zq rfl ?_ ?_ <;> intro hc | fail)
    refine zC (n' := n - (j + 1)) (by omega) (za [0, 1, 3, 9] [] rfl rfl) ⟨j + 1, by omega, rfl, ?_, rfl⟩
    rw [zl (by omega) (by omega), show ((p + j : Nat) : Int) + 1 = ((p + (j + 1) : Nat) : Int) by omega]
    rfl
  · obtain rfl : j = n := by omega
    repeat' (first | refine wC ?_ | (exfalso; omega) | refine wK ?_ | refine zq rfl ?_ ?_ <;> intro hc | fail)
    exact zH (zj rfl rfl rfl) (by simp)
def zeX (d : Nat → Nat) : List Int := (List.range 36).map (fun i => (d i : Int))
theorem zdH (d : Nat → Nat) : (zeX d).length = 36 := by simp [zeX]
theorem zdD (d : Nat → Nat) {j : Nat} (hj : j < 36) : (zeX d).getD (j : Int).toNat default = (d j : Int) := by
  simp [zeX, List.getD_eq_getElem?_getD, hj]
theorem zbW (Y : ByteArray) : zc1 Y 36 = (zeX (vA Y)).map (T.int .i64) := by simp [zc1, zeX, Function.comp_def]
def bst (q : Id) (t : Nat) (s : ByteArray) : Nat → StO
  | 0 => [(q, some (.var t [.t .nilp, .t .nilsl]))]
  | _ + 1 => [(q, some (.var t [.ref q 0 0 0, .row (.loc 901)])), (.loc 901, some (.slt 5 1 (zQ s)))]
theorem zfq (v : ByteArray) (d : Nat → Nat) (j : Nat) : j0 v d (j + 1) = j0 v d j ++ zgr v d j := rfl
set_option maxHeartbeats 4000000 in
theorem zb8 (v : ByteArray) (hv : v.size ≤ 900000) (d : Nat → Nat) (hd : ∀ i, d i < 4) : Spec Try.prog 63 [.t (.str v), .t (.sl 1 ((zeX d).map (T.int .i64)))] [] (.t (.str (j0 v d 36))) [] := by
  have hlen := zdH d
  refine wI Try.func63 ?_
  repeat' (first | refine wC ?_ | refine wK ?_ | fail)
  refine zc (za [0, 5, 8, 9, 10] [.loc 5] rfl rfl) ?_
  refine zh (fun q env st => ∃ (j : Nat), j ≤ 36 ∧ q = 36 - j ∧
      env = EnvL.get [(0, .t (.str v)), (5, .ref (.loc 5) 0 0 0), (8, .t (.sl 1 ((zeX d).map (T.int .i64)))), (9, .t (.int .i64 ((zeX d).length : Int))), (10, .t (.int .i64 (j : Int)))] ∧
      st = StO.get (bst (.loc 5) 85 (j0 v d j) j))
    ?_ (n := 36) ⟨0, by omega, rfl, rfl, rfl⟩
  rintro q env st ⟨j, hj, rfl, rfl, rfl⟩
  rw [hlen]
  have hzj := jl v d j
  by_cases hlt : j < 36
  · have hg := zdD d hlt
    have hd4 := hd j
    have hS1 := zcI v (by omega) (j : Int)
    have hz1 := k7 v (j : Int)
    have hS2 := zd7 (zeY v (j : Int)) (by omega) (j : Int) 0 (d j) (by omega)
    rw [show yq (zeY v (j : Int)) (j : Int) 0 (d j) = zgr v d j from rfl, Nat.zero_add, ← hg] at hS2
    have hz2 := qw v d j
    have hsucc := zfq v d j
    generalize zeY v (j : Int) = X at *
    cases j with
    | zero =>
      have e0 : j0 v d 0 ++ zgr v d 0 = zgr v d 0 := ByteArray.empty_append
      rw [e0] at hsucc
      rw [← hsucc] at hS2 hz2
      have hw := zaK (j0 v d (0 + 1)) (by omega)
      unfold ziX ze0 at hw
      repeat' (first | refine wC ?_ | refine wK ?_ | ((with_reducible refine zi ?_); refine zn rfl rfl rfl rfl rfl rfl ?_ ?_ ?_) | ((with_reducible refine zp ?_); first | refine wL hS1 ?_ | refine wL hS2 ?_ | refine wN (.tup [_, _]) [(.par 0, .loc 5), (.res 0, .loc 901)] hw ?_) | fail)
      all_goals try omega
      exact zC (n' := 36 - (0 + 1)) (by omega) (za [0, 5, 8, 9, 10] [.loc 5, .loc 901] rfl rfl) ⟨0 + 1, by omega, rfl, rfl, rfl⟩
    | succ k =>
      have hw := zbg (zQ (j0 v d (k + 1))) (zgr v d (k + 1)) (by rw [yf]; omega)
      rw [← qf, ← hsucc] at hw
      unfold zds ze0 at hw
      unfold bst
      repeat' (first | refine wC ?_ | (exfalso; omega) | refine wK ?_ | ((with_reducible refine zi ?_); refine zn rfl rfl rfl rfl rfl rfl ?_ ?_ ?_) | ((with_reducible refine zp ?_); first | refine wL hS1 ?_ | refine wL hS2 ?_ | refine wN (.tup [_, _]) [(.par 0, .loc 5), (.par 1, .loc 901), (.res 0, .loc 902)] hw ?_) | refine zq rfl ?_ ?_ <;> intro hc | fail)
      all_goals try omega
      refine zC (n' := 36 - (k + 1 + 1)) (by omega) ((za [0, 5, 8, 9, 10] [.loc 5, .loc 902] rfl rfl).trans (zw (.loc 902) (.loc 901) rfl rfl rfl rfl)) ⟨k + 1 + 1, by omega, rfl, by rw [zl (by omega) (by omega)]; rfl, rfl⟩
  · obtain rfl : j = 36 := by omega
    have hne : (j0 v d 36).data.toList ≠ [] := by
      intro h
      have h3 := zZ (j0 v d 36)
      rw [h] at h3
      simp at h3; omega
    have hS := jD (j0 v d 36).data.toList (by rw [zZ]; omega) hne
    rw [wX, ← wc] at hS
    unfold zds at hS
    generalize j0 v d 36 = X at hS ⊢
    unfold bst
    repeat' (first | refine wC ?_ | refine wK ?_ | ((with_reducible refine zp ?_); refine wN (.t (.str _)) [(.par 0, .loc 5), (.par 1, .loc 901)] hS ?_) | fail)
    exact zH (zj rfl rfl rfl) (by simp)
set_option maxHeartbeats 2000000 in
theorem zf3 (v m : ByteArray) (hv : v.size ≤ 900000) (hm : m.size ≤ 900000) : Spec Try.prog 43 [.t (.str v), .t (.str m)] [] (.t (.str (zeZ v m))) [] := by
  have h1 := zc9 m (by omega)
  have h2 := zb8 v hv (vA (sha m)) (jd _)
  rw [zbW] at h1
  unfold zeZ
  generalize j0 v (vA (sha m)) 36 = Y at h2 ⊢
  generalize zeX (vA (sha m)) = L at h1 h2
  refine wI Try.func43 ?_
  repeat' (first | refine wC ?_ | refine wK ?_ | ((with_reducible refine zp ?_); first | refine wL h1 ?_ | refine wL h2 ?_) | fail)
  exact zH (zj rfl rfl rfl) (by simp)
def zhg (j : Nat) : List T := (List.range 36).map (fun i => T.int .i64 (if i < j then 3 else 0))
theorem zhp (j : Nat) (hj : j < 36) : (zhg j).set (j : Int).toNat (.int .i64 3) = zhg (j + 1) := by
  apply List.ext_getElem
  · simp [zhg]
  · intro i h1 h2
    simp only [zhg, List.length_set, List.length_map, List.length_range] at h1
    simp only [zhg, List.getElem_set, List.getElem_map, List.getElem_range, Int.toNat_natCast]
    by_cases h : j = i
    · subst h; rw [if_pos rfl, if_pos (by omega)]
    · rw [if_neg h]
      by_cases h' : i < j
      · rw [if_pos h', if_pos (by omega)]
      · rw [if_neg h', if_neg (by omega)]
theorem zhn : zhg 36 = (zeX (fun _ => 3)).map (T.int .i64) := rfl
set_option maxHeartbeats 2000000 in
theorem zdn (v : ByteArray) (hv : v.size ≤ 900000) : Spec Try.prog 78 [.t (.str v)] [] (.t (.str (kc v))) [] := by
  have h2 := zb8 v hv (fun _ => 3) (fun _ => by omega)
  have hz := jl v (fun _ => 3) 36
  have hS := ww (j0 v (fun _ => 3) 36) (by omega)
  unfold kc
  generalize zL (j0 v (fun _ => 3) 36) = Y at hS ⊢
  generalize j0 v (fun _ => 3) 36 = W at *
  rw [← zhn] at h2
  refine wI Try.func78 ?_
  repeat' (first | refine wC ?_ | refine wK ?_ | ((with_reducible refine xh ?_); refine yX (zT := .int _ _) rfl rfl rfl rfl rfl rfl rfl rfl rfl ?_ ?_ ?_ ?_ ?_) | fail)
  all_goals try decide
  refine zc (za [0, 3, 7, 8] [.loc 5] rfl rfl) ?_
  refine zh (fun q env st => ∃ (j : Nat), j ≤ 36 ∧ q = 36 - j ∧
      env = EnvL.get [(0, .t (.str v)), (3, .row (.loc 5)), (7, .t (.int .i64 36)), (8, .t (.int .i64 (j : Int)))] ∧
      st = StO.get [(.loc 5, some (.slt 3 1 (zhg j)))])
    ?_ (n := 36) ⟨0, by omega, rfl, rfl, rfl⟩
  rintro q env st ⟨j, hj, rfl, rfl, rfl⟩
  have hlen : (zhg j).length = 36 := by simp [zhg]
  by_cases hlt : j < 36
  · have hset := zhp j hlt
    repeat' (first | refine wC ?_ | (exfalso; omega) | refine wK ?_ | ((with_reducible refine xa ?_); refine xq rfl rfl rfl rfl rfl rfl ?_ ?_ ?_) | ((with_reducible refine zi ?_); refine ye rfl rfl rfl rfl rfl rfl rfl ?_ ?_ ?_) | refine zq rfl ?_ ?_ <;> intro hc | fail)
    all_goals try omega
    · rfl
    refine zC (n' := 36 - (j + 1)) (by omega) (za [0, 3, 7, 8] [.loc 5] rfl rfl) ⟨j + 1, by omega, rfl, by rw [zl (by omega) (by omega)]; rfl, ?_⟩
    rw [← hset]; rfl
  · obtain rfl : j = 36 := by omega
    refine zc (zI (id := .loc 5) rfl rfl rfl) ?_
    repeat' (first | refine wC ?_ | refine wK ?_ | ((with_reducible refine zp ?_); first | refine wL h2 ?_ | refine wL hS ?_) | fail)
    all_goals exact zH (zj rfl rfl rfl) (by simp)
theorem zfz (d : Nat → Nat) (w : ByteArray) (j : Nat) : zgo d w (j + 1) = zgo d w j ++ zjk d w j := rfl
def zk1 (w : ByteArray) : Int := if w.size = 576 then 0 else 8
def zkk (m w : ByteArray) : ByteArray := if w.size = 576 then zkl m w else ⟨#[]⟩
set_option maxHeartbeats 4000000 in
theorem zbc (m w : ByteArray) (hm : m.size ≤ 900000) (hw : w.size ≤ 900000) : Spec Try.prog 29 [.t (.str m), .t (.str w)] [] (.tup [.t (.str (zkk m w)), .t (.int .i64 (zk1 w))]) [] := by
  unfold zkk zk1
  by_cases h0 : w.size = 576
  · rw [if_pos h0, if_pos h0]
    have h0' : (w.size : Int) = 576 := by omega
    have h1 := zbF m (by omega)
    rw [zbW] at h1
    unfold zkl
    have hd := jd (sha m)
    generalize vA (sha m) = d at h1 hd ⊢
    have hlen := zdH d
    have hze := jj (d := d) (w := w) 36 (by omega)
    have hSh := wO (zgo d w 36) (by omega)
    generalize zL (zgo d w 36) = Y at hSh ⊢
    refine wI Try.func29 ?_
    repeat' (first | refine wC ?_ | (exfalso; omega) | refine wK ?_ | ((with_reducible refine zp ?_); refine wL h1 ?_) | refine y8 rfl ?_ ?_ <;> intro hc | fail)
    refine zc (za [1, 6, 13, 14, 15] [] rfl rfl) ?_
    refine zh (fun q env st => ∃ (j : Nat), j ≤ 36 ∧ q = 36 - j ∧
        env = EnvL.get [(1, .t (.str w)), (6, .t (.str (zgo d w j))), (13, .t (.sl 1 ((zeX d).map (T.int .i64)))), (14, .t (.int .i64 36)), (15, .t (.int .i64 (j : Int)))] ∧ st = StO.get [])
      ?_ (n := 36) ⟨0, by omega, rfl, rfl, rfl⟩
    rintro q env st ⟨j, hj, rfl, rfl, rfl⟩
    have hzj := jj (d := d) (w := w) j (by omega)
    by_cases hlt : j < 36
    · have hg := zdD d hlt
      have hd4 := hd j
      have hex : (w.extract (16 * j) (16 * (j + 1))).size = 16 := by rw [ByteArray.size_extract]; omega
      have hS2 := zew (w.extract (16 * j) (16 * (j + 1))) (by omega) (j : Int) (d j) (3 - d j) (by omega)
      rw [show yq (w.extract (16 * j) (16 * (j + 1))) (j : Int) (d j) (3 - d j) = zjk d w j from rfl, show d j + (3 - d j) = 3 by omega, ← hg] at hS2
      have hz2 : (zjk d w j).size = 16 := zbP (by omega)
      have hsucc := zfz d w j
      have i1 : IntKind.i64.wrap ((j : Int) * 16) = ((16 * j : Nat) : Int) := by rw [zl (by omega) (by omega)]; omega
      have i2 : IntKind.i64.wrap ((j : Int) + 1) = ((j + 1 : Nat) : Int) := by rw [zl (by omega) (by omega)]; omega
      have i3 : IntKind.i64.wrap (((j + 1 : Nat) : Int) * 16) = ((16 * (j + 1) : Nat) : Int) := by rw [zl (by omega) (by omega)]; omega
      have e1 : w.extract (IntKind.i64.wrap ((j : Int) * 16)).toNat (IntKind.i64.wrap (IntKind.i64.wrap ((j : Int) + 1) * 16)).toNat = w.extract (16 * j) (16 * (j + 1)) := by rw [i2, i1, i3]; rfl
      rw [← e1] at hS2
      repeat' (first | refine wC ?_ | (exfalso; omega) | refine wK ?_ | ((with_reducible refine zW ?_); refine zX rfl rfl rfl rfl rfl rfl ?_ ?_) | ((with_reducible refine zi ?_); refine zn rfl rfl rfl rfl rfl rfl ?_ ?_ ?_) | ((with_reducible refine yK ?_); refine zy rfl rfl ⟨_, rfl⟩ ⟨_, rfl⟩ rfl rfl rfl ?_ ?_ ?_ ?_) | ((with_reducible refine zp ?_); refine wL hS2 ?_) | refine zq rfl ?_ ?_ <;> intro hc | fail)
      all_goals try (simp only [i1, i2, i3]; omega)
      all_goals try omega
      refine zC (n' := 36 - (j + 1)) (by omega) (za [1, 6, 13, 14, 15] [] rfl rfl) ⟨j + 1, by omega, rfl, ?_, rfl⟩
      rw [hsucc, i2]; rfl
    · obtain rfl : j = 36 := by omega
      generalize zgo d w 36 = X at *
      repeat' (first | refine wC ?_ | refine wK ?_ | ((with_reducible refine zp ?_); refine wL hSh ?_) | fail)
      exact zH (yI rfl rfl rfl rfl rfl) (by simp)
  · rw [if_neg h0, if_neg h0]
    have h0' : (w.size : Int) ≠ 576 := by omega
    refine wI Try.func29 ?_
    repeat' (first | refine wC ?_ | (exfalso; omega) | refine wK ?_ | refine y8 rfl ?_ ?_ <;> intro hc | fail)
    exact zH (yI rfl rfl rfl rfl rfl) (by simp)
end Go.AL
namespace Go.AL
open Go Go.RowKit
def xX : ByteArray := ⟨#[65, 66, 67, 68, 69, 70, 71, 72, 73, 74, 75, 76, 77, 78, 79, 80, 81, 82, 83, 84, 85, 86, 87, 88, 89, 90, 97, 98, 99, 100, 101, 102, 103, 104, 105, 106, 107, 108, 109, 110, 111, 112, 113, 114, 115, 116, 117, 118, 119, 120, 121, 122, 48, 49, 50, 51, 52, 53, 54, 55, 56, 57, 45, 95]⟩
abbrev w64 (n : Int) : Int := IntKind.i64.wrap n
abbrev zhG (a b : Int) : Int := w64 ((BitVec.ofInt 64 a ||| BitVec.ofInt 64 b).toNat : Int)
abbrev zbt (a b : Int) : Int := w64 ((BitVec.ofInt 64 a &&& BitVec.ofInt 64 b).toNat : Int)
theorem zdy (x : Int) : 0 ≤ zbt x 63 ∧ zbt x 63 < 64 := by
  have h : (BitVec.ofInt 64 x &&& BitVec.ofInt 64 63).toNat ≤ 63 := by
    rw [BitVec.toNat_and]
    exact Nat.le_trans Nat.and_le_right (by decide)
  unfold zbt w64
  rw [zl (by omega) (by omega)]
  omega
theorem ze3 (n : Nat) (hn : n ≤ 62) {a b : Int} (ha0 : 0 ≤ a) (ha : a < 2 ^ n) (hb0 : 0 ≤ b) (hb : b < 2 ^ n) : 0 ≤ zhG a b ∧ zhG a b < 2 ^ n := by
  have hp : (2 : Int) ^ n ≤ 2 ^ 62 := by
    have : (2 : Nat) ^ n ≤ 2 ^ 62 := Nat.pow_le_pow_right (by omega) hn
    exact_mod_cast this
  have h1 : (BitVec.ofInt 64 a).toNat = a.toNat := by
    rw [BitVec.toNat_ofInt]
    congr 1
    omega
  have h2 : (BitVec.ofInt 64 b).toNat = b.toNat := by
    rw [BitVec.toNat_ofInt]
    congr 1
    omega
  have h : (BitVec.ofInt 64 a ||| BitVec.ofInt 64 b).toNat < 2 ^ n := by
    rw [BitVec.toNat_or, h1, h2]
    refine Nat.or_lt_two_pow ?_ ?_
    · have : ((a.toNat : Nat) : Int) < ((2 ^ n : Nat) : Int) := by rw [Int.toNat_of_nonneg ha0]; exact_mod_cast ha
      exact_mod_cast this
    · have : ((b.toNat : Nat) : Int) < ((2 ^ n : Nat) : Int) := by rw [Int.toNat_of_nonneg hb0]; exact_mod_cast hb
      exact_mod_cast this
  have h' : ((BitVec.ofInt 64 a ||| BitVec.ofInt 64 b).toNat : Int) < 2 ^ n := by exact_mod_cast h
  unfold zhG w64
  rw [zl (by omega) (by omega)]
  exact ⟨by omega, h'⟩
theorem j7 (s : ByteArray) (i : Int) : 0 ≤ bAt s i ∧ bAt s i ≤ 255 := by
  unfold bAt
  have := (s.data.toList.getD i.toNat 0).toNat_lt
  omega
def n24 (a b c : Int) : Int := zhG (zhG (w64 (w64 a * 2 ^ min (16 : Int).toNat 64)) (w64 (w64 b * 2 ^ min (8 : Int).toNat 64))) (w64 c)
theorem zcr {a b c : Int} (ha : 0 ≤ a ∧ a ≤ 255) (hb : 0 ≤ b ∧ b ≤ 255) (hc : 0 ≤ c ∧ c ≤ 255) : 0 ≤ n24 a b c ∧ n24 a b c < 16777216 := by
  have e1 : (2 : Int) ^ min (16 : Int).toNat 64 = 65536 := by decide
  have e2 : (2 : Int) ^ min (8 : Int).toNat 64 = 256 := by decide
  unfold n24
  rw [e1, e2]
  unfold w64
  rw [zl (n := a) (by omega) (by omega), zl (n := b) (by omega) (by omega), zl (n := c) (by omega) (by omega), zl (n := a * 65536) (by omega) (by omega), zl (n := b * 256) (by omega) (by omega)]
  have h1 := ze3 24 (by decide) (a := a * 65536) (b := b * 256) (by omega) (by omega) (by omega) (by omega)
  exact ze3 24 (by decide) h1.1 h1.2 (by omega) (by omega)
def zjh (n : Int) : List T := [.int .u8 (bAt xX (n / 2 ^ min (18 : Int).toNat 64)), .int .u8 (bAt xX (zbt (n / 2 ^ min (12 : Int).toNat 64) 63)), .int .u8 (bAt xX (zbt (n / 2 ^ min (6 : Int).toNat 64) 63)), .int .u8 (bAt xX (zbt n 63))]
theorem ziB (n : Int) : IsU8 (zjh n) := by
  intro e he
  simp [zjh] at he
  rcases he with rfl | rfl | rfl | rfl <;> rfl
theorem zeQ : (xX.size : Int) = 64 := by decide
theorem zbH {n : Int} (h : 0 ≤ n ∧ n < 16777216) : 0 ≤ n / 2 ^ min (18 : Int).toNat 64 ∧ n / 2 ^ min (18 : Int).toNat 64 < 64 := by
  have e1 : (2 : Int) ^ min (18 : Int).toNat 64 = 262144 := by decide
  rw [e1]
  omega
def zfE : Nat → ByteArray → List T
  | 0, _ => []
  | k + 1, s => zjh (n24 (bAt s 0) (bAt s 1) (bAt s 2)) ++ zfE k (s.extract 3 s.size)
theorem kR : ∀ (k : Nat) (s : ByteArray), (zfE k s).length = 4 * k
  | 0, _ => rfl
  | k + 1, s => by simp [zfE, kR k, zjh]; omega
theorem zhv (r : ByteArray) : r = ⟨#[]⟩ ∨ 0 < r.size := by
  by_cases h : r.size = 0
  · left
    obtain ⟨d⟩ := r
    have : d.size = 0 := h
    simp [Array.eq_empty_of_size_eq_zero this]
  · exact .inr (by omega)
theorem IsU8.append {xs ys : List T} (h1 : IsU8 xs) (h2 : IsU8 ys) : IsU8 (xs ++ ys) := fun e he => by
  rcases List.mem_append.1 he with h | h
  · exact h1 e h
  · exact h2 e h
def xQ (s : ByteArray) : ByteArray × Int :=
  if 65536 < (s.size : Int) then (⟨#[]⟩, 3) else if (s.size : Int).tmod 3 ≠ 0 then (⟨#[]⟩, 8) else (qq (zfE (s.size / 3) s), 0)
end Go.AL
namespace Go.AL
open Go Go.Proofs Go.RowKit
set_option maxHeartbeats 2000000 in
theorem zda (s : ByteArray) (hs : s.size ≤ 9223372036854775807) : Spec Try.prog 56 [.t (.str s)] [] (.tup [.t (.str (xQ s).1), .t (.int .i64 (xQ s).2)]) [] := by
  refine wI Try.func56 ?_
  repeat' (first | refine wC ?_ | refine wK ?_ | ((with_reducible refine xh ?_); refine yX (zT := .int _ _) rfl rfl rfl rfl rfl rfl rfl rfl rfl ?_ ?_ ?_ ?_ ?_) | refine zq rfl ?_ ?_ <;> intro hc | refine y8 rfl ?_ ?_ <;> intro hc | fail)
  case' refine_1 =>
    refine zH (yI rfl rfl rfl ?_ ?_) (by simp) <;> simp [xQ, hc]
  case' refine_2.refine_2 =>
    refine zH (yI rfl rfl rfl ?_ ?_) (by simp) <;> simp [xQ, *]
  all_goals
    have q1 : (s.size : Int).tdiv 3 = ((s.size / 3 : Nat) : Int) := rfl
    have q3 : (s.size : Int).tmod 3 = ((s.size % 3 : Nat) : Int) := rfl
    rw [q3] at hc
    have q0 : 3 * (s.size / 3) = s.size := by omega
    have q2 : IntKind.i64.wrap (IntKind.i64.wrap ((s.size : Int).tdiv 3) * 4) = (4 * (s.size / 3) : Nat) := by
      rw [q1, zl (n := ((s.size / 3 : Nat) : Int)) (by omega) (by omega), zl (by omega) (by omega)]
      omega
  case' refine_2.refine_1.refine_1 => decide
  case' refine_2.refine_1.refine_2 => omega
  case' refine_2.refine_1.refine_3 => omega
  case' refine_2.refine_1.refine_4 => omega
  refine zc (za [0, 2, 3, 4] [.loc 19] rfl rfl) ?_
  refine zh (fun n env st => ∃ (k : Nat) (r : ByteArray) (es : List T), r.size = 3 * k ∧ n = k ∧ IsU8 es ∧ es.length + 4 * k = 4 * (s.size / 3) ∧ es ++ zfE k r = zfE (s.size / 3) s ∧
      env = EnvL.get [(0, .t (.str r)), (2, .t (.str ⟨#[]⟩)), (3, .t (.int .i64 0)), (4, .row (.loc 19))] ∧ st = StO.get [(.loc 19, some (.slt 5 1 es))]) ?_ (n := s.size / 3) ⟨s.size / 3, s, _, by omega, rfl, ?_, ?_, ?_, rfl, rfl⟩
  · rintro n env st ⟨k, r, es, hr, rfl, hu, hl, he, rfl, rfl⟩
    have hz := zhv r
    repeat' (first | refine wC ?_ | refine wK ?_ | ((with_reducible refine yB ?_); refine zM rfl rfl rfl rfl rfl rfl ?_ ?_ ?_) | ((with_reducible refine z7 ?_); refine zE rfl rfl rfl rfl rfl rfl ?_ ?_) | ((with_reducible refine yK ?_); refine zy rfl rfl ⟨_, rfl⟩ rfl rfl rfl rfl ?_ ?_ ?_ ?_) | ((with_reducible refine z6 ?_); refine zx rfl rfl rfl rfl rfl rfl rfl rfl rfl rfl ?_ ?_ ?_) | refine y8 rfl ?_ ?_ <;> intro hc | fail)
    all_goals try have hp := hz.resolve_left hc
    all_goals try first | omega | exact hu | exact (zbH (zcr (j7 _ _) (j7 _ _) (j7 _ _))).1 | exact (zbH (zcr (j7 _ _) (j7 _ _) (j7 _ _))).2 | exact (zdy _).1 | exact (zdy _).2 | (simp only [List.length_cons, List.length_nil]; omega)
    · subst hc
      have hn : n = 0 := by
        have : 0 = 3 * n := hr
        omega
      subst hn
      simp [zfE] at he
      subst he
      refine zH (yI rfl rfl rfl ?_ ?_) (by simp) <;> simp [xQ, *]
    · obtain ⟨m, rfl⟩ : ∃ m, n = m + 1 := ⟨n - 1, by omega⟩
      refine zC (n' := m) (by omega) ((za [0, 2, 3, 4] [.loc 53] rfl rfl).trans (zw (.loc 53) (.loc 19) rfl rfl rfl rfl)) ⟨m, _, _, ?_, rfl, ?_, ?_, ?_, rfl, rfl⟩
      · simp [ByteArray.size_extract]; omega
      · exact hu.append (ziB _)
      · simp; omega
      · rw [List.append_assoc]; exact he
  · intro e he; simp at he
  · simp
  · simp
def frm (k : Int) (s : ByteArray) (n : Int) : T × T := (.int .i64 k, .agg [.str s, .int .i64 n])
def zjl : List (T × T) := [frm 1 ⟨#[69]⟩ 32, frm 2 ⟨#[68]⟩ 32, frm 3 ⟨#[66]⟩ 32, frm 4 ⟨#[65]⟩ 32, frm 5 ⟨#[48, 65]⟩ 16, frm 6 ⟨#[77]⟩ 2, frm 7 ⟨#[83]⟩ 626, frm 8 ⟨#[49, 65, 65, 76]⟩ 6]
set_option maxHeartbeats 2000000 in
theorem zeI : Spec Try.prog 55 [] [] (.row (.res 0)) [(.res 0, .dat (.map zjl))] := by
  refine wIG Try.func55 ?_
  repeat' (first | refine wC ?_ | refine wK ?_ | ((with_reducible refine zgS ?_); refine zge rfl rfl rfl rfl rfl rfl rfl rfl ?_ ?_) | fail)
  all_goals try rfl
  refine yc (za [0] [.loc 1] rfl rfl) ?_
  refine yc (zw (.loc 1) (.res 0) rfl rfl rfl rfl) ?_
  exact y5 (zH (xB rfl (AVLE.of_eq rfl)) (zN ⟨rfl, trivial⟩))
def zjJ (x : Int) : ByteArray := if x = 1 then ⟨#[69]⟩ else if x = 2 then ⟨#[68]⟩ else if x = 3 then ⟨#[66]⟩ else if x = 4 then ⟨#[65]⟩ else if x = 5 then ⟨#[48, 65]⟩ else if x = 6 then ⟨#[77]⟩ else if x = 7 then ⟨#[83]⟩ else if x = 8 then ⟨#[49, 65, 65, 76]⟩ else ⟨#[]⟩
def kv (x : Int) : Int := if x = 1 then 32 else if x = 2 then 32 else if x = 3 then 32 else if x = 4 then 32 else if x = 5 then 16 else if x = 6 then 2 else if x = 7 then 626 else if x = 8 then 6 else 0
theorem to9 {x : Int} (h0 : 0 ≤ x) (h1 : x ≤ 9) : x = 0 ∨ x = 1 ∨ x = 2 ∨ x = 3 ∨ x = 4 ∨ x = 5 ∨ x = 6 ∨ x = 7 ∨ x = 8 ∨ x = 9 := by omega
set_option maxHeartbeats 2000000 in
theorem ze7 (c : ByteArray) (n : Int) (h0 : 0 ≤ n) (h1 : n ≤ 1000) : Spec Try.prog 58 [.t (.agg [.str c, .int .i64 n])] [] (.t (.int .i64 ((3 - n % 3) % 3))) [] := by
  have e1 : n.tmod 3 = n % 3 := Int.tmod_eq_emod_of_nonneg h0
  have e2 : (3 - n % 3).tmod 3 = (3 - n % 3) % 3 := Int.tmod_eq_emod_of_nonneg (by omega)
  have w1 : IntKind.i64.wrap (3 - n % 3) = 3 - n % 3 := zl (by omega) (by omega)
  refine wI Try.func58 ?_
  repeat' (first | refine wC ?_ | refine wK ?_ | fail)
  refine zH (zj rfl rfl ?_) (by simp)
  rw [e1, w1, e2]
theorem zkP (h : Heap) : RepT h (.agg #[.string ⟨#[]⟩, .int .i64 0]) (.agg [.str ⟨#[]⟩, .int .i64 0]) := ⟨_, rfl, rfl, ⟨_, rfl, rfl, rfl⟩, ⟨_, rfl, rfl, rfl⟩, trivial⟩
def okB (x : Int) : Bool := decide (1 ≤ x ∧ x ≤ 8)
def ldS (n : Int) : Int := (3 - n % 3) % 3
def szF (c : ByteArray) (n : Int) : Int := (c.size : Int) + (n + ldS n) / 3 * 4 - ldS n
def zkM (x : Int) : Int := if okB x = true then szF (zjJ x) (kv x) else 0
theorem zgj (x : Int) : (zjJ x).size ≤ 4 := by unfold zjJ; (repeat' split) <;> decide
theorem zao (x : Int) : 0 ≤ kv x ∧ kv x ≤ 626 := by unfold kv; (repeat' split) <;> decide
def zcu (c : Nat) : ByteArray := ⟨(Lib.repeatL (⟨#[0]⟩ : ByteArray).data.toList c).toArray⟩
theorem zbJ (c : Nat) : (zcu c).size = c := by
  unfold zcu
  have : ∀ c, (Lib.repeatL ([0] : List UInt8) c).length = c := fun c => by
    induction c with
    | zero => rfl
    | succ c ih => simp only [Lib.repeatL, List.length_append, ih, List.length_singleton]; omega
  rw [ByteArray.size, List.size_toArray]
  exact this c
def qZ (x : Int) (r : ByteArray) : ByteArray := zjJ x ++ (xQ (zcu (ldS (kv x)).toNat ++ r)).1.extract (ldS (kv x)).toNat (xQ (zcu (ldS (kv x)).toNat ++ r)).1.size
theorem zb1 (n : Int) : 0 ≤ ldS n ∧ ldS n ≤ 2 := by unfold ldS; omega
theorem zhJ (s : ByteArray) (hs : s.size ≤ 65536) (h3 : s.size % 3 = 0) : (xQ s).2 = 0 ∧ (xQ s).1.size = 4 * (s.size / 3) := by
  have q3 : (s.size : Int).tmod 3 = ((s.size % 3 : Nat) : Int) := rfl
  unfold xQ
  rw [if_neg (by omega), if_neg (by rw [q3, h3]; simp)]
  refine ⟨rfl, ?_⟩
  show (qq (zfE (s.size / 3) s)).size = _
  unfold qq
  rw [strOfNums_size, List.length_map, kR]
set_option maxHeartbeats 8000000 in
theorem zdb (x : Int) (h0 : 1 ≤ x) (h1 : x ≤ 8) (r : ByteArray) (hr : (r.size : Int) = kv x) : Spec Try.prog 35 [.t (.agg [.int .i64 x, .str r])] [] (.tup [.t (.str (qZ x r)), .t (.int .i64 0)]) [] := by
  have hF := zeI
  unfold zjl frm at hF
  have hrr := zao x
  have hL := ze7 (zjJ x) (kv x) hrr.1 (by omega)
  rw [show (3 - kv x % 3) % 3 = ldS (kv x) from rfl] at hL
  have hl := zb1 (kv x)
  have hl3 : (ldS (kv x) + kv x) % 3 = 0 := by unfold ldS; omega
  unfold qZ
  have hcs := zgj x
  obtain ⟨d, hd⟩ : ∃ d : Nat, ldS (kv x) = d := ⟨(ldS (kv x)).toNat, by omega⟩
  rw [hd] at hL hl hl3 ⊢
  rw [Int.toNat_natCast]
  have hR := jA ⟨#[0]⟩ d (by omega) (by show 1 * d ≤ _; omega)
  rw [show (⟨(Lib.repeatL (⟨#[0]⟩ : ByteArray).data.toList d).toArray⟩ : ByteArray) = zcu d from rfl] at hR
  have hzz := zbJ d
  generalize zcu d = Z at hR hzz ⊢
  have hzs : (Z ++ r).size = d + r.size := by rw [ByteArray.size_append, hzz]
  have hB := zda (Z ++ r) (by omega)
  obtain ⟨b1, b2⟩ := zhJ (Z ++ r) (by omega) (by omega)
  rw [b1] at hB
  generalize (xQ (Z ++ r)).1 = E at hB b2 ⊢
  have hEx : ∀ a b, (E.extract a b).size ≤ 100000 := fun a b => by rw [ByteArray.size_extract]; omega
  rcases to9 (by omega : 0 ≤ x) (by omega) with rfl | rfl | rfl | rfl | rfl | rfl | rfl | rfl | rfl | rfl
  · omega
  all_goals try (exfalso; omega)
  all_goals
    have hr' : (r.size : Int) = _ := hr
    refine wI Try.func35 ?_
    repeat' (first | refine wC ?_ | refine zbQ (zT := .agg [.str ⟨#[]⟩, .int .i64 0]) rfl rfl rfl zkP rfl rfl rfl rfl rfl rfl ?_ | refine wK ?_ | ((with_reducible refine zW ?_); refine zX rfl rfl rfl rfl rfl rfl ?_ ?_) | ((with_reducible refine yK ?_); refine zy rfl rfl ⟨_, rfl⟩ rfl rfl rfl rfl ?_ ?_ ?_ ?_) | ((with_reducible refine zp ?_); first | refine wN (.row (.loc 900)) [(.res 0, .loc 900)] hF ?_ | refine wL hL ?_ | refine wL hR ?_ | refine wL hB ?_) | refine y8 rfl ?_ ?_ <;> intro hc | fail)
    all_goals try omega
    all_goals try (exact absurd hr hc)
    · exact Nat.le_trans (Nat.add_le_add hcs (hEx _ _)) (by decide)
    · exact zH (yI rfl rfl rfl rfl rfl) (by simp)
theorem zck (x : Int) (h0 : 1 ≤ x) (h1 : x ≤ 8) (r : ByteArray) (hr : (r.size : Int) = kv x) : Spec Try.prog 19 [.t (.int .i64 x), .t (.str r)] [] (.t (.str (qZ x r))) [] := by
  have hE := zdb x h0 h1 r hr
  generalize qZ x r = Y at hE ⊢
  refine wI Try.func19 ?_
  repeat' (first | refine wC ?_ | refine wK ?_ | ((with_reducible refine zp ?_); refine wL hE ?_) | fail)
  exact zH (zj rfl rfl rfl) (by simp)
theorem zfe (x : Int) (h0 : 1 ≤ x) (h1 : x ≤ 8) (r : ByteArray) (hr : (r.size : Int) = kv x) : ((qZ x r).size : Int) = zkM x := by
  have hl := zb1 (kv x)
  have hrr := zao x
  have hl3 : (ldS (kv x) + kv x) % 3 = 0 := by unfold ldS; omega
  have hzz := zbJ (ldS (kv x)).toNat
  have hok : okB x = true := decide_eq_true ⟨h0, h1⟩
  unfold qZ zkM szF
  rw [if_pos hok]
  generalize ldS (kv x) = d at *
  generalize zcu d.toNat = Z at *
  have hzs : (Z ++ r).size = d.toNat + r.size := by rw [ByteArray.size_append, hzz]
  obtain ⟨b1, b2⟩ := zhJ (Z ++ r) (by omega) (by omega)
  generalize (xQ (Z ++ r)).1 = E at *
  rw [ByteArray.size_append, ByteArray.size_extract]
  omega
set_option maxHeartbeats 1000000 in
theorem kW (s : ByteArray) (u : Int) (hs : s.size ≤ 900000) : Spec Try.prog 44 [.t (.str s), .t (.int .i64 u)] [] (.t (.str (va s u))) [] := by
  have z := ky u
  have hS := vr (s ++ byS u) (by rw [ByteArray.size_append]; omega)
  unfold va
  generalize sha (s ++ byS u) = Y at hS ⊢
  unfold byS at hS z
  refine wI Try.func44 ?_
  repeat' (first | refine wC ?_ | refine wK ?_ | ((with_reducible refine zW ?_); refine zX rfl rfl rfl rfl rfl rfl ?_ ?_) | ((with_reducible refine z7 ?_); refine zE rfl rfl rfl rfl rfl rfl ?_ ?_) | ((with_reducible refine zp ?_); refine wL hS ?_) | fail)
  all_goals try exact zaO _
  all_goals try omega
  exact zH (zj rfl rfl rfl) (by simp)
set_option maxHeartbeats 1000000 in
theorem zcN (p : ByteArray) (hp : p.size ≤ 900000) : Spec Try.prog 77 [.t (.str p)] [] (.t (.str (zg4 p))) [] := by
  have z : (⟨#[0]⟩ : ByteArray).size = 1 := rfl
  have hS := ww (⟨#[0]⟩ ++ p) (by rw [ByteArray.size_append]; omega)
  unfold zg4
  generalize zL (⟨#[0]⟩ ++ p) = Y at hS ⊢
  refine wI Try.func77 ?_
  repeat' (first | refine wC ?_ | refine wK ?_ | ((with_reducible refine zW ?_); refine zX rfl rfl rfl rfl rfl rfl ?_ ?_) | ((with_reducible refine zp ?_); refine wL hS ?_) | fail)
  all_goals try omega
  exact zH (zj rfl rfl rfl) (by simp)
set_option maxHeartbeats 1000000 in
theorem qD (a b : ByteArray) (ha : a.size ≤ 1000) (hb : b.size ≤ 1000) : Spec Try.prog 60 [.t (.str a), .t (.str b)] [] (.t (.str (jf a b))) [] := by
  have z : (⟨#[1]⟩ : ByteArray).size = 1 := rfl
  have z2 : (⟨#[1]⟩ ++ a : ByteArray).size = 1 + a.size := by rw [ByteArray.size_append, z]
  have hS := ww (⟨#[1]⟩ ++ a ++ b) (by rw [ByteArray.size_append]; omega)
  unfold jf
  generalize zL (⟨#[1]⟩ ++ a ++ b) = Y at hS ⊢
  refine wI Try.func60 ?_
  repeat' (first | refine wC ?_ | refine wK ?_ | ((with_reducible refine zW ?_); refine zX rfl rfl rfl rfl rfl rfl ?_ ?_) | ((with_reducible refine zp ?_); refine wL hS ?_) | fail)
  all_goals try omega
  exact zH (zj rfl rfl rfl) (by simp)
set_option maxHeartbeats 1000000 in
theorem xF (a b : ByteArray) (ha : a.size ≤ 1000) (hb : b.size ≤ 1000) : Spec Try.prog 31 [.t (.str a), .t (.str b)] [] (.t (.str (jf a b))) [] := by
  have z : (⟨#[1]⟩ : ByteArray).size = 1 := rfl
  have z2 : (⟨#[1]⟩ ++ a : ByteArray).size = 1 + a.size := by rw [ByteArray.size_append, z]
  have hS := wO (⟨#[1]⟩ ++ a ++ b) (by rw [ByteArray.size_append]; omega)
  unfold jf
  generalize zL (⟨#[1]⟩ ++ a ++ b) = Y at hS ⊢
  refine wI Try.func31 ?_
  repeat' (first | refine wC ?_ | refine wK ?_ | ((with_reducible refine zW ?_); refine zX rfl rfl rfl rfl rfl rfl ?_ ?_) | ((with_reducible refine zp ?_); refine wL hS ?_) | fail)
  all_goals try omega
  exact zH (zj rfl rfl rfl) (by simp)
set_option maxHeartbeats 1000000 in
theorem zfh (p : ByteArray) (hp : p.size ≤ 900000) : Spec Try.prog 36 [.t (.str p)] [] (.t (.str (zeW p))) [] := by
  have z : (⟨#[2]⟩ : ByteArray).size = 1 := rfl
  have hS := vr (⟨#[2]⟩ ++ p) (by rw [ByteArray.size_append]; omega)
  unfold zeW
  generalize sha (⟨#[2]⟩ ++ p) = Y at hS ⊢
  refine wI Try.func36 ?_
  repeat' (first | refine wC ?_ | refine wK ?_ | ((with_reducible refine zW ?_); refine zX rfl rfl rfl rfl rfl rfl ?_ ?_) | ((with_reducible refine zp ?_); refine wL hS ?_) | fail)
  all_goals try omega
  exact zH (zj rfl rfl rfl) (by simp)
set_option maxHeartbeats 1000000 in
theorem zfV (s : ByteArray) (u : Nat) (hs : s.size ≤ 900000) : Spec Try.prog 59 [.t (.str s), .t (.int .i64 (u : Int))] [] (.t (.str (ktL s 0 u))) [] := by
  have h1 := kW s (u : Int) hs
  have z := kU s (u : Int)
  have h2 := zdn (va s (u : Int)) (by omega)
  have z2 : (kc (va s (u : Int))).size = 16 := yH _
  have h3 := zcN (kc (va s (u : Int))) (by omega)
  rw [ktL]
  generalize zg4 (kc (va s (u : Int))) = Y at *
  generalize kc (va s (u : Int)) = Y2 at *
  generalize va s (u : Int) = Y3 at *
  refine wI Try.func59 ?_
  repeat' (first | refine wC ?_ | refine wK ?_ | ((with_reducible refine zp ?_); first | refine wL h1 ?_ | refine wL h2 ?_ | refine wL h3 ?_) | fail)
  exact zH (zj rfl rfl rfl) (by simp)
theorem vF (s : ByteArray) (k n : Nat) {i : Int} {m : Nat} (h : i = (m : Int)) (hm : m < n) : (zU s k n).getD i.toNat default = ktL s k m := by
  subst h; rw [Int.toNat_natCast]; exact zgA s k n hm
set_option maxHeartbeats 16000000 in
theorem zb0 (s : ByteArray) (hs : s.size ≤ 900000) : Spec Try.prog 37 [.t (.str s)] [] (.t (.agg [.sl 1 ((zU s 0 8).map .str), .sl 1 ((zU s 1 4).map .str), .sl 1 ((zU s 2 2).map .str), .sl 1 ((zU s 3 1).map .str)])) [] := by
  have l0 := yi s 0 8
  have l1 := yi s 1 4
  have l2 := yi s 2 2
  refine wI Try.func37 ?_
  repeat' (first | refine wC ?_ | refine wK ?_ | fail)
  refine zc (xn (r := .loc 3) 0 (.loc 900) 9 1 rfl rfl rfl rfl rfl) ?_
  refine zc (za [0, 2, 3, 7] [.loc 2, .loc 3, .loc 900] rfl rfl) ?_
  refine zh (fun q env st => ∃ (j : Nat), j ≤ 8 ∧ q = 8 - j ∧ env = EnvL.get [(0, .t (.str s)), (2, .ref (.loc 2) 0 0 0), (3, .ref (.loc 3) 0 0 0), (7, .t (.int .i64 (j : Int)))] ∧
      st = StO.get [(.loc 2, some (.var 63 [.t .nilsl, .t .nilsl, .t .nilsl, .t .nilsl])), (.loc 3, some (.var 63 [.row (.loc 900), .t .nilsl, .t .nilsl, .t .nilsl])), (.loc 900, some (.slt 9 1 ((zU s 0 j).map .str)))])
    ?_ (n := 8) ⟨0, by omega, rfl, rfl, rfl⟩
  rintro q env st ⟨j, hj, rfl, rfl, rfl⟩
  have wj : IntKind.i64.wrap ((j : Int) + 1) = ((j + 1 : Nat) : Int) := by rw [zl (by omega) (by omega)]; omega
  by_cases hlt : j < 8
  · have hL := zfV s j hs
    have hsuc := vx s 0 j
    have hln := yi s 0 j
    generalize ktL s 0 j = Y at *
    repeat' (first | refine wC ?_ | (exfalso; omega) | refine wK ?_ | ((with_reducible refine zi ?_); refine zr rfl rfl rfl rfl rfl rfl ?_ ?_ ?_) | ((with_reducible refine z6 ?_); refine zx rfl rfl rfl rfl rfl rfl rfl rfl rfl rfl ?_ ?_ ?_) | ((with_reducible refine zp ?_); refine wL hL ?_) | refine zq rfl ?_ ?_ <;> intro hc | fail)
    all_goals try (simp only [List.length_map, List.length_cons, List.length_nil]; omega)
    all_goals try omega
    all_goals exact zC (n' := 8 - (j + 1)) (by omega) ((za [0, 2, 3, 7] [.loc 2, .loc 3, .loc 16] rfl rfl).trans (zw (.loc 16) (.loc 900) rfl rfl rfl rfl)) ⟨j + 1, by omega, rfl, by rw [wj]; rfl, by rw [hsuc, List.map_append, List.map_singleton]; rfl⟩
  · obtain rfl : j = 8 := by omega
    refine zc (zI (id := .loc 900) rfl rfl rfl) ?_
    repeat' (first | refine wC ?_ | refine wK ?_ | fail)
    refine zc (za [0, 2, 3, 5] [.loc 2, .loc 3] rfl rfl) ?_
    refine zh (fun q env st => (q = 3 ∧ env = EnvL.get [(0, .t (.str s)), (2, .ref (.loc 2) 0 0 0), (3, .ref (.loc 3) 0 0 0), (5, .t (.int .i64 1))] ∧ st = StO.get [(.loc 2, some (.var 63 [.t .nilsl, .t .nilsl, .t .nilsl, .t .nilsl])), (.loc 3, some (.var 63 [.t (.sl 1 ((zU s 0 8).map .str)), .t .nilsl, .t .nilsl, .t .nilsl]))]) ∨ (q = 2 ∧ env = EnvL.get [(0, .t (.str s)), (2, .ref (.loc 2) 0 0 0), (3, .ref (.loc 3) 0 0 0), (5, .t (.int .i64 2))] ∧ st = StO.get [(.loc 2, some (.var 63 [.t .nilsl, .t .nilsl, .t .nilsl, .t .nilsl])), (.loc 3, some (.var 63 [.t (.sl 1 ((zU s 0 8).map .str)), .t (.sl 1 ((zU s 1 4).map .str)), .t .nilsl, .t .nilsl]))]) ∨ (q = 1 ∧ env = EnvL.get [(0, .t (.str s)), (2, .ref (.loc 2) 0 0 0), (3, .ref (.loc 3) 0 0 0), (5, .t (.int .i64 3))] ∧ st = StO.get [(.loc 2, some (.var 63 [.t .nilsl, .t .nilsl, .t .nilsl, .t .nilsl])), (.loc 3, some (.var 63 [.t (.sl 1 ((zU s 0 8).map .str)), .t (.sl 1 ((zU s 1 4).map .str)), .t (.sl 1 ((zU s 2 2).map .str)), .t .nilsl]))]) ∨ (q = 0 ∧ env = EnvL.get [(0, .t (.str s)), (2, .ref (.loc 2) 0 0 0), (3, .ref (.loc 3) 0 0 0), (5, .t (.int .i64 4))] ∧ st = StO.get [(.loc 2, some (.var 63 [.t .nilsl, .t .nilsl, .t .nilsl, .t .nilsl])), (.loc 3, some (.var 63 [.t (.sl 1 ((zU s 0 8).map .str)), .t (.sl 1 ((zU s 1 4).map .str)), .t (.sl 1 ((zU s 2 2).map .str)), .t (.sl 1 ((zU s 3 1).map .str))]))]))
      ?_ (n := 3) (.inl ⟨rfl, rfl, rfl⟩)
    rintro q env st (⟨rfl, rfl, rfl⟩ | ⟨rfl, rfl, rfl⟩ | ⟨rfl, rfl, rfl⟩ | ⟨rfl, rfl, rfl⟩)
    · repeat' (first | refine wC ?_ | refine wK ?_ | fail)
      refine zc (xn (r := .loc 3) 1 (.loc 901) 9 1 rfl rfl rfl rfl rfl) ?_
      refine zc (za [0, 2, 3, 5, 6] [.loc 2, .loc 3, .loc 901] rfl rfl) ?_
      refine zh (fun q env st => ∃ (m : Nat), m ≤ 4 ∧ q = 4 - m ∧ env = EnvL.get [(0, .t (.str s)), (2, .ref (.loc 2) 0 0 0), (3, .ref (.loc 3) 0 0 0), (5, .t (.int .i64 1)), (6, .t (.int .i64 ((2 * m : Nat) : Int)))] ∧ st = StO.get [(.loc 2, some (.var 63 [.t .nilsl, .t .nilsl, .t .nilsl, .t .nilsl])), (.loc 3, some (.var 63 [.t (.sl 1 ((zU s 0 8).map .str)), .row (.loc 901), .t .nilsl, .t .nilsl])), (.loc 901, some (.slt 9 1 ((zU s 1 m).map .str)))])
        ?_ (n := 4) ⟨0, by omega, rfl, rfl, rfl⟩
      rintro q env st ⟨m, hm, rfl, rfl, rfl⟩
      have wm : IntKind.i64.wrap (((2 * m : Nat) : Int) + 2) = ((2 * (m + 1) : Nat) : Int) := by rw [zl (by omega) (by omega)]; omega
      have wm1 : IntKind.i64.wrap (((2 * m : Nat) : Int) + 1) = ((2 * m + 1 : Nat) : Int) := by rw [zl (by omega) (by omega)]; omega
      by_cases hlm : m < 4
      · have hI := qD (ktL s 0 (2 * m)) (ktL s 0 (2 * m + 1)) (by rw [zO]; omega) (by rw [zO]; omega)
        have hsuc := vx s 1 m
        have hln := yi s 1 m
        rw [show ktL s 1 m = jf (ktL s 0 (2 * m)) (ktL s 0 (2 * m + 1)) from rfl] at hsuc
        rw [← vF s 0 8 (i := ((2 * m : Nat) : Int)) rfl (by omega), ← vF s 0 8 wm1 (by omega)] at hI hsuc
        generalize jf ((zU s 0 8).getD ((2 * m : Nat) : Int).toNat default) ((zU s 0 8).getD (IntKind.i64.wrap (((2 * m : Nat) : Int) + 1)).toNat default) = Y at *
        repeat' (first | refine wC ?_ | (exfalso; omega) | refine wK ?_ | ((with_reducible refine zi ?_); first | refine zn rfl rfl rfl rfl rfl rfl ?_ ?_ ?_ | refine zr rfl rfl rfl rfl rfl rfl ?_ ?_ ?_) | ((with_reducible refine z6 ?_); refine zx rfl rfl rfl rfl rfl rfl rfl rfl rfl rfl ?_ ?_ ?_) | ((with_reducible refine zp ?_); refine wL hI ?_) | refine zq rfl ?_ ?_ <;> intro hc | fail)
        all_goals try (simp only [List.length_map, List.length_cons, List.length_nil]; omega)
        all_goals try omega
        all_goals first | decide | skip
        all_goals exact zC (n' := 4 - (m + 1)) (by omega) ((za [0, 2, 3, 5, 6] [.loc 2, .loc 3, .loc 53] rfl rfl).trans (zw (.loc 53) (.loc 901) rfl rfl rfl rfl)) ⟨m + 1, by omega, rfl, by rw [wm]; rfl, by rw [hsuc, List.map_append, List.map_singleton]; rfl⟩
      · obtain rfl : m = 4 := by omega
        refine zc (zI (id := .loc 901) rfl rfl rfl) ?_
        repeat' (first | refine wC ?_ | refine wK ?_ | ((with_reducible refine zi ?_); refine zr rfl rfl rfl rfl rfl rfl ?_ ?_ ?_) | fail)
        all_goals try omega
        all_goals first | decide | skip
        all_goals exact zC (n' := 2) (by omega) (za [0, 2, 3, 5] [.loc 2, .loc 3] rfl rfl) (.inr (.inl ⟨rfl, rfl, rfl⟩))
    · repeat' (first | refine wC ?_ | refine wK ?_ | fail)
      refine zc (xn (r := .loc 3) 2 (.loc 901) 9 1 rfl rfl rfl rfl rfl) ?_
      refine zc (za [0, 2, 3, 5, 6] [.loc 2, .loc 3, .loc 901] rfl rfl) ?_
      refine zh (fun q env st => ∃ (m : Nat), m ≤ 2 ∧ q = 2 - m ∧ env = EnvL.get [(0, .t (.str s)), (2, .ref (.loc 2) 0 0 0), (3, .ref (.loc 3) 0 0 0), (5, .t (.int .i64 2)), (6, .t (.int .i64 ((2 * m : Nat) : Int)))] ∧ st = StO.get [(.loc 2, some (.var 63 [.t .nilsl, .t .nilsl, .t .nilsl, .t .nilsl])), (.loc 3, some (.var 63 [.t (.sl 1 ((zU s 0 8).map .str)), .t (.sl 1 ((zU s 1 4).map .str)), .row (.loc 901), .t .nilsl])), (.loc 901, some (.slt 9 1 ((zU s 2 m).map .str)))])
        ?_ (n := 2) ⟨0, by omega, rfl, rfl, rfl⟩
      rintro q env st ⟨m, hm, rfl, rfl, rfl⟩
      have wm : IntKind.i64.wrap (((2 * m : Nat) : Int) + 2) = ((2 * (m + 1) : Nat) : Int) := by rw [zl (by omega) (by omega)]; omega
      have wm1 : IntKind.i64.wrap (((2 * m : Nat) : Int) + 1) = ((2 * m + 1 : Nat) : Int) := by rw [zl (by omega) (by omega)]; omega
      by_cases hlm : m < 2
      · have hI := qD (ktL s 1 (2 * m)) (ktL s 1 (2 * m + 1)) (by rw [zO]; omega) (by rw [zO]; omega)
        have hsuc := vx s 2 m
        have hln := yi s 2 m
        rw [show ktL s 2 m = jf (ktL s 1 (2 * m)) (ktL s 1 (2 * m + 1)) from rfl] at hsuc
        rw [← vF s 1 4 (i := ((2 * m : Nat) : Int)) rfl (by omega), ← vF s 1 4 wm1 (by omega)] at hI hsuc
        generalize jf ((zU s 1 4).getD ((2 * m : Nat) : Int).toNat default) ((zU s 1 4).getD (IntKind.i64.wrap (((2 * m : Nat) : Int) + 1)).toNat default) = Y at *
        repeat' (first | refine wC ?_ | (exfalso; omega) | refine wK ?_ | ((with_reducible refine zi ?_); first | refine zn rfl rfl rfl rfl rfl rfl ?_ ?_ ?_ | refine zr rfl rfl rfl rfl rfl rfl ?_ ?_ ?_) | ((with_reducible refine z6 ?_); refine zx rfl rfl rfl rfl rfl rfl rfl rfl rfl rfl ?_ ?_ ?_) | ((with_reducible refine zp ?_); refine wL hI ?_) | refine zq rfl ?_ ?_ <;> intro hc | fail)
        all_goals try (simp only [List.length_map, List.length_cons, List.length_nil]; omega)
        all_goals try omega
        all_goals first | decide | skip
        all_goals exact zC (n' := 2 - (m + 1)) (by omega) ((za [0, 2, 3, 5, 6] [.loc 2, .loc 3, .loc 53] rfl rfl).trans (zw (.loc 53) (.loc 901) rfl rfl rfl rfl)) ⟨m + 1, by omega, rfl, by rw [wm]; rfl, by rw [hsuc, List.map_append, List.map_singleton]; rfl⟩
      · obtain rfl : m = 2 := by omega
        refine zc (zI (id := .loc 901) rfl rfl rfl) ?_
        repeat' (first | refine wC ?_ | refine wK ?_ | ((with_reducible refine zi ?_); refine zr rfl rfl rfl rfl rfl rfl ?_ ?_ ?_) | fail)
        all_goals try omega
        all_goals first | decide | skip
        all_goals exact zC (n' := 1) (by omega) (za [0, 2, 3, 5] [.loc 2, .loc 3] rfl rfl) (.inr (.inr (.inl ⟨rfl, rfl, rfl⟩)))
    · repeat' (first | refine wC ?_ | refine wK ?_ | fail)
      refine zc (xn (r := .loc 3) 3 (.loc 901) 9 1 rfl rfl rfl rfl rfl) ?_
      refine zc (za [0, 2, 3, 5, 6] [.loc 2, .loc 3, .loc 901] rfl rfl) ?_
      refine zh (fun q env st => ∃ (m : Nat), m ≤ 1 ∧ q = 1 - m ∧ env = EnvL.get [(0, .t (.str s)), (2, .ref (.loc 2) 0 0 0), (3, .ref (.loc 3) 0 0 0), (5, .t (.int .i64 3)), (6, .t (.int .i64 ((2 * m : Nat) : Int)))] ∧ st = StO.get [(.loc 2, some (.var 63 [.t .nilsl, .t .nilsl, .t .nilsl, .t .nilsl])), (.loc 3, some (.var 63 [.t (.sl 1 ((zU s 0 8).map .str)), .t (.sl 1 ((zU s 1 4).map .str)), .t (.sl 1 ((zU s 2 2).map .str)), .row (.loc 901)])), (.loc 901, some (.slt 9 1 ((zU s 3 m).map .str)))])
        ?_ (n := 1) ⟨0, by omega, rfl, rfl, rfl⟩
      rintro q env st ⟨m, hm, rfl, rfl, rfl⟩
      have wm : IntKind.i64.wrap (((2 * m : Nat) : Int) + 2) = ((2 * (m + 1) : Nat) : Int) := by rw [zl (by omega) (by omega)]; omega
      have wm1 : IntKind.i64.wrap (((2 * m : Nat) : Int) + 1) = ((2 * m + 1 : Nat) : Int) := by rw [zl (by omega) (by omega)]; omega
      by_cases hlm : m < 1
      · have hI := qD (ktL s 2 (2 * m)) (ktL s 2 (2 * m + 1)) (by rw [zO]; omega) (by rw [zO]; omega)
        have hsuc := vx s 3 m
        have hln := yi s 3 m
        rw [show ktL s 3 m = jf (ktL s 2 (2 * m)) (ktL s 2 (2 * m + 1)) from rfl] at hsuc
        rw [← vF s 2 2 (i := ((2 * m : Nat) : Int)) rfl (by omega), ← vF s 2 2 wm1 (by omega)] at hI hsuc
        generalize jf ((zU s 2 2).getD ((2 * m : Nat) : Int).toNat default) ((zU s 2 2).getD (IntKind.i64.wrap (((2 * m : Nat) : Int) + 1)).toNat default) = Y at *
        repeat' (first | refine wC ?_ | (exfalso; omega) | refine wK ?_ | ((with_reducible refine zi ?_); first | refine zn rfl rfl rfl rfl rfl rfl ?_ ?_ ?_ | refine zr rfl rfl rfl rfl rfl rfl ?_ ?_ ?_) | ((with_reducible refine z6 ?_); refine zx rfl rfl rfl rfl rfl rfl rfl rfl rfl rfl ?_ ?_ ?_) | ((with_reducible refine zp ?_); refine wL hI ?_) | refine zq rfl ?_ ?_ <;> intro hc | fail)
        all_goals try (simp only [List.length_map, List.length_cons, List.length_nil]; omega)
        all_goals try omega
        all_goals first | decide | skip
        all_goals exact zC (n' := 1 - (m + 1)) (by omega) ((za [0, 2, 3, 5, 6] [.loc 2, .loc 3, .loc 53] rfl rfl).trans (zw (.loc 53) (.loc 901) rfl rfl rfl rfl)) ⟨m + 1, by omega, rfl, by rw [wm]; rfl, by rw [hsuc, List.map_append, List.map_singleton]; rfl⟩
      · obtain rfl : m = 1 := by omega
        refine zc (zI (id := .loc 901) rfl rfl rfl) ?_
        repeat' (first | refine wC ?_ | refine wK ?_ | ((with_reducible refine zi ?_); refine zr rfl rfl rfl rfl rfl rfl ?_ ?_ ?_) | fail)
        all_goals try omega
        all_goals first | decide | skip
        all_goals exact zC (n' := 0) (by omega) (za [0, 2, 3, 5] [.loc 2, .loc 3] rfl rfl) (.inr (.inr (.inr ⟨rfl, rfl, rfl⟩)))
    · repeat' (first | refine wC ?_ | refine wK ?_ | fail)
      exact wD
set_option maxHeartbeats 4000000 in
theorem zaN (s : ByteArray) (hs : s.size ≤ 900000) : Spec Try.prog 20 [.t (.str s)] [] (.t (.str (ktP s))) [] := by
  have hT := zb0 s hs
  have hz := zO s 3 0
  have hR := zfh (ktL s 3 0) (by omega)
  have l3 := yi s 3 1
  rw [show zeW (ktL s 3 0) = ktP s from rfl, ← vF s 3 1 (i := 0) (m := 0) rfl (by omega)] at hR
  generalize ktP s = Y at *
  generalize zU s 0 8 = r0 at *
  generalize zU s 1 4 = r1 at *
  generalize zU s 2 2 = r2 at *
  generalize zU s 3 1 = r3 at *
  clear hz
  refine wI Try.func20 ?_
  repeat' (first | refine wC ?_ | refine wK ?_ | ((with_reducible refine zi ?_); refine zn rfl rfl rfl rfl rfl rfl ?_ ?_ ?_) | ((with_reducible refine zp ?_); first | refine wL hT ?_ | refine wL hR ?_) | ((with_reducible refine yB ?_); refine qY rfl rfl rfl rfl rfl rfl rfl rfl ?_ ?_ ?_) | fail)
  all_goals try (simp only [List.length_map]; omega)
  all_goals try omega
  all_goals try decide
  all_goals try rfl
  all_goals exact zH (zj rfl rfl rfl) (by simp)
set_option maxHeartbeats 2000000 in
theorem zaf (s : ByteArray) (hs : s.size ≤ 900000) : Spec Try.prog 12 [.t (.str s)] [] (.t (.str (qZ 2 (ktP s)))) [] := by
  have hP := zaN s hs
  have hM := zck 2 (by omega) (by omega) (ktP s) (by rw [qe]; rfl)
  generalize qZ 2 (ktP s) = Z at *
  generalize ktP s = Y at *
  refine wI Try.func12 ?_
  repeat' (first | refine wC ?_ | refine wK ?_ | ((with_reducible refine zp ?_); first | refine wL hP ?_ | refine wL hM ?_) | fail)
  exact zH (zj rfl rfl rfl) (by simp)
theorem xk0 : ∀ u : Fin 8, IntKind.i64.wrap ((BitVec.ofInt IntKind.i64.bits ((u.val : Int) / 2 ^ min (Int.toNat 0) IntKind.i64.bits) ^^^ BitVec.ofInt IntKind.i64.bits 1).toNat : Int) = ((u.val / 2 ^ 0 ^^^ 1 : Nat) : Int) ∧ u.val / 2 ^ 0 ^^^ 1 < 8 := by decide
theorem xk1 : ∀ u : Fin 8, IntKind.i64.wrap ((BitVec.ofInt IntKind.i64.bits ((u.val : Int) / 2 ^ min (Int.toNat 1) IntKind.i64.bits) ^^^ BitVec.ofInt IntKind.i64.bits 1).toNat : Int) = ((u.val / 2 ^ 1 ^^^ 1 : Nat) : Int) ∧ u.val / 2 ^ 1 ^^^ 1 < 4 := by decide
theorem xk2 : ∀ u : Fin 8, IntKind.i64.wrap ((BitVec.ofInt IntKind.i64.bits ((u.val : Int) / 2 ^ min (Int.toNat 2) IntKind.i64.bits) ^^^ BitVec.ofInt IntKind.i64.bits 1).toNat : Int) = ((u.val / 2 ^ 2 ^^^ 1 : Nat) : Int) ∧ u.val / 2 ^ 2 ^^^ 1 < 2 := by decide
set_option maxHeartbeats 16000000 in
theorem zdl (s m : ByteArray) (u : Nat) (hu : u < 8) (hs : s.size ≤ 900000) (hm : m.size ≤ 900000) : Spec Try.prog 27 [.t (.str s), .t (.int .i64 (u : Int)), .t (.str m)] [] (.tup [.t (.str (ktS s u m)), .t (.int .i64 0)]) [] := by
  have hT := zb0 s hs
  have hD := kW s (u : Int) hs
  have z := kU s (u : Int)
  have hG := zf3 (va s (u : Int)) m (by omega) hm
  have zG := qh (va s (u : Int)) m
  have zB := ky (u : Int)
  have l0 := yi s 0 8
  have l1 := yi s 1 4
  have l2 := yi s 2 2
  have b0 : ktB s u 0 = ktL s 0 (u / 2 ^ 0 ^^^ 1) := rfl
  have b1 : ktB s u 1 = ktL s 1 (u / 2 ^ 1 ^^^ 1) := rfl
  have b2 : ktB s u 2 = ktL s 2 (u / 2 ^ 2 ^^^ 1) := rfl
  unfold ktS
  generalize zeZ (va s (u : Int)) m = Y at *
  generalize va s (u : Int) = D at *
  unfold byS at zB ⊢
  refine wI Try.func27 ?_
  repeat' (first | refine wC ?_ | (exfalso; omega) | refine wK ?_ | ((with_reducible refine zW ?_); refine zX rfl rfl rfl rfl rfl rfl ?_ ?_) | ((with_reducible refine z7 ?_); refine zE rfl rfl rfl rfl rfl rfl ?_ ?_) | ((with_reducible refine zp ?_); first | refine wL hT ?_ | refine wL hD ?_ | refine wL hG ?_) | refine zq rfl ?_ ?_ <;> intro hc | fail)
  all_goals try exact zaO _
  all_goals try omega
  obtain ⟨A, hA⟩ : ∃ A : ByteArray, A = qq [T.int .u8 (IntKind.u8.wrap (u : Int))] ++ Y := ⟨_, rfl⟩
  have zA : A.size = 577 := by rw [hA, ByteArray.size_append]; omega
  rw [← hA]
  clear hA hG
  have y0 := zO s 0 (u / 2 ^ 0 ^^^ 1)
  have y1 := zO s 1 (u / 2 ^ 1 ^^^ 1)
  have y2 := zO s 2 (u / 2 ^ 2 ^^^ 1)
  rw [← b0] at y0
  rw [← b1] at y1
  rw [← b2] at y2
  refine zc (za [1, 6, 7, 8, 9, 29] [.loc 9] rfl rfl) ?_
  refine zh (fun q env st => (q = 3 ∧ env = EnvL.get [(1, .t (.int .i64 (u : Int))), (6, .t (.str ⟨#[]⟩)), (7, .t (.int .i64 0)), (8, .t (.str (A))), (9, .ref (.loc 9) 0 0 0), (29, .t (.int .i64 0))] ∧ st = StO.get [(.loc 9, some (.var 63 [.t (.sl 1 ((zU s 0 8).map .str)), .t (.sl 1 ((zU s 1 4).map .str)), .t (.sl 1 ((zU s 2 2).map .str)), .t (.sl 1 ((zU s 3 1).map .str))]))]) ∨ (q = 2 ∧ env = EnvL.get [(1, .t (.int .i64 (u : Int))), (6, .t (.str ⟨#[]⟩)), (7, .t (.int .i64 0)), (8, .t (.str (A ++ ktB s u 0))), (9, .ref (.loc 9) 0 0 0), (29, .t (.int .i64 1))] ∧ st = StO.get [(.loc 9, some (.var 63 [.t (.sl 1 ((zU s 0 8).map .str)), .t (.sl 1 ((zU s 1 4).map .str)), .t (.sl 1 ((zU s 2 2).map .str)), .t (.sl 1 ((zU s 3 1).map .str))]))]) ∨ (q = 1 ∧ env = EnvL.get [(1, .t (.int .i64 (u : Int))), (6, .t (.str ⟨#[]⟩)), (7, .t (.int .i64 0)), (8, .t (.str (A ++ ktB s u 0 ++ ktB s u 1))), (9, .ref (.loc 9) 0 0 0), (29, .t (.int .i64 2))] ∧ st = StO.get [(.loc 9, some (.var 63 [.t (.sl 1 ((zU s 0 8).map .str)), .t (.sl 1 ((zU s 1 4).map .str)), .t (.sl 1 ((zU s 2 2).map .str)), .t (.sl 1 ((zU s 3 1).map .str))]))]) ∨ (q = 0 ∧ env = EnvL.get [(1, .t (.int .i64 (u : Int))), (6, .t (.str ⟨#[]⟩)), (7, .t (.int .i64 0)), (8, .t (.str (A ++ ktB s u 0 ++ ktB s u 1 ++ ktB s u 2))), (9, .ref (.loc 9) 0 0 0), (29, .t (.int .i64 3))] ∧ st = StO.get [(.loc 9, some (.var 63 [.t (.sl 1 ((zU s 0 8).map .str)), .t (.sl 1 ((zU s 1 4).map .str)), .t (.sl 1 ((zU s 2 2).map .str)), .t (.sl 1 ((zU s 3 1).map .str))]))]))
    ?_ (n := 3) (.inl ⟨rfl, rfl, rfl⟩)
  rintro q env st (⟨rfl, rfl, rfl⟩ | ⟨rfl, rfl, rfl⟩ | ⟨rfl, rfl, rfl⟩ | ⟨rfl, rfl, rfl⟩)
  · repeat' (first | refine wC ?_ | refine wK ?_ | ((with_reducible refine zW ?_); refine zX rfl rfl rfl rfl rfl rfl ?_ ?_) | ((with_reducible refine zi ?_); first | refine zn rfl rfl rfl rfl rfl rfl ?_ ?_ ?_ | refine zr rfl rfl rfl rfl rfl rfl ?_ ?_ ?_) | fail)
    all_goals first | decide | skip
    all_goals (
      obtain ⟨hx, hxl⟩ := xk0 ⟨u, hu⟩
      simp only at hx hxl
      have hr : (zU s 0 8).getD (IntKind.i64.wrap ((BitVec.ofInt IntKind.i64.bits ((u : Int) / 2 ^ min (Int.toNat 0) IntKind.i64.bits) ^^^ BitVec.ofInt IntKind.i64.bits 1).toNat : Int)).toNat default = ktB s u 0 := by rw [vF s 0 8 hx hxl]; rfl
      first
        | (rw [hx]; exact Int.natCast_nonneg _)
        | (rw [hx, yi]; exact Int.ofNat_lt.2 hxl)
        | (rw [hr]; clear hx hr; (try simp only [ByteArray.size_append]); omega)
        | exact zC (n' := 2) (by omega) (za [1, 6, 7, 8, 9, 29] [.loc 9] rfl rfl) (.inr (.inl ⟨rfl, by rw [hr]; rfl, rfl⟩)))
  · repeat' (first | refine wC ?_ | refine wK ?_ | ((with_reducible refine zW ?_); refine zX rfl rfl rfl rfl rfl rfl ?_ ?_) | ((with_reducible refine zi ?_); first | refine zn rfl rfl rfl rfl rfl rfl ?_ ?_ ?_ | refine zr rfl rfl rfl rfl rfl rfl ?_ ?_ ?_) | fail)
    all_goals first | decide | skip
    all_goals (
      obtain ⟨hx, hxl⟩ := xk1 ⟨u, hu⟩
      simp only at hx hxl
      have hr : (zU s 1 4).getD (IntKind.i64.wrap ((BitVec.ofInt IntKind.i64.bits ((u : Int) / 2 ^ min (Int.toNat 1) IntKind.i64.bits) ^^^ BitVec.ofInt IntKind.i64.bits 1).toNat : Int)).toNat default = ktB s u 1 := by rw [vF s 1 4 hx hxl]; rfl
      first
        | (rw [hx]; exact Int.natCast_nonneg _)
        | (rw [hx, yi]; exact Int.ofNat_lt.2 hxl)
        | (rw [hr]; clear hx hr; (try simp only [ByteArray.size_append]); omega)
        | exact zC (n' := 1) (by omega) (za [1, 6, 7, 8, 9, 29] [.loc 9] rfl rfl) (.inr (.inr (.inl ⟨rfl, by rw [hr]; rfl, rfl⟩))))
  · repeat' (first | refine wC ?_ | refine wK ?_ | ((with_reducible refine zW ?_); refine zX rfl rfl rfl rfl rfl rfl ?_ ?_) | ((with_reducible refine zi ?_); first | refine zn rfl rfl rfl rfl rfl rfl ?_ ?_ ?_ | refine zr rfl rfl rfl rfl rfl rfl ?_ ?_ ?_) | fail)
    all_goals first | decide | skip
    all_goals (
      obtain ⟨hx, hxl⟩ := xk2 ⟨u, hu⟩
      simp only at hx hxl
      have hr : (zU s 2 2).getD (IntKind.i64.wrap ((BitVec.ofInt IntKind.i64.bits ((u : Int) / 2 ^ min (Int.toNat 2) IntKind.i64.bits) ^^^ BitVec.ofInt IntKind.i64.bits 1).toNat : Int)).toNat default = ktB s u 2 := by rw [vF s 2 2 hx hxl]; rfl
      first
        | (rw [hx]; exact Int.natCast_nonneg _)
        | (rw [hx, yi]; exact Int.ofNat_lt.2 hxl)
        | (rw [hr]; clear hx hr; (try simp only [ByteArray.size_append]); omega)
        | exact zC (n' := 0) (by omega) (za [1, 6, 7, 8, 9, 29] [.loc 9] rfl rfl) (.inr (.inr (.inr ⟨rfl, by rw [hr]; rfl, rfl⟩))))
  · repeat' (first | refine wC ?_ | refine wK ?_ | fail)
    all_goals exact zH (yI rfl rfl rfl rfl rfl) (by simp)
end Go.AL
namespace Go.AL
open Go Go.RowKit
theorem zbb (a b k : Nat) (hb : b < 2 ^ k) (h : a * 2 ^ k + b < 2 ^ 62) : zhG ((a * 2 ^ k : Nat) : Int) (b : Int) = ((a * 2 ^ k + b : Nat) : Int) := by
  have e : (2 : Nat) ^ 62 < 2 ^ 64 := by decide
  unfold zhG w64
  rw [BitVec.ofInt_natCast, BitVec.ofInt_natCast, BitVec.toNat_or, BitVec.toNat_ofNat, BitVec.toNat_ofNat, Nat.mod_eq_of_lt (by omega), Nat.mod_eq_of_lt (by omega), ← Nat.shiftLeft_eq, ← Nat.shiftLeft_add_eq_or_of_lt hb, Nat.shiftLeft_eq]
  have : (2 : Nat) ^ 62 = 4611686018427387904 := by decide
  exact zl (by omega) (by omega)
theorem jm (n : Nat) (h : n < 16777216) : zbt (n : Int) 63 = ((n % 64 : Nat) : Int) := by
  unfold zbt w64
  rw [show (63 : Int) = ((63 : Nat) : Int) from rfl, BitVec.ofInt_natCast, BitVec.ofInt_natCast, BitVec.toNat_and, BitVec.toNat_ofNat, BitVec.toNat_ofNat, Nat.mod_eq_of_lt (by omega), show 63 % 2 ^ 64 = 2 ^ 6 - 1 from rfl, Nat.and_two_pow_sub_one_eq_mod]
  exact zl (by omega) (by omega)
theorem zjn (a b c : Nat) (ha : a < 256) (hb : b < 256) (hc : c < 256) : n24 a b c = ((65536 * a + 256 * b + c : Nat) : Int) := by
  have e1 : (2 : Int) ^ min (16 : Int).toNat 64 = 65536 := by decide
  have e2 : (2 : Int) ^ min (8 : Int).toNat 64 = 256 := by decide
  unfold n24
  rw [e1, e2]
  unfold w64
  rw [zl (n := (a : Int)) (by omega) (by omega), zl (n := (b : Int)) (by omega) (by omega), zl (n := (c : Int)) (by omega) (by omega), zl (n := (a : Int) * 65536) (by omega) (by omega), zl (n := (b : Int) * 256) (by omega) (by omega)]
  have h1 := zbb a (b * 256) 16 (by omega) (by omega)
  rw [show ((a * 2 ^ 16 : Nat) : Int) = (a : Int) * 65536 by omega, show ((b * 256 : Nat) : Int) = (b : Int) * 256 by omega] at h1
  rw [h1]
  have h2 := zbb (a * 256 + b) c 8 (by omega) (by omega)
  rw [show ((a * 2 ^ 16 + b * 256 : Nat) : Int) = (((a * 256 + b) * 2 ^ 8 : Nat) : Int) by omega, h2]
  omega
theorem zg7 (m v : Nat) (hv : v < 64) (hm : m < 1048576) : zhG (IntKind.i64.wrap ((m : Int) * 2 ^ min (6 : Int).toNat IntKind.i64.bits)) (v : Int) = ((64 * m + v : Nat) : Int) := by
  rw [show (2 : Int) ^ min (6 : Int).toNat IntKind.i64.bits = 64 by decide, zl (by omega) (by omega)]
  have h := zbb m v 6 (by omega) (by omega)
  rw [show ((m * 2 ^ 6 : Nat) : Int) = (m : Int) * 64 by omega] at h
  rw [h]
  omega
def dgN (N i : Nat) : Nat := N / 2 ^ (18 - 6 * i) % 64
theorem jW (N i : Nat) : dgN N i < 64 := Nat.mod_lt _ (by decide)
theorem ziI (N : Nat) (h : N < 16777216) : zjh (N : Int) = [.int .u8 (bAt xX (dgN N 0 : Nat)), .int .u8 (bAt xX (dgN N 1 : Nat)), .int .u8 (bAt xX (dgN N 2 : Nat)), .int .u8 (bAt xX (dgN N 3 : Nat))] := by
  unfold zjh
  rw [show (2 : Int) ^ min (18 : Int).toNat 64 = 262144 by decide, show (2 : Int) ^ min (12 : Int).toNat 64 = 4096 by decide, show (2 : Int) ^ min (6 : Int).toNat 64 = 64 by decide]
  have q0 : (N : Int) / 262144 = ((dgN N 0 : Nat) : Int) := by unfold dgN; simp only [Nat.mul_zero, Nat.sub_zero]; omega
  have q1 : (N : Int) / 4096 = ((N / 4096 : Nat) : Int) := by omega
  have q2 : (N : Int) / 64 = ((N / 64 : Nat) : Int) := by omega
  rw [q0, q1, q2, jm _ (by omega), jm _ (by omega), jm _ h, show dgN N 1 = N / 4096 % 64 from by simp [dgN], show dgN N 2 = N / 64 % 64 from by simp [dgN], show dgN N 3 = N % 64 from by simp [dgN]]
theorem xv (N i : Nat) (hi : i < 4) (h : N < 16777216) : N / 2 ^ (18 - 6 * i) = 64 * (N / 2 ^ (24 - 6 * i)) + dgN N i := by
  unfold dgN
  have : i = 0 ∨ i = 1 ∨ i = 2 ∨ i = 3 := by omega
  rcases this with rfl | rfl | rfl | rfl <;> simp only [Nat.mul_zero, Nat.sub_zero, Nat.mul_one, Nat.reduceMul, Nat.reduceSub, Nat.reducePow] <;> omega
def alC (v : Nat) : UInt8 := xX.data.toList.getD v 0
theorem zia (v : Nat) : bAt xX (v : Int) = ((alC v).toNat : Int) := rfl
def qdB (N : Nat) : List UInt8 := [alC (dgN N 0), alC (dgN N 1), alC (dgN N 2), alC (dgN N 3)]
def jN : Nat → List UInt8 → List UInt8
  | k + 1, a :: b :: c :: l => qdB (65536 * a.toNat + 256 * b.toNat + c.toNat) ++ jN k l
  | _, _ => []
def N3 (l : List UInt8) (j : Nat) : Nat := 65536 * (l.getD (3 * j) 0).toNat + 256 * (l.getD (3 * j + 1) 0).toNat + (l.getD (3 * j + 2) 0).toNat
theorem ziR (l : List UInt8) (j : Nat) : N3 l j < 16777216 := by
  unfold N3
  have h1 := (l.getD (3 * j) 0).toNat_lt
  have h2 := (l.getD (3 * j + 1) 0).toNat_lt
  have h3 := (l.getD (3 * j + 2) 0).toNat_lt
  omega
theorem zaD : ∀ (k j i : Nat) (l : List UInt8), l.length = 3 * k → j < k → i < 4 → (jN k l).getD (4 * j + i) 0 = alC (dgN (N3 l j) i)
  | 0, j, i, l, _, hj, _ => by omega
  | k + 1, j, i, a :: b :: c :: l, hl, hj, hi => by
    rw [jN]
    cases j with
    | zero =>
      have : i = 0 ∨ i = 1 ∨ i = 2 ∨ i = 3 := by omega
      rcases this with rfl | rfl | rfl | rfl <;> rfl
    | succ j =>
      have ih := zaD k j i l (by simp only [List.length_cons] at hl; omega) (by omega) hi
      have e : N3 (a :: b :: c :: l) (j + 1) = N3 l j := by
        unfold N3
        rw [show 3 * (j + 1) = 3 * j + 1 + 1 + 1 by omega]
        rfl
      rw [e, ← ih, show 4 * (j + 1) + i = (qdB (65536 * a.toNat + 256 * b.toNat + c.toNat)).length + (4 * j + i) by simp [qdB]; omega]
      rw [List.getD_eq_getElem?_getD, List.getD_eq_getElem?_getD, List.getElem?_append_right (by omega), Nat.add_sub_cancel_left]
  | k + 1, j, i, [], hl, _, _ => by simp at hl
  | k + 1, j, i, [_], hl, _, _ => by simp at hl; omega
  | k + 1, j, i, [_, _], hl, _, _ => by simp at hl; omega
theorem kz : ∀ (k : Nat) (l : List UInt8), l.length = 3 * k → (jN k l).length = 4 * k
  | 0, l, _ => by cases l <;> rfl
  | k + 1, a :: b :: c :: l, hl => by
    rw [jN, List.length_append, kz k l (by simp only [List.length_cons] at hl; omega)]
    simp [qdB]; omega
  | k + 1, [], hl => by simp at hl
  | k + 1, [_], hl => by simp at hl; omega
  | k + 1, [_, _], hl => by simp at hl; omega
theorem zaR (l : List UInt8) (j : Nat) : N3 l j / 65536 = (l.getD (3 * j) 0).toNat ∧ N3 l j / 256 % 256 = (l.getD (3 * j + 1) 0).toNat ∧ N3 l j % 256 = (l.getD (3 * j + 2) 0).toNat := by
  unfold N3
  have h1 := (l.getD (3 * j) 0).toNat_lt
  have h2 := (l.getD (3 * j + 1) 0).toNat_lt
  have h3 := (l.getD (3 * j + 2) 0).toNat_lt
  omega
end Go.AL
namespace Go.AL
open Go Go.Proofs Go.RowKit
theorem zgY : ∀ u : Fin 64, ∀ v : Fin 64, u.val < v.val → bAt xX (u.val : Int) ≠ bAt xX (v.val : Int) := by decide +kernel
set_option maxHeartbeats 4000000 in
theorem vt (v : Nat) (hv : v < 64) : Spec Try.prog 84 [.t (.int .u8 (bAt xX (v : Int)))] [] (.tup [.t (.int .i64 (v : Int)), .t (.bool true)]) [] := by
  have hne : ∀ u : Nat, u < v → bAt xX (u : Int) ≠ bAt xX (v : Int) := fun u h => zgY ⟨u, by omega⟩ ⟨v, hv⟩ h
  have hz : (xX.size : Int) = 64 := zeQ
  generalize hcv : bAt xX (v : Int) = c at *
  refine wI Try.func84 ?_
  repeat' (first | refine wC ?_ | refine wK ?_ | fail)
  refine zc (za [0, 2, 3, 5] [] rfl rfl) ?_
  refine zh (fun q env st => ∃ (j : Nat), j ≤ v ∧ q = v - j ∧ env = EnvL.get [(0, .t (.int .u8 c)), (2, .t (.int .i64 0)), (3, .t (.bool false)), (5, .t (.int .i64 (j : Int)))] ∧ st = StO.get [])
    ?_ (n := v) ⟨0, by omega, rfl, rfl, rfl⟩
  rintro q env st ⟨j, hj, rfl, rfl, rfl⟩
  have wj : IntKind.i64.wrap ((j : Int) + 1) = ((j + 1 : Nat) : Int) := by rw [zl (by omega) (by omega)]; omega
  by_cases hlt : j < v
  · have hn := hne j hlt
    repeat' (first | refine wC ?_ | (exfalso; omega) | exact absurd ‹_› hn | refine wK ?_ | ((with_reducible refine yB ?_); refine zM rfl rfl rfl rfl rfl rfl ?_ ?_ ?_) | refine zq rfl ?_ ?_ <;> intro hc | fail)
    all_goals try (show ((j : Nat) : Int) < (xX.size : Int); omega)
    all_goals try omega
    all_goals first | exact absurd ‹_› hn | exact zC (n' := v - (j + 1)) (by omega) (za [0, 2, 3, 5] [] rfl rfl) ⟨j + 1, by omega, rfl, by rw [wj]; rfl, rfl⟩
  · obtain rfl : j = v := by omega
    repeat' (first | refine wC ?_ | (exfalso; omega) | exact absurd hcv ‹_› | refine wK ?_ | ((with_reducible refine yB ?_); refine zM rfl rfl rfl rfl rfl rfl ?_ ?_ ?_) | refine zq rfl ?_ ?_ <;> intro hc | fail)
    all_goals try (show ((j : Nat) : Int) < (xX.size : Int); omega)
    all_goals try omega
    all_goals first | exact absurd hcv ‹_› | exact zH (kD rfl (AVLE.refl _) (AVLE.refl _)) (by simp)
theorem zf0 : ∀ (k : Nat) (l : List UInt8), l.length = 3 * k → zfE k (ofL l) = (jN k l).map u8T
  | 0, l, h => by cases l <;> rfl
  | k + 1, a :: b :: c :: l, h => by
    have ha := a.toNat_lt
    have hb := b.toNat_lt
    have hc := c.toNat_lt
    rw [zfE, jN, List.map_append]
    have e1 : bAt (ofL (a :: b :: c :: l)) 0 = (a.toNat : Int) := rfl
    have e2 : bAt (ofL (a :: b :: c :: l)) 1 = (b.toNat : Int) := rfl
    have e3 : bAt (ofL (a :: b :: c :: l)) 2 = (c.toNat : Int) := rfl
    rw [e1, e2, e3, zjn _ _ _ (by omega) (by omega) (by omega), ziI _ (by omega), yJ, xV]
    rw [show ((a :: b :: c :: l).drop 3).take ((a :: b :: c :: l).length - 3) = l from by simp]
    rw [zf0 k l (by simp only [List.length_cons] at h; omega)]
    rfl
  | k + 1, [], h => by simp at h
  | k + 1, [_], h => by simp at h; omega
  | k + 1, [_, _], h => by simp at h; omega
theorem zkw (l : List UInt8) (j : Nat) (h : 3 * j + 2 < l.length) : l.take (3 * (j + 1)) = l.take (3 * j) ++ [l.getD (3 * j) 0, l.getD (3 * j + 1) 0, l.getD (3 * j + 2) 0] := by
  rw [show 3 * (j + 1) = 3 * j + 1 + 1 + 1 by omega, List.take_add_one, List.take_add_one, List.take_add_one, List.getElem?_eq_getElem (by omega), List.getElem?_eq_getElem (by omega), List.getElem?_eq_getElem (by omega)]
  simp only [List.getD_eq_getElem?_getD]
  rw [List.getElem?_eq_getElem (by omega), List.getElem?_eq_getElem (by omega), List.getElem?_eq_getElem (by omega)]
  simp only [Option.toList_some, Option.getD_some, List.append_assoc, List.cons_append, List.nil_append]
set_option maxHeartbeats 16000000 in
theorem zfT (k : Nat) (l : List UInt8) (hl : l.length = 3 * k) (hk : k ≤ 1000) : Spec Try.prog 68 [.t (.str (ofL (jN k l)))] [] (.tup [.t (.str (ofL l)), .t (.int .i64 0)]) [] := by
  obtain ⟨E, hE⟩ : ∃ E, E = ofL (jN k l) := ⟨_, rfl⟩
  have hz : E.size = 4 * k := by rw [hE, xV, kz k l hl]
  have hat : ∀ j i : Nat, j < k → i < 4 → bAt E ((4 * j + i : Nat) : Int) = bAt xX ((dgN (N3 l j) i : Nat) : Int) := fun j i hj hi => by
    rw [hE, zia, ← zaD k j i l hl hj hi]; rfl
  have hmod : (E.size : Int).tmod 4 = 0 := by rw [hz, Int.tmod_eq_emod_of_nonneg (by omega)]; omega
  rw [← hE]
  clear hE
  refine wI Try.func68 ?_
  repeat' (first | refine wC ?_ | (exfalso; omega) | refine wK ?_ | refine zq rfl ?_ ?_ <;> intro hc | refine y8 rfl ?_ ?_ <;> intro hc | fail)
  all_goals first | omega | exact absurd hmod ‹_› | skip
  refine zc (xG 4 (.loc 900) 5 1 rfl rfl rfl) ?_
  refine zc (za [0, 2, 3, 4, 5] [.loc 900] rfl rfl) ?_
  refine zh (fun q env st => ∃ (j : Nat), j ≤ k ∧ q = k - j ∧ env = EnvL.get [(0, .t (.str E)), (2, .t (.str ⟨#[]⟩)), (3, .t (.int .i64 0)), (4, .row (.loc 900)), (5, .t (.int .i64 ((4 * j : Nat) : Int)))] ∧ st = StO.get [(.loc 900, some (.slt 5 1 ((l.take (3 * j)).map u8T)))])
    ?_ (n := k) ⟨0, by omega, rfl, rfl, rfl⟩
  rintro q env st ⟨j, hj, rfl, rfl, rfl⟩
  have wj : IntKind.i64.wrap (((4 * j : Nat) : Int) + 4) = ((4 * (j + 1) : Nat) : Int) := by rw [zl (by omega) (by omega)]; omega
  by_cases hlt : j < k
  · have hN := ziR l j
    have b1 := zaR l j
    have s0 := xv (N3 l j) 0 (by omega) hN
    have s1 := xv (N3 l j) 1 (by omega) hN
    have s2 := xv (N3 l j) 2 (by omega) hN
    have s3 := xv (N3 l j) 3 (by omega) hN
    have d0 := jW (N3 l j) 0
    have d1 := jW (N3 l j) 1
    have d2 := jW (N3 l j) 2
    have d3 := jW (N3 l j) 3
    have v0 := vt _ d0
    have v1 := vt _ d1
    have v2 := vt _ d2
    have v3 := vt _ d3
    have w0 : IntKind.i64.wrap (((4 * j : Nat) : Int) + 0) = ((4 * j + 0 : Nat) : Int) := by rw [zl (by omega) (by omega)]; omega
    have w1 : IntKind.i64.wrap (((4 * j : Nat) : Int) + 1) = ((4 * j + 1 : Nat) : Int) := by rw [zl (by omega) (by omega)]; omega
    have w2 : IntKind.i64.wrap (((4 * j : Nat) : Int) + 2) = ((4 * j + 2 : Nat) : Int) := by rw [zl (by omega) (by omega)]; omega
    have w3 : IntKind.i64.wrap (((4 * j : Nat) : Int) + 3) = ((4 * j + 3 : Nat) : Int) := by rw [zl (by omega) (by omega)]; omega
    rw [← hat j 0 hlt (by omega), ← w0] at v0
    rw [← hat j 1 hlt (by omega), ← w1] at v1
    rw [← hat j 2 hlt (by omega), ← w2] at v2
    rw [← hat j 3 hlt (by omega), ← w3] at v3
    simp only [Nat.mul_zero, Nat.sub_zero, Nat.mul_one, Nat.reduceMul, Nat.reduceSub, Nat.reducePow, Nat.div_one] at s0 s1 s2 s3
    rw [show N3 l j / 16777216 = 0 by omega] at s0
    have t3 := zkw l j (by omega)
    generalize dgN (N3 l j) 0 = D0 at *
    generalize dgN (N3 l j) 1 = D1 at *
    generalize dgN (N3 l j) 2 = D2 at *
    generalize dgN (N3 l j) 3 = D3 at *
    generalize l.getD (3 * j) 0 = B0 at *
    generalize l.getD (3 * j + 1) 0 = B1 at *
    generalize l.getD (3 * j + 2) 0 = B2 at *
    generalize N3 l j = N at *
    have g0 : 4 * j + 0 < E.size := by omega
    have g1 : 4 * j + 1 < E.size := by omega
    have g2 : 4 * j + 2 < E.size := by omega
    have g3 : 4 * j + 3 < E.size := by omega
    obtain ⟨m1, hm1⟩ : ∃ m, m = N / 262144 := ⟨_, rfl⟩
    obtain ⟨m2, hm2⟩ : ∃ m, m = N / 4096 := ⟨_, rfl⟩
    obtain ⟨m3, hm3⟩ : ∃ m, m = N / 64 := ⟨_, rfl⟩
    have x0 := zg7 0 D0 d0 (by omega)
    have x1 := zg7 m1 D1 d1 (by omega)
    have x2 := zg7 m2 D2 d2 (by omega)
    have x3 := zg7 m3 D3 d3 (by omega)
    rw [show 64 * 0 + D0 = m1 by omega] at x0
    rw [show 64 * m1 + D1 = m2 by omega] at x1
    rw [show 64 * m2 + D2 = m3 by omega] at x2
    rw [show 64 * m3 + D3 = N by omega] at x3
    have z0 : IntKind.i64.wrap ((BitVec.ofInt IntKind.i64.bits (IntKind.i64.wrap (0 * 2 ^ min (Int.toNat 6) IntKind.i64.bits)) ||| BitVec.ofInt IntKind.i64.bits (D0 : Int)).toNat : Int) = (m1 : Int) := x0
    have z1 : IntKind.i64.wrap ((BitVec.ofInt IntKind.i64.bits (IntKind.i64.wrap ((m1 : Int) * 2 ^ min (Int.toNat 6) IntKind.i64.bits)) ||| BitVec.ofInt IntKind.i64.bits (D1 : Int)).toNat : Int) = (m2 : Int) := x1
    have z2 : IntKind.i64.wrap ((BitVec.ofInt IntKind.i64.bits (IntKind.i64.wrap ((m2 : Int) * 2 ^ min (Int.toNat 6) IntKind.i64.bits)) ||| BitVec.ofInt IntKind.i64.bits (D2 : Int)).toNat : Int) = (m3 : Int) := x2
    have z3 : IntKind.i64.wrap ((BitVec.ofInt IntKind.i64.bits (IntKind.i64.wrap ((m3 : Int) * 2 ^ min (Int.toNat 6) IntKind.i64.bits)) ||| BitVec.ofInt IntKind.i64.bits (D3 : Int)).toNat : Int) = (N : Int) := x3
    clear x0 x1 x2 x3
    have y0 : IntKind.u8.wrap ((N : Int) / 2 ^ min (Int.toNat 16) IntKind.i64.bits) = (B0.toNat : Int) := by
      rw [show (2 : Int) ^ min (Int.toNat 16) IntKind.i64.bits = 65536 by decide]
      show ((N : Int) / 65536).emod 256 = _
      have := B0.toNat_lt
      have h1 := b1.1
      have : (N : Int) / 65536 = ((N / 65536 : Nat) : Int) := by omega
      rw [this, h1]
      exact Int.emod_eq_of_lt (by omega) (by omega)
    have y1 : IntKind.u8.wrap ((N : Int) / 2 ^ min (Int.toNat 8) IntKind.i64.bits) = (B1.toNat : Int) := by
      rw [show (2 : Int) ^ min (Int.toNat 8) IntKind.i64.bits = 256 by decide]
      show ((N : Int) / 256).emod 256 = _
      have h1 := b1.2.1
      have : ((N : Int) / 256) % 256 = ((N / 256 % 256 : Nat) : Int) := by omega
      exact this.trans (by rw [h1])
    have y2 : IntKind.u8.wrap (N : Int) = (B2.toNat : Int) := by
      show (N : Int).emod 256 = _
      have h1 := b1.2.2
      have : (N : Int) % 256 = ((N % 256 : Nat) : Int) := by omega
      exact this.trans (by rw [h1])
    clear b1 s0 s1 s2 s3 hat hm1 hm2 hm3
    repeat' (first | refine wC ?_ | (exfalso; omega) | refine wK ?_ | refine zq rfl ?_ ?_ <;> intro hc | fail)
    refine zc (za [0, 2, 3, 4, 5, 6, 25] [.loc 900] rfl rfl) ?_
    refine zh (fun q env st => (q = 4 ∧ env = EnvL.get [(0, .t (.str E)), (2, .t (.str ⟨#[]⟩)), (3, .t (.int .i64 0)), (4, .row (.loc 900)), (5, .t (.int .i64 ((4 * j : Nat) : Int))), (6, .t (.int .i64 0)), (25, .t (.int .i64 0))] ∧ st = StO.get [(.loc 900, some (.slt 5 1 ((l.take (3 * j)).map u8T)))]) ∨ (q = 3 ∧ env = EnvL.get [(0, .t (.str E)), (2, .t (.str ⟨#[]⟩)), (3, .t (.int .i64 0)), (4, .row (.loc 900)), (5, .t (.int .i64 ((4 * j : Nat) : Int))), (6, .t (.int .i64 (m1 : Int))), (25, .t (.int .i64 1))] ∧ st = StO.get [(.loc 900, some (.slt 5 1 ((l.take (3 * j)).map u8T)))]) ∨ (q = 2 ∧ env = EnvL.get [(0, .t (.str E)), (2, .t (.str ⟨#[]⟩)), (3, .t (.int .i64 0)), (4, .row (.loc 900)), (5, .t (.int .i64 ((4 * j : Nat) : Int))), (6, .t (.int .i64 (m2 : Int))), (25, .t (.int .i64 2))] ∧ st = StO.get [(.loc 900, some (.slt 5 1 ((l.take (3 * j)).map u8T)))]) ∨ (q = 1 ∧ env = EnvL.get [(0, .t (.str E)), (2, .t (.str ⟨#[]⟩)), (3, .t (.int .i64 0)), (4, .row (.loc 900)), (5, .t (.int .i64 ((4 * j : Nat) : Int))), (6, .t (.int .i64 (m3 : Int))), (25, .t (.int .i64 3))] ∧ st = StO.get [(.loc 900, some (.slt 5 1 ((l.take (3 * j)).map u8T)))]) ∨ (q = 0 ∧ env = EnvL.get [(0, .t (.str E)), (2, .t (.str ⟨#[]⟩)), (3, .t (.int .i64 0)), (4, .row (.loc 900)), (5, .t (.int .i64 ((4 * j : Nat) : Int))), (6, .t (.int .i64 (N : Int))), (25, .t (.int .i64 4))] ∧ st = StO.get [(.loc 900, some (.slt 5 1 ((l.take (3 * j)).map u8T)))]))
      ?_ (n := 4) (.inl ⟨rfl, rfl, rfl⟩)
    rintro q env st (⟨rfl, rfl, rfl⟩ | ⟨rfl, rfl, rfl⟩ | ⟨rfl, rfl, rfl⟩ | ⟨rfl, rfl, rfl⟩ | ⟨rfl, rfl, rfl⟩)
    · repeat' (first | refine wC ?_ | refine wK ?_ | ((with_reducible refine yB ?_); refine zM rfl rfl rfl rfl rfl rfl ?_ ?_ ?_) | ((with_reducible refine zp ?_); refine wL v0 ?_) | fail)
      all_goals try (rw [w0]; omega)
      all_goals try (simp only [w0]; omega)
      all_goals exact zC (n' := 3) (by omega) (za [0, 2, 3, 4, 5, 6, 25] [.loc 900] rfl rfl) (.inr (.inl ⟨rfl, by rw [z0]; rfl, rfl⟩))
    · repeat' (first | refine wC ?_ | refine wK ?_ | ((with_reducible refine yB ?_); refine zM rfl rfl rfl rfl rfl rfl ?_ ?_ ?_) | ((with_reducible refine zp ?_); refine wL v1 ?_) | fail)
      all_goals try (rw [w1]; omega)
      all_goals try (simp only [w1]; omega)
      all_goals exact zC (n' := 2) (by omega) (za [0, 2, 3, 4, 5, 6, 25] [.loc 900] rfl rfl) (.inr (.inr (.inl ⟨rfl, by rw [z1]; rfl, rfl⟩)))
    · repeat' (first | refine wC ?_ | refine wK ?_ | ((with_reducible refine yB ?_); refine zM rfl rfl rfl rfl rfl rfl ?_ ?_ ?_) | ((with_reducible refine zp ?_); refine wL v2 ?_) | fail)
      all_goals try (rw [w2]; omega)
      all_goals try (simp only [w2]; omega)
      all_goals exact zC (n' := 1) (by omega) (za [0, 2, 3, 4, 5, 6, 25] [.loc 900] rfl rfl) (.inr (.inr (.inr (.inl ⟨rfl, by rw [z2]; rfl, rfl⟩))))
    · repeat' (first | refine wC ?_ | refine wK ?_ | ((with_reducible refine yB ?_); refine zM rfl rfl rfl rfl rfl rfl ?_ ?_ ?_) | ((with_reducible refine zp ?_); refine wL v3 ?_) | fail)
      all_goals try (rw [w3]; omega)
      all_goals try (simp only [w3]; omega)
      all_goals exact zC (n' := 0) (by omega) (za [0, 2, 3, 4, 5, 6, 25] [.loc 900] rfl rfl) (.inr (.inr (.inr (.inr ⟨rfl, by rw [z3]; rfl, rfl⟩))))
    · repeat' (first | refine wC ?_ | refine wK ?_ | ((with_reducible refine z6 ?_); refine zx rfl rfl rfl rfl rfl rfl rfl rfl rfl rfl ?_ ?_ ?_) | fail)
      all_goals try (simp only [List.length_map, List.length_cons, List.length_nil, List.length_take]; omega)
      all_goals exact zC (n' := k - (j + 1)) (by omega) ((za [0, 2, 3, 4, 5] [.loc 54] rfl rfl).trans (zw (.loc 54) (.loc 900) rfl rfl rfl rfl)) ⟨j + 1, by omega, rfl, by rw [wj]; rfl, by rw [t3, List.map_append, y0, y1, y2]; rfl⟩
  · obtain rfl : j = k := by omega
    rw [← hl, List.take_length]
    repeat' (first | refine wC ?_ | (exfalso; omega) | refine wK ?_ | ((with_reducible refine z7 ?_); refine zE rfl rfl rfl rfl rfl rfl ?_ ?_) | refine zq rfl ?_ ?_ <;> intro hc | fail)
    all_goals first | exact kM l | omega | exact zH (yI rfl rfl rfl (congrArg T.str (qo l)) rfl) (by simp)
set_option maxHeartbeats 2000000 in
theorem zbq : Spec Try.prog 83 [.t (.int .i64 2)] [] (.t (.int .i64 32)) [] := by
  refine wI Try.func83 ?_
  repeat' (first | refine wC ?_ | refine xk (es := [0, 32, 32, 32, 32, 16, 2, 626, 6].map (T.int .i64)) rfl rfl rfl rfl rfl rfl ?_ | refine wK ?_ | ((with_reducible refine zi ?_); refine zn rfl rfl rfl rfl rfl rfl ?_ ?_ ?_) | fail)
  all_goals first | decide | rfl | exact zH (zj rfl rfl rfl) (by simp)
set_option maxHeartbeats 2000000 in
theorem zcT : Spec Try.prog 65 [.t (.int .i64 1)] [] (.tup [.t (.str ⟨#[69]⟩), .t (.bool true)]) [] := by
  refine wI Try.func65 ?_
  repeat' (first | refine wC ?_ | refine xk (es := ([⟨#[]⟩, ⟨#[69]⟩, ⟨#[68]⟩, ⟨#[66]⟩, ⟨#[65]⟩, ⟨#[48, 65]⟩, ⟨#[77]⟩, ⟨#[83]⟩, ⟨#[49, 65, 65, 76]⟩] : List ByteArray).map T.str) rfl rfl rfl rfl rfl rfl ?_ | refine wK ?_ | ((with_reducible refine zi ?_); refine zn rfl rfl rfl rfl rfl rfl ?_ ?_ ?_) | fail)
  all_goals first | decide | rfl | exact zH (yI rfl rfl rfl rfl rfl) (by simp)
set_option maxHeartbeats 2000000 in
theorem jI : Spec Try.prog 65 [.t (.int .i64 2)] [] (.tup [.t (.str ⟨#[68]⟩), .t (.bool true)]) [] := by
  refine wI Try.func65 ?_
  repeat' (first | refine wC ?_ | refine xk (es := ([⟨#[]⟩, ⟨#[69]⟩, ⟨#[68]⟩, ⟨#[66]⟩, ⟨#[65]⟩, ⟨#[48, 65]⟩, ⟨#[77]⟩, ⟨#[83]⟩, ⟨#[49, 65, 65, 76]⟩] : List ByteArray).map T.str) rfl rfl rfl rfl rfl rfl ?_ | refine wK ?_ | ((with_reducible refine zi ?_); refine zn rfl rfl rfl rfl rfl rfl ?_ ?_ ?_) | fail)
  all_goals first | decide | rfl | exact zH (yI rfl rfl rfl rfl rfl) (by simp)
set_option maxHeartbeats 2000000 in
theorem zap : Spec Try.prog 67 [.t (.int .i64 2)] [] (.t (.int .i64 1)) [] := by
  have hR := zbq
  refine wI Try.func67 ?_
  repeat' (first | refine wC ?_ | refine wK ?_ | ((with_reducible refine zp ?_); refine wL hR ?_) | fail)
  all_goals first | decide | rfl | exact zH (zj rfl rfl (congrArg (T.int .i64) (by decide))) (by simp)
set_option maxHeartbeats 2000000 in
theorem zeE : Spec Try.prog 66 [.t (.int .i64 2)] [] (.t (.int .i64 44)) [] := by
  have hR := zbq
  have hL := zap
  have hC := jI
  refine wI Try.func66 ?_
  repeat' (first | refine wC ?_ | refine wK ?_ | ((with_reducible refine zp ?_); first | refine wL hR ?_ | refine wL hL ?_ | refine wL hC ?_) | fail)
  all_goals first | decide | rfl | exact zH (zj rfl rfl (congrArg (T.int .i64) (by decide))) (by simp)
theorem kI (r : ByteArray) (hr : r.size = 32) : ∃ X : ByteArray, qZ 2 r = ⟨#[68]⟩ ++ X ∧ X.size = 43 ∧ ⟨#[65]⟩ ++ X = ofL (jN 11 (0 :: r.data.toList)) := by
  have hl : r.data.toList.length = 32 := by rw [Array.length_toList]; exact hr
  have hl2 : (0 :: r.data.toList).length = 3 * 11 := by simp [hl]
  have hs : zcu 1 ++ r = ofL (0 :: r.data.toList) := by
    apply ByteArray.ext
    show (zcu 1 ++ r).data = (0 :: r.data.toList).toArray
    rw [ByteArray.data_append]
    show #[0] ++ r.data = _
    apply Array.ext'
    simp
  have hz : (zcu 1 ++ r).size = 33 := by rw [hs, xV, hl2]
  have hb : (xQ (zcu 1 ++ r)).1 = ofL (jN 11 (0 :: r.data.toList)) := by
    have q3 : ((zcu 1 ++ r).size : Int).tmod 3 = (((zcu 1 ++ r).size % 3 : Nat) : Int) := rfl
    unfold xQ
    rw [if_neg (by omega), if_neg (by rw [q3, hz]; decide)]
    show qq (zfE ((zcu 1 ++ r).size / 3) (zcu 1 ++ r)) = _
    rw [hz, hs, zf0 11 _ hl2, qo]
  have hE : (ofL (jN 11 (0 :: r.data.toList))).size = 44 := by rw [xV, kz 11 _ hl2]
  obtain ⟨t, ht⟩ : ∃ t, jN 11 (0 :: r.data.toList) = 65 :: t := by
    obtain ⟨b, c, l, he⟩ : ∃ b c l, r.data.toList = b :: c :: l := by
      match hrl : r.data.toList, hl with
      | b :: c :: l, _ => exact ⟨b, c, l, rfl⟩
    rw [he]
    refine ⟨[alC (dgN (65536 * (0 : UInt8).toNat + 256 * b.toNat + c.toNat) 1), alC (dgN (65536 * (0 : UInt8).toNat + 256 * b.toNat + c.toNat) 2), alC (dgN (65536 * (0 : UInt8).toNat + 256 * b.toNat + c.toNat) 3)] ++ jN 10 l, ?_⟩
    have hb := b.toNat_lt
    have hc := c.toNat_lt
    have h0 : dgN (65536 * (0 : UInt8).toNat + 256 * b.toNat + c.toNat) 0 = 0 := by
      unfold dgN
      simp only [Nat.mul_zero, Nat.sub_zero, Nat.reducePow]
      have : (0 : UInt8).toNat = 0 := rfl
      omega
    rw [jN, qdB, h0]
    rfl
  have htl : t.length = 43 := by
    have := kz 11 _ hl2
    rw [ht, List.length_cons] at this
    omega
  refine ⟨ofL t, ?_, by rw [xV]; exact htl, ?_⟩
  · unfold qZ
    rw [show (ldS (kv 2)).toNat = 1 from by decide, hb, yJ, hE, ht]
    rw [show ((65 :: t).drop 1).take (44 - 1) = t from by rw [List.drop_one, List.tail_cons, List.take_of_length_le (by omega)]]
    rfl
  · rw [ht]
    apply ByteArray.ext
    rw [ByteArray.data_append]
    show #[65] ++ t.toArray = (65 :: t).toArray
    apply Array.ext'
    simp
set_option maxHeartbeats 16000000 in
theorem zfH (r : ByteArray) (hr : r.size = 32) : Spec Try.prog 45 [.t (.str (qZ 2 r))] [] (.tup [.t (.agg [.int .i64 2, .str r]), .t (.int .i64 44), .t (.int .i64 0)]) [] := by
  obtain ⟨X, hX, hXz, hXE⟩ := kI r hr
  have hD := zfT 11 (0 :: r.data.toList) (by simp; exact hr) (by omega)
  rw [← hXE] at hD
  clear hXE
  rw [hX]
  obtain ⟨T, hT⟩ : ∃ T, T = (⟨#[68]⟩ ++ X : ByteArray) := ⟨_, rfl⟩
  have hTz : T.size = 44 := by rw [hT, ByteArray.size_append, hXz]; rfl
  have hT0 : T.extract 0 1 = ⟨#[68]⟩ := by rw [hT]; exact ByteArray.extract_append_eq_left (by rfl)
  have hT1 : T.extract 1 44 = X := by rw [hT]; exact ByteArray.extract_append_eq_right (by rfl) (by rw [hXz]; rfl)
  rw [← hT]
  clear hX hT
  obtain ⟨R, hR⟩ : ∃ R, R = ofL (0 :: r.data.toList) := ⟨_, rfl⟩
  rw [← hR] at hD
  have hRz : R.size = 33 := by rw [hR, xV]; simp; exact hr
  have hR0 : R.extract 0 1 = ⟨#[0]⟩ := by rw [hR, yJ]; rfl
  have hR1 : R.extract 1 R.size = r := by
    rw [hRz, hR, yJ, show ((0 :: r.data.toList).drop 1).take (33 - 1) = r.data.toList from by rw [List.drop_one, List.tail_cons, List.take_of_length_le (by rw [Array.length_toList]; show r.size ≤ _; omega)]]
    exact wX r
  clear hR
  have z69 : (⟨#[69]⟩ : ByteArray).size = 1 := rfl
  have z68 : (⟨#[68]⟩ : ByteArray).size = 1 := rfl
  have z65 : (⟨#[65, 65]⟩ : ByteArray).size = 2 := rfl
  have z00 : (⟨#[0, 0]⟩ : ByteArray).size = 2 := rfl
  have n69 : ¬ T.extract 0 ((⟨#[69]⟩ : ByteArray).size : Int).toNat = ⟨#[69]⟩ := by
    show ¬ T.extract 0 1 = _
    rw [hT0]; intro h; exact absurd (congrArg (fun b => bAt b 0) h) (by decide)
  have p68 : T.extract 0 ((⟨#[68]⟩ : ByteArray).size : Int).toNat = ⟨#[68]⟩ := hT0
  have hAA : (⟨#[65, 65]⟩ : ByteArray).extract 0 (1 : Int).toNat ++ T.extract ((⟨#[68]⟩ : ByteArray).size : Int).toNat (44 : Int).toNat = ⟨#[65]⟩ ++ X := by
    rw [show T.extract ((⟨#[68]⟩ : ByteArray).size : Int).toNat (44 : Int).toNat = X from hT1, show (⟨#[65, 65]⟩ : ByteArray).extract 0 (1 : Int).toNat = ⟨#[65]⟩ from (yJ [65, 65] 0 1).trans rfl]
  rw [← hAA] at hD
  have hAz : ((⟨#[65, 65]⟩ : ByteArray).extract (0 : Int).toNat (1 : Int).toNat).size = 1 := by rw [ByteArray.size_extract]; rfl
  have hTz2 : (T.extract ((⟨#[68]⟩ : ByteArray).size : Int).toNat (44 : Int).toNat).size = 43 := by rw [show T.extract ((⟨#[68]⟩ : ByteArray).size : Int).toNat (44 : Int).toNat = X from hT1]; exact hXz
  have p0 : R.extract 0 (1 : Int).toNat = (⟨#[0, 0]⟩ : ByteArray).extract 0 (1 : Int).toNat := by
    rw [show (⟨#[0, 0]⟩ : ByteArray).extract 0 (1 : Int).toNat = ⟨#[0]⟩ from (yJ [0, 0] 0 1).trans rfl]; exact hR0
  rw [← hR1]
  clear hAA hR0 hT0 hT1 hR1
  have c1 := zcT
  have c2 := jI
  have hSz := zeE
  have hL := zap
  refine wI Try.func45 ?_
  repeat' (first | refine wC ?_ | refine wK ?_ | fail)
  refine zc (za [0, 2, 3, 4, 5] [.loc 2] rfl rfl) ?_
  refine zh (fun q env st => (q = 1 ∧ env = EnvL.get [(0, .t (.str T)), (2, .ref (.loc 2) 0 0 0), (3, .t (.int .i64 0)), (4, .t (.int .i64 0)), (5, .t (.int .i64 1))] ∧ st = StO.get [(.loc 2, some (.var 62 [.t (.int .i64 0), .t (.str ⟨#[]⟩)]))]) ∨ (q = 0 ∧ env = EnvL.get [(0, .t (.str T)), (2, .ref (.loc 2) 0 0 0), (3, .t (.int .i64 0)), (4, .t (.int .i64 0)), (5, .t (.int .i64 2))] ∧ st = StO.get [(.loc 2, some (.var 62 [.t (.int .i64 0), .t (.str ⟨#[]⟩)]))]))
    ?_ (n := 1) (.inl ⟨rfl, rfl, rfl⟩)
  rintro q env st (⟨rfl, rfl, rfl⟩ | ⟨rfl, rfl, rfl⟩)
  · repeat' (first | refine wC ?_ | (exfalso; omega) | exact absurd ‹_› n69 | refine wK ?_ | ((with_reducible refine yK ?_); refine zy rfl rfl rfl ⟨_, rfl⟩ rfl rfl rfl ?_ ?_ ?_ ?_) | ((with_reducible refine zp ?_); refine wL c1 ?_) | refine y8 rfl ?_ ?_ <;> intro hc | refine vo rfl ?_ ?_ <;> intro hc | fail)
    all_goals try omega
    all_goals exact zC (n' := 0) (by omega) (za [0, 2, 3, 4, 5] [.loc 2] rfl rfl) (.inr ⟨rfl, rfl, rfl⟩)
  · repeat' (first | refine wC ?_ | (exfalso; omega) | exact absurd p68 ‹_› | exact absurd p0 ‹_› | refine wK ?_ | ((with_reducible refine zW ?_); refine zX rfl rfl rfl rfl rfl rfl ?_ ?_) | ((with_reducible refine yK ?_); first | refine zy rfl rfl rfl ⟨_, rfl⟩ rfl rfl rfl ?_ ?_ ?_ ?_ | refine zy rfl rfl ⟨_, rfl⟩ rfl rfl rfl rfl ?_ ?_ ?_ ?_ | refine zy rfl rfl ⟨_, rfl⟩ ⟨_, rfl⟩ rfl rfl rfl ?_ ?_ ?_ ?_) | ((with_reducible refine zp ?_); first | refine wL c2 ?_ | refine wL hSz ?_ | refine wL hL ?_ | refine wL hD ?_) | refine zq rfl ?_ ?_ <;> intro hc | refine y8 rfl ?_ ?_ <;> intro hc | refine vo rfl ?_ ?_ <;> intro hc | fail)
    all_goals try omega
    all_goals (refine zH ?_ (zN trivial); refine jS rfl rfl rfl inferInstance rfl inferInstance rfl ?_ ?_ ?_; exact TLe.av wT; exact AVLE.refl _; exact AVLE.refl _)
set_option maxHeartbeats 2000000 in
theorem zd6 (r : ByteArray) (hr : r.size = 32) : Spec Try.prog 28 [.t (.int .i64 2), .t (.str (qZ 2 r))] [] (.tup [.t (.str r), .t (.int .i64 0)]) [] := by
  have hD := zfH r hr
  have hz : (qZ 2 r).size = 44 := by
    have := zfe 2 (by omega) (by omega) r (by rw [hr]; rfl)
    have h2 : zkM 2 = 44 := by decide
    omega
  generalize qZ 2 r = T at *
  refine wI Try.func28 ?_
  repeat' (first | refine wC ?_ | (exfalso; omega) | refine wK ?_ | ((with_reducible refine zp ?_); refine wL hD ?_) | refine y8 rfl ?_ ?_ <;> intro hc | fail)
  all_goals first | omega | exact zH (yI rfl rfl rfl rfl rfl) (by simp)
theorem zbe (a b : List UInt8) : ofL a ++ ofL b = ofL (a ++ b) := by
  apply ByteArray.ext
  rw [ByteArray.data_append]
  show a.toArray ++ b.toArray = (a ++ b).toArray
  simp
theorem zaM (P B Q : ByteArray) (i j : Nat) (hi : P.size = i) (hj : P.size + B.size = j) : (P ++ B ++ Q).extract i j = B := by
  obtain ⟨p, rfl⟩ : ∃ p, P = ofL p := ⟨_, (wX P).symm⟩
  obtain ⟨b, rfl⟩ : ∃ b, B = ofL b := ⟨_, (wX B).symm⟩
  obtain ⟨q, rfl⟩ : ∃ q, Q = ofL q := ⟨_, (wX Q).symm⟩
  subst hi; subst hj
  rw [zbe, zbe, yJ]
  simp only [xV, Nat.add_sub_cancel_left, List.append_assoc, List.drop_left, List.take_left]
theorem zh4 (P Q : ByteArray) (h : 0 < P.size) : bAt (P ++ Q) 0 = bAt P 0 := by
  obtain ⟨p, rfl⟩ : ∃ p, P = ofL p := ⟨_, (wX P).symm⟩
  obtain ⟨q, rfl⟩ : ∃ q, Q = ofL q := ⟨_, (wX Q).symm⟩
  rw [zbe]
  cases p with
  | nil => exact absurd h (by decide)
  | cons x p => rfl
theorem ze2 (s m : ByteArray) (u : Nat) (hu : u < 8) : bAt (ktS s u m) 0 = (u : Int) ∧ (ktS s u m).extract 1 577 = zeZ (va s (u : Int)) m ∧ (ktS s u m).extract 577 593 = ktB s u 0 ∧ (ktS s u m).extract 593 609 = ktB s u 1 ∧ (ktS s u m).extract 609 625 = ktB s u 2 := by
  have z1 := qh (va s (u : Int)) m
  have z0 := ky (u : Int)
  have y0 : (ktB s u 0).size = 16 := zO ..
  have y1 : (ktB s u 1).size = 16 := zO ..
  have y2 : (ktB s u 2).size = 16 := zO ..
  have hb : bAt (byS (u : Int)) 0 = (u : Int) := by
    have : u = 0 ∨ u = 1 ∨ u = 2 ∨ u = 3 ∨ u = 4 ∨ u = 5 ∨ u = 6 ∨ u = 7 := by omega
    rcases this with rfl | rfl | rfl | rfl | rfl | rfl | rfl | rfl <;> rfl
  unfold ktS
  generalize zeZ (va s (u : Int)) m = A at *
  generalize ktB s u 0 = B0 at *
  generalize ktB s u 1 = B1 at *
  generalize ktB s u 2 = B2 at *
  generalize byS (u : Int) = Z at *
  have s1 : (Z ++ A).size = 577 := by rw [ByteArray.size_append]; omega
  have s2 : (Z ++ A ++ B0).size = 593 := by rw [ByteArray.size_append]; omega
  have s3 : (Z ++ A ++ B0 ++ B1).size = 609 := by rw [ByteArray.size_append]; omega
  refine ⟨?_, ?_, ?_, ?_, ?_⟩
  · rw [ByteArray.append_assoc, ByteArray.append_assoc, ByteArray.append_assoc, zh4 _ _ (by omega)]; exact hb
  · rw [ByteArray.append_assoc, ByteArray.append_assoc]; exact zaM _ _ _ _ _ z0 (by omega)
  · rw [ByteArray.append_assoc (a := Z ++ A ++ B0)]; exact zaM _ _ _ _ _ s1 (by omega)
  · exact zaM _ _ _ _ _ s2 (by omega)
  · have := zaM (Z ++ A ++ B0 ++ B1) B2 ByteArray.empty 609 625 s3 (by omega)
    rwa [ByteArray.append_empty] at this
theorem zhY (u k : Nat) (kk : Int) (hkk : kk = k) (hu : u < 8) (hk : k < 3) : IntKind.u8.wrap ↑(BitVec.ofInt IntKind.u8.bits ((u : Int) / 2 ^ min (IntKind.u64.wrap kk).toNat IntKind.u8.bits) &&& BitVec.ofInt IntKind.u8.bits 1).toNat = ((u / 2 ^ k % 2 : Nat) : Int) := by
  have h : ∀ k : Fin 3, ∀ u : Fin 8, IntKind.u8.wrap ↑(BitVec.ofInt IntKind.u8.bits (((u.val : Nat) : Int) / 2 ^ min (IntKind.u64.wrap ((k.val : Nat) : Int)).toNat IntKind.u8.bits) &&& BitVec.ofInt IntKind.u8.bits 1).toNat = ((u.val / 2 ^ k.val % 2 : Nat) : Int) := by decide
  subst hkk; exact h ⟨k, hk⟩ ⟨u, hu⟩
set_option maxRecDepth 2000 in
set_option maxHeartbeats 16000000 in
theorem zdp (s m : ByteArray) (u : Nat) (hu : u < 8) (hs : s.size ≤ 900000) (hm : m.size ≤ 900000) : Spec Try.prog 17 [.t (.str (qZ 2 (ktP s))), .t (.str m), .t (.str (ktS s u m))] [] (.t (.bool true)) [] := by
  have hO := zd6 (ktP s) (qe s)
  obtain ⟨p0, p1, p2, p3, p4⟩ := ze2 s m u hu
  have hz := zhq s u m
  have zG := qh (va s (u : Int)) m
  have hR := zbc m (zeZ (va s (u : Int)) m) hm (by omega)
  have eR : zkk m (zeZ (va s (u : Int)) m) = kc (va s (u : Int)) := by unfold zkk; rw [if_pos zG, ziy]
  rw [eR, ← p1] at hR
  generalize qZ 2 (ktP s) = K at *
  generalize hG : ktS s u m = G at *
  have zP : (kc (va s (u : Int))).size = 16 := yH _
  have hL := wO (⟨#[0]⟩ ++ kc (va s (u : Int))) (by rw [ByteArray.size_append, zP]; decide)
  rw [show zL (⟨#[0]⟩ ++ kc (va s (u : Int))) = ktL s 0 u from rfl] at hL
  generalize kc (va s (u : Int)) = PB at *
  have z0 : (⟨#[0]⟩ : ByteArray).size = 1 := rfl
  refine wI Try.func17 ?_
  repeat' (first | refine wC ?_ | (exfalso; omega) | refine wK ?_ | ((with_reducible refine zW ?_); refine zX rfl rfl rfl rfl rfl rfl ?_ ?_) | ((with_reducible refine yB ?_); refine zM rfl rfl rfl rfl rfl rfl ?_ ?_ ?_) | ((with_reducible refine yK ?_); refine zy rfl rfl ⟨_, rfl⟩ ⟨_, rfl⟩ rfl rfl rfl ?_ ?_ ?_ ?_) | ((with_reducible refine zp ?_); first | refine wL hO ?_ | refine wL hR ?_ | refine wL hL ?_) | refine zq rfl ?_ ?_ <;> intro hc | refine zbz rfl ?_ ?_ <;> intro hc | fail)
  all_goals try omega
  obtain ⟨e9, he9⟩ : ∃ e : Int, e = 577 := ⟨_, rfl⟩
  refine zc (za [2, 6, 7, 9, 12, 50] [] rfl rfl) ?_
  refine zh (fun q env st => (q = 3 ∧ env = EnvL.get [(2, .t (.str G)), (6, .t (.bool false)), (7, .t (.str (ktP s))), (9, .t (.int .i64 e9)), (12, .t (.str (ktL s 0 (u / 2 ^ 0)))), (50, .t (.int .i64 0))] ∧ st = StO.get []) ∨ (q = 2 ∧ env = EnvL.get [(2, .t (.str G)), (6, .t (.bool false)), (7, .t (.str (ktP s))), (9, .t (.int .i64 e9)), (12, .t (.str (ktL s 1 (u / 2 ^ 1)))), (50, .t (.int .i64 1))] ∧ st = StO.get []) ∨ (q = 1 ∧ env = EnvL.get [(2, .t (.str G)), (6, .t (.bool false)), (7, .t (.str (ktP s))), (9, .t (.int .i64 e9)), (12, .t (.str (ktL s 2 (u / 2 ^ 2)))), (50, .t (.int .i64 2))] ∧ st = StO.get []) ∨ (q = 0 ∧ env = EnvL.get [(2, .t (.str G)), (6, .t (.bool false)), (7, .t (.str (ktP s))), (9, .t (.int .i64 e9)), (12, .t (.str (ktL s 3 (u / 2 ^ 3)))), (50, .t (.int .i64 3))] ∧ st = StO.get []))
    ?_ (n := 3) (.inl ⟨rfl, by rw [he9, show u / 2 ^ 0 = u from Nat.div_one u]; rfl, rfl⟩)
  rintro q env st (⟨rfl, rfl, rfl⟩ | ⟨rfl, rfl, rfl⟩ | ⟨rfl, rfl, rfl⟩ | ⟨rfl, rfl, rfl⟩)
  · have hup := zil s u 0 hu (by omega)
    have e1 := zO s 0 (u / 2 ^ 0)
    have e2 : (ktB s u 0).size = 16 := zO ..
    have hn1 := xF (ktL s 0 (u / 2 ^ 0)) (ktB s u 0) (by omega) (by omega)
    have hn2 := xF (ktB s u 0) (ktL s 0 (u / 2 ^ 0)) (by omega) (by omega)
    have hlo : IntKind.i64.wrap (e9 + IntKind.i64.wrap (0 * 16)) = 577 := by rw [he9]; decide
    have hhi : IntKind.i64.wrap (e9 + IntKind.i64.wrap (IntKind.i64.wrap (0 + 1) * 16)) = 593 := by rw [he9]; decide
    have hy : G.extract (IntKind.i64.wrap (e9 + IntKind.i64.wrap (0 * 16))).toNat (IntKind.i64.wrap (e9 + IntKind.i64.wrap (IntKind.i64.wrap (0 + 1) * 16))).toNat = ktB s u 0 := by
      rw [hlo, hhi]; exact p2
    clear he9
    have hcond := zhY u 0 0 rfl hu (by omega)
    rw [← p0] at hcond
    repeat' (first | refine wC ?_ | refine wK ?_ | ((with_reducible refine yB ?_); refine zM rfl rfl rfl rfl rfl rfl ?_ ?_ ?_) | ((with_reducible refine yK ?_); refine zy rfl rfl ⟨_, rfl⟩ ⟨_, rfl⟩ rfl rfl rfl ?_ ?_ ?_ ?_) | refine zq rfl ?_ ?_ <;> intro hc | fail)
    · rw [hlo]; decide
    · rw [hlo, hhi]; decide
    · rw [hhi]; omega
    · omega
    · omega
    · rw [show _ = _ from hcond] at hc
      have hb : u / 2 ^ 0 % 2 = 0 := by omega
      rw [if_pos hb] at hup
      rw [← hup] at hn1
      rw [hy]
      clear hn2 hb hc hcond hlo hhi hy
      repeat' (first | refine wC ?_ | refine wK ?_ | ((with_reducible refine zp ?_); refine wL hn1 ?_) | fail)
      exact zC (n' := 2) (by omega) (za [2, 6, 7, 9, 12, 50] [] rfl rfl) (.inr (.inl ⟨rfl, rfl, rfl⟩))
    · rw [show _ = _ from hcond] at hc
      have hb : ¬ u / 2 ^ 0 % 2 = 0 := by omega
      rw [if_neg hb] at hup
      rw [← hup] at hn2
      rw [hy]
      clear hn1 hb hc hcond hlo hhi hy
      repeat' (first | refine wC ?_ | refine wK ?_ | ((with_reducible refine zp ?_); refine wL hn2 ?_) | fail)
      exact zC (n' := 2) (by omega) (za [2, 6, 7, 9, 12, 50] [] rfl rfl) (.inr (.inl ⟨rfl, rfl, rfl⟩))
  · have hup := zil s u 1 hu (by omega)
    have e1 := zO s 1 (u / 2 ^ 1)
    have e2 : (ktB s u 1).size = 16 := zO ..
    have hn1 := xF (ktL s 1 (u / 2 ^ 1)) (ktB s u 1) (by omega) (by omega)
    have hn2 := xF (ktB s u 1) (ktL s 1 (u / 2 ^ 1)) (by omega) (by omega)
    have hlo : IntKind.i64.wrap (e9 + IntKind.i64.wrap (1 * 16)) = 593 := by rw [he9]; decide
    have hhi : IntKind.i64.wrap (e9 + IntKind.i64.wrap (IntKind.i64.wrap (1 + 1) * 16)) = 609 := by rw [he9]; decide
    have hy : G.extract (IntKind.i64.wrap (e9 + IntKind.i64.wrap (1 * 16))).toNat (IntKind.i64.wrap (e9 + IntKind.i64.wrap (IntKind.i64.wrap (1 + 1) * 16))).toNat = ktB s u 1 := by
      rw [hlo, hhi]; exact p3
    clear he9
    have hcond := zhY u 1 1 rfl hu (by omega)
    rw [← p0] at hcond
    repeat' (first | refine wC ?_ | refine wK ?_ | ((with_reducible refine yB ?_); refine zM rfl rfl rfl rfl rfl rfl ?_ ?_ ?_) | ((with_reducible refine yK ?_); refine zy rfl rfl ⟨_, rfl⟩ ⟨_, rfl⟩ rfl rfl rfl ?_ ?_ ?_ ?_) | refine zq rfl ?_ ?_ <;> intro hc | fail)
    · rw [hlo]; decide
    · rw [hlo, hhi]; decide
    · rw [hhi]; omega
    · omega
    · omega
    · rw [show _ = _ from hcond] at hc
      have hb : u / 2 ^ 1 % 2 = 0 := by omega
      rw [if_pos hb] at hup
      rw [← hup] at hn1
      rw [hy]
      clear hn2 hb hc hcond hlo hhi hy
      repeat' (first | refine wC ?_ | refine wK ?_ | ((with_reducible refine zp ?_); refine wL hn1 ?_) | fail)
      exact zC (n' := 1) (by omega) (za [2, 6, 7, 9, 12, 50] [] rfl rfl) (.inr (.inr (.inl ⟨rfl, rfl, rfl⟩)))
    · rw [show _ = _ from hcond] at hc
      have hb : ¬ u / 2 ^ 1 % 2 = 0 := by omega
      rw [if_neg hb] at hup
      rw [← hup] at hn2
      rw [hy]
      clear hn1 hb hc hcond hlo hhi hy
      repeat' (first | refine wC ?_ | refine wK ?_ | ((with_reducible refine zp ?_); refine wL hn2 ?_) | fail)
      exact zC (n' := 1) (by omega) (za [2, 6, 7, 9, 12, 50] [] rfl rfl) (.inr (.inr (.inl ⟨rfl, rfl, rfl⟩)))
  · have hup := zil s u 2 hu (by omega)
    have e1 := zO s 2 (u / 2 ^ 2)
    have e2 : (ktB s u 2).size = 16 := zO ..
    have hn1 := xF (ktL s 2 (u / 2 ^ 2)) (ktB s u 2) (by omega) (by omega)
    have hn2 := xF (ktB s u 2) (ktL s 2 (u / 2 ^ 2)) (by omega) (by omega)
    have hlo : IntKind.i64.wrap (e9 + IntKind.i64.wrap (2 * 16)) = 609 := by rw [he9]; decide
    have hhi : IntKind.i64.wrap (e9 + IntKind.i64.wrap (IntKind.i64.wrap (2 + 1) * 16)) = 625 := by rw [he9]; decide
    have hy : G.extract (IntKind.i64.wrap (e9 + IntKind.i64.wrap (2 * 16))).toNat (IntKind.i64.wrap (e9 + IntKind.i64.wrap (IntKind.i64.wrap (2 + 1) * 16))).toNat = ktB s u 2 := by
      rw [hlo, hhi]; exact p4
    clear he9
    have hcond := zhY u 2 2 rfl hu (by omega)
    rw [← p0] at hcond
    repeat' (first | refine wC ?_ | refine wK ?_ | ((with_reducible refine yB ?_); refine zM rfl rfl rfl rfl rfl rfl ?_ ?_ ?_) | ((with_reducible refine yK ?_); refine zy rfl rfl ⟨_, rfl⟩ ⟨_, rfl⟩ rfl rfl rfl ?_ ?_ ?_ ?_) | refine zq rfl ?_ ?_ <;> intro hc | fail)
    · rw [hlo]; decide
    · rw [hlo, hhi]; decide
    · rw [hhi]; omega
    · omega
    · omega
    · rw [show _ = _ from hcond] at hc
      have hb : u / 2 ^ 2 % 2 = 0 := by omega
      rw [if_pos hb] at hup
      rw [← hup] at hn1
      rw [hy]
      clear hn2 hb hc hcond hlo hhi hy
      repeat' (first | refine wC ?_ | refine wK ?_ | ((with_reducible refine zp ?_); refine wL hn1 ?_) | fail)
      exact zC (n' := 0) (by omega) (za [2, 6, 7, 9, 12, 50] [] rfl rfl) (.inr (.inr (.inr ⟨rfl, rfl, rfl⟩)))
    · rw [show _ = _ from hcond] at hc
      have hb : ¬ u / 2 ^ 2 % 2 = 0 := by omega
      rw [if_neg hb] at hup
      rw [← hup] at hn2
      rw [hy]
      clear hn1 hb hc hcond hlo hhi hy
      repeat' (first | refine wC ?_ | refine wK ?_ | ((with_reducible refine zp ?_); refine wL hn2 ?_) | fail)
      exact zC (n' := 0) (by omega) (za [2, 6, 7, 9, 12, 50] [] rfl rfl) (.inr (.inr (.inr ⟨rfl, rfl, rfl⟩)))
  · have hT := k8 (⟨#[2]⟩ ++ ktL s 3 (u / 2 ^ 3)) (by rw [ByteArray.size_append, zO]; decide)
    have e3 := zO s 3 (u / 2 ^ 3)
    have z2 : (⟨#[2]⟩ : ByteArray).size = 1 := rfl
    have hu0 : u / 2 ^ 3 = 0 := by omega
    rw [hu0] at hT e3 ⊢
    rw [show sha (⟨#[2]⟩ ++ ktL s 3 0) = ktP s from rfl] at hT
    repeat' (first | refine wC ?_ | refine wK ?_ | ((with_reducible refine zW ?_); refine zX rfl rfl rfl rfl rfl rfl ?_ ?_) | ((with_reducible refine zp ?_); refine wL hT ?_) | fail)
    all_goals try omega
    all_goals exact zH (zj rfl rfl (congrArg T.bool (decide_eq_true rfl))) (by simp)
end Go.AL
namespace Go.AL
open Go
section
open Go.RowKit
end
end Go.AL
namespace Go.AL
def zkq (c : Nat) : Nat := c ||| 32
def hv (c : Nat) : Option Nat := if 48 ≤ c ∧ c ≤ 57 then some (c - 48) else if 97 ≤ zkq c ∧ zkq c ≤ 102 then some (zkq c - 87) else none
theorem jJ {α : Type} [Inhabited α] : ∀ (L : List α) (j : Nat), j < L.length → L.drop j = L.getD j default :: L.drop (j + 1)
  | [], j, h => by simp at h
  | x :: L, 0, h => by simp
  | x :: L, j + 1, h => by simpa using jJ L j (by simpa using h)
end Go.AL
namespace Go.AL
open Go
structure Fr where
  n : Int
  d : Int
  deriving Inhabited, DecidableEq
def Fr.toT (f : Fr) : T := .agg [.int .i64 f.n, .int .i64 f.d]
def zk7 (a b : Int) : Int := (Nat.gcd a.toNat b.toNat : Int)
def Fr.wt (f : Fr) : Bool := decide (1 ≤ f.d ∧ f.d ≤ 100 ∧ 0 ≤ f.n ∧ f.n ≤ f.d) && decide (zk7 f.n f.d = 1)
def zgq {α : Type} (p : α → Bool) : List α → Nat → Int
  | [], _ => -1
  | x :: l, k => if p x then (k : Int) else zgq p l (k + 1)
theorem zfc {α : Type} (p : α → Bool) : ∀ (l : List α) (k : Nat), decide (0 ≤ zgq p l k) = l.any p
  | [], k => by simp [zgq]
  | x :: l, k => by
    rw [zgq, List.any_cons]
    cases hp : p x with
    | true => simp
    | false => simp [zfc p l (k + 1)]
def frs (l : List Fr) : T := .sl 2 (l.map Fr.toT)
structure Th where
  n : Int
  w : List (List Fr)
  deriving Inhabited
def Th.toT (t : Th) : T := .agg [.int .i64 t.n, .sl 1 (t.w.map frs)]
def zj1 : List (List Fr) → Nat
  | [] => 0
  | l :: r => l.length + zj1 r
structure Th.Fit (t : Th) : Prop where
  few : zj1 t.w ≤ 8
  lists : t.w.length ≤ 8
  wt : ∀ l ∈ t.w, ∀ f ∈ l, f.wt = true
  one : t.n = 0 ∨ t.w.length = 0
end Go.AL
namespace Go.AL
open Go Go.Proofs Go.RowKit
def vaT (s : ByteArray) (p c n : Int) (l : List Int) : T := .agg [.str s, .int .i64 p, .int .i64 c, .int .i64 n, .sl 1 (l.map (T.int .i64))]
def sdS (s : ByteArray) (g i : Int) : ByteArray := sha (zaH [s, yS g, yS i])
theorem qi (s : ByteArray) (g i : Int) : (sdS s g i).size = 32 := xA _
set_option maxHeartbeats 1000000 in
theorem zab (n : Int) : Spec Try.prog 34 [.t (.int .i64 n)] [] (.t (.str (yS n))) [] := by
  refine wI Try.func34 ?_
  repeat' (first | refine wC ?_ | refine wK ?_ | ((with_reducible refine z7 ?_); refine zE rfl rfl rfl rfl rfl rfl ?_ ?_) | fail)
  all_goals try exact zbL _ _ _ _
  exact zH (zj rfl rfl rfl) (by simp)
set_option maxHeartbeats 1000000 in
theorem zeh (s : ByteArray) (g i : Int) (hs : s.size ≤ 900000) : Spec Try.prog 18 [.t (.str s), .t (.int .i64 g), .t (.int .i64 i)] [] (.t (.str (sdS s g i))) [] := by
  have h1 := zab g
  have h2 := zab i
  have hL := zfF [s, yS g, yS i] 900000 (by
    intro x hx
    rcases List.mem_cons.1 hx with rfl | hx
    · exact hs
    rcases List.mem_cons.1 hx with rfl | hx
    · rw [yU]; decide
    rcases List.mem_cons.1 hx with rfl | hx
    · rw [yU]; decide
    · cases hx) (by simp) (by simp)
  rw [show sha (zaH [s, yS g, yS i]) = sdS s g i from rfl] at hL
  generalize sdS s g i = Y at *
  generalize yS g = A at *
  generalize yS i = B at *
  refine wI Try.func18 ?_
  repeat' (first | refine wC ?_ | refine xk (es := [s, A, B].map T.str) rfl rfl rfl rfl rfl rfl ?_ | refine wK ?_ | ((with_reducible refine zp ?_); first | refine wL h1 ?_ | refine wL h2 ?_ | refine wL hL ?_) | fail)
  exact zH (zj rfl rfl rfl) (by simp)
set_option maxHeartbeats 1000000 in
theorem wu (n m : Int) : Spec Try.prog 10 [.t (.int .i64 n), .t (.int .i64 m)] [] (.t (.bool (decide (m ≤ n) && decide (n ≤ 8)))) [] := by
  refine wI Try.func10 ?_
  repeat' (first | refine wC ?_ | refine wK ?_ | refine vo rfl ?_ ?_ <;> intro hc | fail)
  all_goals exact zH (zj rfl rfl (congrArg T.bool (by simp [hc]))) (by simp)
def zie (n : Int) : Bool := decide (n < 0) || decide (8 < n)
set_option maxHeartbeats 1000000 in
theorem zcn (n : Int) : Spec Try.prog 22 [.t (.int .i64 n)] [] (.t (.bool (zie n))) [] := by
  refine wI Try.func22 ?_
  repeat' (first | refine wC ?_ | refine wK ?_ | refine vo rfl ?_ ?_ <;> intro hc | fail)
  all_goals exact zH (zj rfl rfl (congrArg T.bool (by simp [zie, hc]))) (by simp)
set_option maxHeartbeats 2000000 in
theorem za7 (p : Int → Bool) (g : FuncId) [FnB Try.prog g] (l : List Int) (hf : ∀ x ∈ l, Spec Try.prog g [.t (.int .i64 x)] [] (.t (.bool (p x))) []) (hl : l.length ≤ 1000000000) : Spec Try.prog 38 [.t (.sl 1 (l.map (T.int .i64))), .t (.fn g)] [] (.t (.int .i64 (zgq p l 0))) [] := by
  obtain ⟨R, hR⟩ : ∃ R, R = zgq p l 0 := ⟨_, rfl⟩
  rw [← hR]
  refine wI Try.func38 ?_
  repeat' (first | refine wC ?_ | refine wK ?_ | fail)
  refine zc (za [0, 1, 7, 8] [] rfl rfl) ?_
  refine zh (fun q env st => ∃ (j : Nat), j ≤ l.length ∧ q = l.length - j ∧ zgq p (l.drop j) j = R ∧ env = EnvL.get [(0, .t (.sl 1 (l.map (T.int .i64)))), (1, .t (.fn g)), (7, .t (.int .i64 (l.length : Int))), (8, .t (.int .i64 (j : Int)))] ∧ st = StO.get [])
    ?_ (n := l.length) ⟨0, by omega, rfl, hR.symm, rfl, rfl⟩
  rintro q env st ⟨j, hj, rfl, hG, rfl, rfl⟩
  have wj : IntKind.i64.wrap ((j : Int) + 1) = ((j + 1 : Nat) : Int) := by rw [zl (by omega) (by omega)]; omega
  by_cases hlt : j < l.length
  · have hcl := hf (l.getD (j : Int).toNat default) (by rw [Int.toNat_natCast, List.getD_eq_getElem?_getD, List.getElem?_eq_getElem hlt]; exact List.getElem_mem _)
    rw [jJ l j hlt, zgq, show l.getD j default = l.getD (j : Int).toNat default from rfl] at hG
    cases hp : p (l.getD (j : Int).toNat default) with
    | true =>
      rw [hp] at hcl hG
      rw [if_pos rfl] at hG
      repeat' (first | refine wC ?_ | (exfalso; omega) | refine wK ?_ | ((with_reducible refine zi ?_); refine zn rfl rfl rfl rfl rfl rfl ?_ ?_ ?_) | ((with_reducible refine zp ?_); refine wL hcl ?_) | refine zq rfl ?_ ?_ <;> intro hc | fail)
      all_goals try (simp only [List.length_map]; omega)
      all_goals try omega
      all_goals first | rfl | exact zH (zj rfl rfl (congrArg (T.int .i64) hG)) (by simp)
    | false =>
      rw [hp] at hcl hG
      rw [if_neg (by decide)] at hG
      repeat' (first | refine wC ?_ | (exfalso; omega) | refine wK ?_ | ((with_reducible refine zi ?_); refine zn rfl rfl rfl rfl rfl rfl ?_ ?_ ?_) | ((with_reducible refine zp ?_); refine wL hcl ?_) | refine zq rfl ?_ ?_ <;> intro hc | fail)
      all_goals try (simp only [List.length_map]; omega)
      all_goals try omega
      all_goals first | rfl | exact zC (n' := l.length - (j + 1)) (by omega) (za [0, 1, 7, 8] [] rfl rfl) ⟨j + 1, by omega, rfl, hG, by rw [wj]; rfl, rfl⟩
  · obtain rfl : j = l.length := by omega
    rw [List.drop_length, zgq] at hG
    repeat' (first | refine wC ?_ | (exfalso; omega) | refine wK ?_ | refine zq rfl ?_ ?_ <;> intro hc | fail)
    exact zH (zj rfl rfl (congrArg (T.int .i64) hG)) (by simp)
set_option maxHeartbeats 2000000 in
theorem ku (p : Int → Bool) (g : FuncId) [FnB Try.prog g] (l : List Int) (hf : ∀ x ∈ l, Spec Try.prog g [.t (.int .i64 x)] [] (.t (.bool (p x))) []) (hl : l.length ≤ 1000000000) : Spec Try.prog 23 [.t (.sl 1 (l.map (T.int .i64))), .t (.fn g)] [] (.t (.bool (l.any p))) [] := by
  have hI := za7 p g l hf hl
  rw [← zfc p l 0]
  generalize zgq p l 0 = R at *
  refine wI Try.func23 ?_
  repeat' (first | refine wC ?_ | refine wK ?_ | ((with_reducible refine zp ?_); refine wL hI ?_) | fail)
  exact zH (zj rfl rfl rfl) (by simp)
def zgp : Int → List Int → Int
  | a, [] => a
  | a, x :: l => zgp (if x > a then x else a) l
set_option maxHeartbeats 2000000 in
theorem zha (a : Int) (l : List Int) (hl : l.length ≤ 1000000000) : Spec Try.prog 25 [.t (.sl 1 ((a :: l).map (T.int .i64)))] [] (.t (.int .i64 (zgp a l))) [] := by
  obtain ⟨R, hR⟩ : ∃ R, R = zgp a l := ⟨_, rfl⟩
  rw [← hR]
  obtain ⟨w, hw⟩ : ∃ w, w = a :: l := ⟨_, rfl⟩
  have hwl : w.length = l.length + 1 := by rw [hw]; rfl
  have ha : w.getD (0 : Int).toNat default = a := by rw [hw]; rfl
  have hd : w.drop 1 = l := by rw [hw]; rfl
  rw [← hw]
  refine wI Try.func25 ?_
  repeat' (first | refine wC ?_ | (exfalso; omega) | refine wK ?_ | ((with_reducible refine zi ?_); refine zn rfl rfl rfl rfl rfl rfl ?_ ?_ ?_) | refine zq rfl ?_ ?_ <;> intro hc | fail)
  · omega
  · omega
  rw [ha]
  refine zc (za [0, 3, 4] [] rfl rfl) ?_
  refine zh (fun q env st => ∃ (j : Nat) (c : Int), 1 ≤ j ∧ j ≤ w.length ∧ q = w.length - j ∧ zgp c (w.drop j) = R ∧ env = EnvL.get [(0, .t (.sl 1 (w.map (T.int .i64)))), (3, .t (.int .i64 c)), (4, .t (.int .i64 (j : Int)))] ∧ st = StO.get [])
    ?_ (n := w.length - 1) ⟨1, a, by omega, by omega, rfl, by rw [hd, hR], rfl, rfl⟩
  rintro q env st ⟨j, c, hj1, hj, rfl, hG, rfl, rfl⟩
  have wj : IntKind.i64.wrap ((j : Int) + 1) = ((j + 1 : Nat) : Int) := by rw [zl (by omega) (by omega)]; omega
  clear ha hd hw
  by_cases hlt : j < w.length
  · rw [jJ w j hlt, zgp, show w.getD j default = w.getD (j : Int).toNat default from rfl] at hG
    repeat' (first | refine wC ?_ | (exfalso; omega) | refine wK ?_ | ((with_reducible refine zi ?_); refine zn rfl rfl rfl rfl rfl rfl ?_ ?_ ?_) | refine zq rfl ?_ ?_ <;> intro hc | fail)
    all_goals try omega
    all_goals exact zC (n' := w.length - (j + 1)) (by omega) (za [0, 3, 4] [] rfl rfl) ⟨j + 1, _, by omega, by omega, rfl, hG, by rw [wj]; rfl, rfl⟩
  · obtain rfl : j = w.length := by omega
    rw [List.drop_length, zgp] at hG
    repeat' (first | refine wC ?_ | (exfalso; omega) | refine wK ?_ | refine zq rfl ?_ ?_ <;> intro hc | fail)
    all_goals exact zH (zj rfl rfl (congrArg (T.int .i64) hG)) (by simp)
set_option maxHeartbeats 2000000 in
theorem zep (l : List Int) (h0 : 0 < l.length) (hl : l.length ≤ 1000000) : Spec Try.prog 21 [.t (.sl 1 (l.map (T.int .i64)))] [] (.row (.res 0)) [(.res 0, .slt 3 1 (l.map (T.int .i64)))] := by
  obtain ⟨x, t, rfl⟩ : ∃ x t, l = x :: t := by
    cases l with
    | nil => simp at h0
    | cons x t => exact ⟨x, t, rfl⟩
  refine wIG Try.func21 ?_
  repeat' (first | refine wC ?_ | refine wK ?_ | ((with_reducible refine z6 ?_); refine zcb rfl rfl rfl rfl rfl rfl rfl rfl rfl ?_ ?_ ?_) | fail)
  · simp only [List.length_map, List.length_nil]; omega
  · simp only [List.length_map, List.length_nil]; omega
  refine yc ((za [2] [.loc 7] rfl rfl).trans (zw (.loc 7) (.res 0) rfl rfl rfl rfl)) ?_
  exact y5 (zH (xB rfl (AVLE.refl _)) (zN ⟨rfl, trivial⟩))
def zkc (s : ByteArray) (p c n : Int) (l : List Int) : Bool := decide ((s.size : Int) = 32) && decide (0 ≤ p) && decide (p < 65536) && (decide (1 ≤ c) && decide (c ≤ 8)) && (decide (0 ≤ n) && decide (n ≤ 8)) && decide ((l.length : Int) = c) && !l.any zie
set_option maxHeartbeats 4000000 in
theorem vK (s : ByteArray) (p c n : Int) (l : List Int) (hl : l.length ≤ 1000000) : Spec Try.prog 14 [.t (vaT s p c n l)] [] (.t (.bool (zkc s p c n l))) [] := by
  have hC := ku zie 22 l (fun x _ => zcn x) (by omega)
  have hk1 := wu c 1
  have hk2 := wu n 0
  obtain ⟨R, hR⟩ : ∃ R, R = zkc s p c n l := ⟨_, rfl⟩
  rw [← hR]
  unfold zkc at hR
  generalize l.any zie = A at *
  generalize (decide (1 ≤ c) && decide (c ≤ 8)) = B1 at *
  generalize (decide (0 ≤ n) && decide (n ≤ 8)) = B2 at *
  unfold vaT
  refine wI Try.func14 ?_
  repeat' (first | refine wC ?_ | refine wK ?_ | ((with_reducible refine zp ?_); first | refine wL hC ?_ | refine wL hk1 ?_ | refine wL hk2 ?_) | refine vo rfl ?_ ?_ <;> intro hc | refine zfx rfl ?_ ?_ <;> intro hc | fail)
  all_goals exact zH (zj rfl rfl (congrArg T.bool (by rw [hR]; simp [*]))) (by simp)
set_option maxHeartbeats 2000000 in
theorem zf7 (s : ByteArray) (c n : Int) (hs : s.size = 32) (h1 : 1 ≤ c) (h2 : c ≤ 8) (h3 : 0 ≤ n) (h4 : n ≤ 8) : Spec Try.prog 4 [.t (.str s), .t (.int .i64 c), .t (.int .i64 n)] [] (.tup [.t (vaT s 0 c n (List.replicate c.toNat 0)), .t (.int .i64 0)]) [] := by
  have hk1 := wu c 1
  have hk2 := wu n 0
  rw [show (decide (1 ≤ c) && decide (c ≤ 8)) = true from by simp [h1, h2]] at hk1
  rw [show (decide (0 ≤ n) && decide (n ≤ 8)) = true from by simp [h3, h4]] at hk2
  rw [show vaT s 0 c n (List.replicate c.toNat 0) = .agg [.str s, .int .i64 0, .int .i64 c, .int .i64 n, .sl 1 (List.replicate c.toNat (T.int .i64 0))] from by unfold vaT; rw [List.map_replicate]]
  refine wIG Try.func4 ?_
  repeat' (first | refine wC ?_ | (exfalso; omega) | refine zbd (r := .agg [.t (.str s), .t (.int .i64 0), .t (.int .i64 c), .t (.int .i64 n), .row (.loc 27)]) rfl rfl rfl rfl rfl rfl rfl ?_ | refine wK ?_ | ((with_reducible refine xh ?_); refine yX (zT := .int _ _) rfl rfl rfl rfl rfl rfl rfl rfl rfl ?_ ?_ ?_ ?_ ?_) | ((with_reducible refine zp ?_); first | refine wL hk1 ?_ | refine wL hk2 ?_) | refine y8 rfl ?_ ?_ <;> intro hc | fail)
  · omega
  · omega
  · omega
  · omega
  refine yc (zI (id := .loc 27) rfl rfl rfl) ?_
  refine y5 (zH ?_ (by simp)); refine wQ rfl rfl rfl inferInstance rfl inferInstance rfl ?_ ?_; exact TLe.av wT; exact AVLE.refl _
set_option maxHeartbeats 2000000 in
theorem kS (s : ByteArray) (p c n : Int) (l : List Int) (h0 : 0 < l.length) (hl : l.length ≤ 1000000) : Spec Try.prog 13 [.t (vaT s p c n l)] [] (.agg [.t (.str s), .t (.int .i64 p), .t (.int .i64 c), .t (.int .i64 n), .row (.res 0)]) [(.res 0, .slt 3 1 (l.map (T.int .i64)))] := by
  have hC := zep l h0 hl
  refine wIG Try.func13 ?_
  repeat' (first | refine wC ?_ | refine wK ?_ | ((with_reducible refine zp ?_); refine wN (.row (.loc 900)) [(.res 0, .loc 900)] hC ?_) | fail)
  refine yc ((za [2] [.loc 2, .loc 900] rfl rfl).trans (zw (.loc 900) (.res 0) rfl rfl rfl rfl)) ?_
  refine y5 (zH ?_ (zN ⟨rfl, trivial⟩)); exact jc rfl rfl rfl inferInstance rfl inferInstance rfl (AVLE.refl _)
def sdL (s : ByteArray) (g : Int) (k : Nat) : List ByteArray := (List.range k).map (fun (i : Nat) => sdS s g (i : Int))
theorem zfo (s : ByteArray) (g : Int) (k : Nat) : (sdL s g k).length = k := by simp [sdL]
theorem zhh (s : ByteArray) (g : Int) (k : Nat) : sdL s g (k + 1) = sdL s g k ++ [sdS s g (k : Int)] := by simp [sdL, List.range_succ]
set_option maxHeartbeats 4000000 in
theorem qN (s : ByteArray) (p c n : Int) (l : List Int) (g : Int) (k : Nat) (hs : s.size ≤ 900000) (hk : k ≤ 8) : Spec Try.prog 11 [.t (vaT s p c n l), .t (.int .i64 g), .t (.int .i64 (k : Int))] [] (.row (.res 0)) [(.res 0, .slt 9 1 ((sdL s g k).map .str))] := by
  have hm0 : (if (0 : Int) > (k : Int) then (0 : Int) else (k : Int)) = (k : Int) := if_neg (by omega)
  have hm1 : (if (8 : Int) < (k : Int) then (8 : Int) else (k : Int)) = (k : Int) := if_neg (by omega)
  refine wIG Try.func11 ?_
  repeat' (first | refine wC ?_ | refine wK ?_ | fail)
  rw [hm0, hm1]
  clear hm0 hm1
  refine zc (xG 7 (.loc 900) 9 1 rfl rfl rfl) ?_
  refine zc (za [1, 3, 7, 11, 12] [.loc 3, .loc 900] rfl rfl) ?_
  refine zh (fun q env st => ∃ (j : Nat), j ≤ k ∧ q = k - j ∧ env = EnvL.get [(1, .t (.int .i64 g)), (3, .ref (.loc 3) 0 0 0), (7, .row (.loc 900)), (11, .t (.int .i64 (k : Int))), (12, .t (.int .i64 (j : Int)))] ∧ st = StO.get [(.loc 3, some (.var 24 [.t (.str s), .t (.int .i64 p), .t (.int .i64 c), .t (.int .i64 n), .t (.sl 1 (l.map (T.int .i64)))])), (.loc 900, some (.slt 9 1 ((sdL s g j).map .str)))])
    ?_ (n := k) ⟨0, by omega, rfl, rfl, rfl⟩
  rintro q env st ⟨j, hj, rfl, rfl, rfl⟩
  have wj : IntKind.i64.wrap ((j : Int) + 1) = ((j + 1 : Nat) : Int) := by rw [zl (by omega) (by omega)]; omega
  by_cases hlt : j < k
  · have hS := zeh s g (j : Int) hs
    have hsuc := zhh s g j
    have hln := zfo s g j
    generalize sdS s g (j : Int) = Y at *
    repeat' (first | refine wC ?_ | (exfalso; omega) | refine wK ?_ | ((with_reducible refine z6 ?_); refine zx rfl rfl rfl rfl rfl rfl rfl rfl rfl rfl ?_ ?_ ?_) | ((with_reducible refine zp ?_); refine wL hS ?_) | refine zq rfl ?_ ?_ <;> intro hc | fail)
    · simp only [List.length_map, List.length_cons, List.length_nil]; omega
    · simp only [List.length_map, List.length_cons, List.length_nil]; omega
    · exact zC (n' := k - (j + 1)) (by omega) ((za [1, 3, 7, 11, 12] [.loc 3, .loc 22] rfl rfl).trans (zw (.loc 22) (.loc 900) rfl rfl rfl rfl)) ⟨j + 1, by omega, rfl, by rw [wj]; rfl, by rw [hsuc, List.map_append, List.map_singleton]; rfl⟩
  · obtain rfl : j = k := by omega
    repeat' (first | refine wC ?_ | (exfalso; omega) | refine wK ?_ | refine zq rfl ?_ ?_ <;> intro hc | fail)
    refine yc ((za [6] [.loc 900] rfl rfl).trans (zw (.loc 900) (.res 0) rfl rfl rfl rfl)) ?_
    exact y5 (zH (xB rfl (AVLE.refl _)) (zN ⟨rfl, trivial⟩))
set_option maxHeartbeats 4000000 in
theorem zcE (s : ByteArray) (p n : Int) (l : List Int) (k : Nat) (hs : s.size ≤ 900000) (hk : k ≤ 8) : Spec Try.prog 26 [.t (vaT s p (k : Int) n l)] [] (.row (.res 0)) [(.res 0, .slt 9 1 ((sdL s p k).map .str))] := by
  have hS := qN s p (k : Int) n l p k hs hk
  refine wIG Try.func26 ?_
  repeat' (first | refine wC ?_ | refine wK ?_ | ((with_reducible refine zp ?_); refine wN (.row (.loc 900)) [(.res 0, .loc 900)] hS ?_) | fail)
  refine yc ((za [2] [.loc 900] rfl rfl).trans (zw (.loc 900) (.res 0) rfl rfl rfl rfl)) ?_
  exact y5 (zH (xB rfl (AVLE.refl _)) (zN ⟨rfl, trivial⟩))
def kL {α : Type} (f h : Nat → α) (k j : Nat) : List α := (List.range k).map (fun i => if i < j then f i else h i)
theorem qt {α : Type} (f h : Nat → α) (k j : Nat) : (kL f h k j).length = k := by simp [kL]
theorem zcw {α : Type} [Inhabited α] (f h : Nat → α) (k j : Nat) (hj : j < k) : (kL f h k j).getD j default = h j := by
  unfold kL
  rw [List.getD_eq_getElem?_getD, List.getElem?_map, List.getElem?_range hj]
  simp
theorem zfN {α : Type} (f h : Nat → α) (k : Nat) : kL f h k 0 = (List.range k).map h := by
  unfold kL; apply List.map_congr_left; intro i _; simp
theorem zfk {α : Type} (f h : Nat → α) (k : Nat) : kL f h k k = (List.range k).map f := by
  unfold kL; apply List.map_congr_left; intro i hi; simp [List.mem_range.1 hi]
theorem zaG {α : Type} (f h : Nat → α) (k j : Nat) : (kL f h k j).set j (f j) = kL f h k (j + 1) := by
  apply List.ext_getElem?
  intro i
  unfold kL
  rw [List.getElem?_set]
  by_cases e : j = i
  · subst e
    rw [if_pos rfl]
    by_cases hj : j < k
    · rw [if_pos (by simpa using hj), List.getElem?_map, List.getElem?_range hj]; simp
    · rw [if_neg (by simpa using hj), List.getElem?_map, List.getElem?_eq_none (by simpa using hj)]; rfl
  · rw [if_neg e, List.getElem?_map, List.getElem?_map]
    by_cases hk : i < k
    · rw [List.getElem?_range hk]
      simp only [Option.map_some]
      congr 1
      by_cases h1 : i < j
      · rw [if_pos h1, if_pos (by omega)]
      · rw [if_neg h1, if_neg (by omega)]
    · rw [List.getElem?_eq_none (by simpa using hk)]; rfl
def kyS (s : ByteArray) (g : Int) (i : Nat) : ByteArray := qZ 2 (ktP (sdS s g (i : Int)))
set_option maxHeartbeats 4000000 in
theorem zfG (s : ByteArray) (p n : Int) (l : List Int) (k : Nat) (hs : s.size ≤ 900000) (hk : k ≤ 8) : Spec Try.prog 6 [.t (vaT s p (k : Int) n l)] [] (.t (.sl 1 (((List.range k).map (kyS s p)).map .str))) [] := by
  have hS := qN s p (k : Int) n l p k hs hk
  rw [show sdL s p k = (List.range k).map (fun (i : Nat) => sdS s p (i : Int)) from rfl, ← zfN (kyS s p)] at hS
  rw [← zfk (kyS s p) (fun (i : Nat) => sdS s p (i : Int))]
  refine wIG Try.func6 ?_
  repeat' (first | refine wC ?_ | refine wK ?_ | ((with_reducible refine zp ?_); refine wN (.row (.loc 900)) [(.res 0, .loc 900)] hS ?_) | fail)
  have hln0 := qt (kyS s p) (fun (i : Nat) => sdS s p (i : Int)) k 0
  rw [hln0]
  refine zc (za [3, 12, 13, 14] [.loc 900] rfl rfl) ?_
  refine zh (fun q env st => ∃ (j : Nat), j ≤ k ∧ q = k - j ∧ env = EnvL.get [(3, .row (.loc 900)), (12, .row (.loc 900)), (13, .t (.int .i64 (k : Int))), (14, .t (.int .i64 (j : Int)))] ∧ st = StO.get [(.loc 900, some (.slt 9 1 ((kL (kyS s p) (fun (i : Nat) => sdS s p (i : Int)) k j).map .str)))])
    ?_ (n := k) ⟨0, by omega, rfl, rfl, rfl⟩
  clear hln0
  rintro q env st ⟨j, hj, rfl, rfl, rfl⟩
  have wj : IntKind.i64.wrap ((j : Int) + 1) = ((j + 1 : Nat) : Int) := by rw [zl (by omega) (by omega)]; omega
  by_cases hlt : j < k
  · have hK := zaf (sdS s p (j : Int)) (by rw [qi]; decide)
    rw [show qZ 2 (ktP (sdS s p (j : Int))) = kyS s p j from rfl] at hK
    have hat := zcw (kyS s p) (fun (i : Nat) => sdS s p (i : Int)) k j hlt
    have hset := zaG (kyS s p) (fun (i : Nat) => sdS s p (i : Int)) k j
    have hln := qt (kyS s p) (fun (i : Nat) => sdS s p (i : Int)) k j
    rw [← hat, ← Int.toNat_natCast j] at hK
    rw [Int.toNat_natCast j] at hK
    clear hat
    generalize kL (kyS s p) (fun (i : Nat) => sdS s p (i : Int)) k j = M at *
    generalize kyS s p j = Y at *
    rw [show M.getD j default = M.getD (j : Int).toNat default from rfl] at hK
    repeat' (first | refine wC ?_ | (exfalso; omega) | refine wK ?_ | ((with_reducible refine wy ?_); refine xR rfl rfl rfl rfl rfl rfl rfl rfl ?_ ?_) | ((with_reducible refine xa ?_); refine xq rfl rfl rfl rfl rfl rfl ?_ ?_ ?_) | ((with_reducible refine zi ?_); refine ye rfl rfl rfl rfl rfl rfl rfl ?_ ?_ ?_) | ((with_reducible refine zp ?_); refine wL hK ?_) | refine zq rfl ?_ ?_ <;> intro hc | fail)
    all_goals try (simp only [List.length_map]; omega)
    all_goals try omega
    all_goals first | rfl | exact zC (n' := k - (j + 1)) (by omega) (za [3, 12, 13, 14] [.loc 900] rfl rfl) ⟨j + 1, by omega, rfl, by rw [wj]; rfl, by rw [← hset, List.map_set]; rfl⟩
  · obtain rfl : j = k := by omega
    repeat' (first | refine wC ?_ | (exfalso; omega) | refine wK ?_ | refine zq rfl ?_ ?_ <;> intro hc | fail)
    refine yc (zI (id := .loc 900) rfl rfl rfl) ?_
    exact y5 (zH (xB rfl (AVLE.refl _)) (by simp))
def usL (u : Nat → Nat) (k : Nat) : List Int := (List.range k).map (fun i => (u i : Int))
theorem zaV (u : Nat → Nat) (k : Nat) : (usL u k).length = k := by simp [usL]
theorem zfB (u : Nat → Nat) (k : Nat) {x : Int} (h : x ∈ usL u k) : ∃ i, i < k ∧ x = (u i : Int) := by
  obtain ⟨i, hi, rfl⟩ := List.mem_map.1 h
  exact ⟨i, List.mem_range.1 hi, rfl⟩
theorem zht (u : Nat → Nat) (k : Nat) (hk : 1 ≤ k) : ∃ t, usL u k = (u 0 : Int) :: t := by
  obtain ⟨k, rfl⟩ : ∃ j, k = j + 1 := ⟨k - 1, by omega⟩
  exact ⟨(List.range k).map (fun i => (u (i + 1) : Int)), by unfold usL; rw [List.range_succ_eq_map]; simp [Function.comp_def]⟩
theorem zfK (B : Int) : ∀ (l : List Int) (a : Int), a < B → (∀ x ∈ l, x < B) → zgp a l < B
  | [], a, h, _ => h
  | x :: l, a, h, hl => by
    unfold zgp
    apply zfK B l
    · split
      · exact hl x (by simp)
      · exact h
    · exact fun y hy => hl y (List.mem_cons_of_mem _ hy)
theorem zcP (s : ByteArray) (p n : Int) (k : Nat) (u : Nat → Nat) (hs : s.size = 32) (hp : 0 ≤ p) (hp1 : p < 65536) (hk1 : 1 ≤ k) (hk : k ≤ 8) (hn : 0 ≤ n) (hn8 : n ≤ 8) (hu : ∀ i, i < k → u i ≤ 8) : zkc s p (k : Int) n (usL u k) = true := by
  have ha : (usL u k).any zie = false := by
    rw [List.any_eq_false]
    intro x hx
    obtain ⟨i, hi, rfl⟩ := zfB u k hx
    have := hu i hi
    simp [zie]; omega
  unfold zkc
  rw [ha, zaV]
  simp [hs, hp, hp1, hn, hn8]; omega
def sgT (s : ByteArray) (p : Int) (u : Nat → Nat) (m : ByteArray) (i : Nat) : T := .agg [.int .i64 (i : Int), .str (ktS (sdS s p (i : Int)) (u i) m)]
def sgL (s : ByteArray) (p : Int) (u : Nat → Nat) (m : ByteArray) (k : Nat) : List T := (List.range k).map (sgT s p u m)
theorem ziF (s : ByteArray) (p : Int) (u : Nat → Nat) (m : ByteArray) (k : Nat) : (sgL s p u m k).length = k := by simp [sgL]
theorem zhe (s : ByteArray) (p : Int) (u : Nat → Nat) (m : ByteArray) (k : Nat) : sgL s p u m (k + 1) = sgL s p u m k ++ [sgT s p u m k] := by simp [sgL, List.range_succ]
theorem zin (u : Nat → Nat) (k : Nat) : kL (fun i => ((u i : Nat) : Int) + 1) (fun i => ((u i : Nat) : Int)) k k = usL (fun i => u i + 1) k := by
  rw [zfk]; unfold usL
  apply List.map_congr_left; intro i _; rfl
set_option maxHeartbeats 16000000 in
theorem zeG (s m : ByteArray) (p n : Int) (k : Nat) (u : Nat → Nat) (hm : m.size ≤ 900000) (hs : s.size = 32) (hp : 0 ≤ p) (hp1 : p < 65536) (hk1 : 1 ≤ k) (hk : k ≤ 8) (hn : 0 ≤ n) (hn8 : n ≤ 8) (hu : ∀ i, i < k → u i < 8) : Spec Try.prog 16 [.t (vaT s p (k : Int) n (usL u k)), .t (.str m)] [] (.tup [.t (.sl 2 (sgL s p u m k)), .t (vaT s p (k : Int) n (usL (fun i => u i + 1) k)), .t (.int .i64 0)]) [] := by
  rw [← zin]
  have hln := zaV u k
  have hO := kS s p (k : Int) n (usL u k) (by omega) (by omega)
  have hV := vK s p (k : Int) n (usL u k) (by omega)
  rw [zcP s p n k u hs hp hp1 hk1 hk hn hn8 (fun i hi => Nat.le_of_lt (hu i hi))] at hV
  have hS := zcE s p n (usL u k) k (by omega) hk
  obtain ⟨t, ht⟩ := zht u k hk1
  have htl : t.length = k - 1 := by have := congrArg List.length ht; rw [hln, List.length_cons] at this; omega
  have hM := zha (u 0 : Int) t (by omega)
  have hX : zgp (u 0 : Int) t < 8 := by
    apply zfK
    · exact Int.ofNat_lt.2 (hu 0 hk1)
    · intro x hx
      have hx' : x ∈ usL u k := by rw [ht]; exact List.mem_cons_of_mem _ hx
      obtain ⟨i, hi, rfl⟩ := zfB u k hx'
      exact Int.ofNat_lt.2 (hu i hi)
  rw [← ht] at hM
  generalize zgp (u 0 : Int) t = X at *
  clear ht htl
  have hL := zfo s p k
  have hat := fun j (hj : j < k) => (show (sdL s p k).getD (j : Int).toNat default = sdS s p (j : Int) from by
    unfold sdL; rw [Int.toNat_natCast, List.getD_eq_getElem?_getD, List.getElem?_map, List.getElem?_range hj]; rfl)
  have hau := fun j (hj : j < k) => (show (usL u k).getD (j : Int).toNat default = (u j : Int) from by
    unfold usL; rw [Int.toNat_natCast, List.getD_eq_getElem?_getD, List.getElem?_map, List.getElem?_range hj]; rfl)
  have h0 : usL u k = kL (fun i => ((u i : Nat) : Int) + 1) (fun i => ((u i : Nat) : Int)) k 0 := (zfN _ _ _).symm
  rw [show (Row.slt 3 1 ((usL u k).map (T.int .i64))) = Row.slt 3 1 ((kL (fun i => ((u i : Nat) : Int) + 1) (fun i => ((u i : Nat) : Int)) k 0).map (T.int .i64)) from by rw [h0]] at hO
  clear h0
  generalize sdL s p k = D at *
  generalize usL u k = U at *
  refine wIG Try.func16 ?_
  repeat' (first | refine wC ?_ | (exfalso; omega) | refine wK ?_ | ((with_reducible refine zp ?_); first | refine wN (.agg [.t (.str s), .t (.int .i64 p), .t (.int .i64 (k : Int)), .t (.int .i64 n), .row (.loc 900)]) [(.res 0, .loc 900)] hO ?_ | refine wN (.row (.loc 902)) [(.res 0, .loc 902)] hS ?_ | refine wL hV ?_ | refine wL hM ?_) | refine zq rfl ?_ ?_ <;> intro hc | fail)
  refine zc (xG 8 (.loc 901) 45 2 rfl rfl rfl) ?_
  rw [hL]
  refine zc (za [1, 2, 5, 6, 7, 8, 27, 28, 29] [.loc 2, .loc 5, .loc 7, .loc 900, .loc 901, .loc 902] rfl rfl) ?_
  clear hO hV hS hM
  refine zh (fun q env st => ∃ (j : Nat), j ≤ k ∧ q = k - j ∧ env = EnvL.get [(1, .t (.str m)), (2, .ref (.loc 2) 0 0 0), (5, .ref (.loc 5) 0 0 0), (6, .t (.int .i64 0)), (7, .ref (.loc 7) 0 0 0), (8, .row (.loc 901)), (27, .row (.loc 902)), (28, .t (.int .i64 (k : Int))), (29, .t (.int .i64 (j : Int)))] ∧ st = StO.get [(.loc 2, some (.var 24 [.t (.str s), .t (.int .i64 p), .t (.int .i64 (k : Int)), .t (.int .i64 n), .t (.sl 1 (U.map (T.int .i64)))])), (.loc 5, some (.var 24 [.t (.str ⟨#[]⟩), .t (.int .i64 0), .t (.int .i64 0), .t (.int .i64 0), .t .nilsl])), (.loc 7, some (.var 24 [.t (.str s), .t (.int .i64 p), .t (.int .i64 (k : Int)), .t (.int .i64 n), .row (.loc 900)])), (.loc 900, some (.slt 3 1 ((kL (fun i => ((u i : Nat) : Int) + 1) (fun i => ((u i : Nat) : Int)) k j).map (T.int .i64)))), (.loc 901, some (.slt 45 2 (sgL s p u m j))), (.loc 902, some (.slt 9 1 (D.map .str)))])
    ?_ (n := k) ⟨0, by omega, rfl, rfl, rfl⟩
  rintro q env st ⟨j, hj, rfl, rfl, rfl⟩
  have wj : IntKind.i64.wrap ((j : Int) + 1) = ((j + 1 : Nat) : Int) := by rw [zl (by omega) (by omega)]; omega
  by_cases hlt : j < k
  · have hK := zdl (sdS s p (j : Int)) m (u j) (hu j hlt) (by rw [qi]; decide) hm
    have hsg := zhe s p u m j
    have hsl := ziF s p u m j
    have hmm := zcw (fun i => ((u i : Nat) : Int) + 1) (fun i => ((u i : Nat) : Int)) k j hlt
    have hms := zaG (fun i => ((u i : Nat) : Int) + 1) (fun i => ((u i : Nat) : Int)) k j
    have hml := qt (fun i => ((u i : Nat) : Int) + 1) (fun i => ((u i : Nat) : Int)) k j
    have hwu : IntKind.i64.wrap ((kL (fun i => ((u i : Nat) : Int) + 1) (fun i => ((u i : Nat) : Int)) k j).getD (j : Int).toNat default + 1) = ((u j : Nat) : Int) + 1 := by
      rw [Int.toNat_natCast, hmm]
      have := hu j hlt
      exact zl (by omega) (by omega)
    have hset : ((kL (fun i => ((u i : Nat) : Int) + 1) (fun i => ((u i : Nat) : Int)) k j).map (T.int .i64)).set (j : Int).toNat (.int .i64 (IntKind.i64.wrap ((kL (fun i => ((u i : Nat) : Int) + 1) (fun i => ((u i : Nat) : Int)) k j).getD (j : Int).toNat default + 1))) = (kL (fun i => ((u i : Nat) : Int) + 1) (fun i => ((u i : Nat) : Int)) k (j + 1)).map (T.int .i64) := by
      rw [hwu, Int.toNat_natCast, ← hms, List.map_set]
    unfold sgT at hsg
    clear hmm hms hwu
    rw [← hat j hlt, ← hau j hlt] at hK
    rw [← hat j hlt] at hsg
    generalize ktS (D.getD (j : Int).toNat default) (u j) m = Z at *
    generalize kL (fun i => ((u i : Nat) : Int) + 1) (fun i => ((u i : Nat) : Int)) k j = M at *
    clear hat hau
    repeat' (first | refine wC ?_ | (exfalso; omega) | refine wK ?_ | ((with_reducible refine wy ?_); refine xR rfl rfl rfl rfl rfl rfl rfl rfl ?_ ?_) | ((with_reducible refine xa ?_); refine xq rfl rfl rfl rfl rfl rfl ?_ ?_ ?_) | ((with_reducible refine zi ?_); first | refine zn rfl rfl rfl rfl rfl rfl ?_ ?_ ?_ | refine ye rfl rfl rfl rfl rfl rfl rfl ?_ ?_ ?_) | ((with_reducible refine z6 ?_); refine zx rfl rfl rfl rfl rfl rfl rfl rfl rfl rfl ?_ ?_ ?_) | ((with_reducible refine zp ?_); refine wL hK ?_) | refine zq rfl ?_ ?_ <;> intro hc | fail)
    all_goals try (simp only [List.length_map, List.length_cons, List.length_nil]; omega)
    all_goals try omega
    all_goals first | rfl | exact zC (n' := k - (j + 1)) (by omega) ((za [1, 2, 5, 6, 7, 8, 27, 28, 29] [.loc 2, .loc 5, .loc 7, .loc 900, .loc 50, .loc 902] rfl rfl).trans (zw (.loc 50) (.loc 901) rfl rfl rfl rfl)) ⟨j + 1, by omega, rfl, by rw [wj]; rfl, by rw [← hset, hsg]; rfl⟩
  · obtain rfl : j = k := by omega
    repeat' (first | refine wC ?_ | (exfalso; omega) | refine wK ?_ | refine zq rfl ?_ ?_ <;> intro hc | fail)
    refine yc (za [4, 5, 6] [.loc 5, .loc 900, .loc 901] rfl rfl) ?_
    refine yc (zI (id := .loc 900) rfl rfl rfl) ?_
    refine yc (zI (id := .loc 901) rfl rfl rfl) ?_
    refine y5 (zH ?_ (by simp)); refine qM rfl rfl rfl inferInstance rfl inferInstance rfl ?_ ?_ ?_; exact AVLE.refl _; exact TLe.av wT; exact AVLE.refl _
set_option maxHeartbeats 8000000 in
theorem zcd (s : ByteArray) (p n nx : Int) (k : Nat) (u : Nat → Nat) (hs : s.size = 32) (hp : 0 ≤ p) (hp1 : p < 65535) (hk1 : 1 ≤ k) (hk : k ≤ 8) (hn : 1 ≤ n) (hn8 : n ≤ 8) (hx : 0 ≤ nx) (hx8 : nx ≤ 8) (hu : ∀ i, i < k → u i ≤ 8) : Spec Try.prog 7 [.t (vaT s p (k : Int) n (usL u k)), .t (.int .i64 nx)] [] (.tup [.t (vaT s (p + 1) n nx (List.replicate n.toNat 0)), .t (.int .i64 0)]) [] := by
  have hln := zaV u k
  have hO := kS s p (k : Int) n (usL u k) (by omega) (by omega)
  have hV := vK s p (k : Int) n (usL u k) (by omega)
  rw [zcP s p n k u hs hp (by omega) hk1 hk (by omega) hn8 hu] at hV
  have hk2 := wu nx 0
  rw [show (decide (0 ≤ nx) && decide (nx ≤ 8)) = true from by simp [hx, hx8]] at hk2
  have wp : IntKind.i64.wrap (p + 1) = p + 1 := zl (by omega) (by omega)
  rw [show vaT s (p + 1) n nx (List.replicate n.toNat 0) = .agg [.str s, .int .i64 (p + 1), .int .i64 n, .int .i64 nx, .sl 1 (List.replicate n.toNat (T.int .i64 0))] from by unfold vaT; rw [List.map_replicate]]
  rw [← wp]
  clear wp
  generalize usL u k = U at *
  refine wIG Try.func7 ?_
  repeat' (first | refine wC ?_ | (exfalso; omega) | refine zbd (r := .agg [.t (.str s), .t (.int .i64 (IntKind.i64.wrap (p + 1))), .t (.int .i64 n), .t (.int .i64 nx), .row (.loc 39)]) rfl rfl rfl rfl rfl rfl rfl ?_ | refine wK ?_ | ((with_reducible refine xh ?_); refine yX (zT := .int _ _) rfl rfl rfl rfl rfl rfl rfl rfl rfl ?_ ?_ ?_ ?_ ?_) | ((with_reducible refine zp ?_); first | refine wN (.agg [.t (.str s), .t (.int .i64 p), .t (.int .i64 (k : Int)), .t (.int .i64 n), .row (.loc 900)]) [(.res 0, .loc 900)] hO ?_ | refine wL hV ?_ | refine wL hk2 ?_) | refine zq rfl ?_ ?_ <;> intro hc | fail)
  · omega
  · omega
  · omega
  · omega
  refine yc (zI (id := .loc 39) rfl rfl rfl) ?_
  refine y5 (zH ?_ (by simp)); refine wQ rfl rfl rfl inferInstance rfl inferInstance rfl ?_ ?_; exact TLe.av wT; exact AVLE.refl _
def sdN (n : Int) : ByteArray := qq ((List.replicate 32 (T.int .u8 0)).set 0 (.int .u8 n))
theorem zaz (n : Int) : (sdN n).size = 32 := vi _
set_option maxHeartbeats 2000000 in
theorem zaq (n : Int) (h0 : 0 ≤ n) (h1 : n < 256) : Spec Try.prog 5 [.t (.int .u8 n)] [] (.t (.str (sdN n))) [] := by
  refine wI Try.func5 ?_
  repeat' (first | refine wC ?_ | refine wK ?_ | ((with_reducible refine xa ?_); refine xq rfl rfl rfl rfl rfl rfl ?_ ?_ ?_) | ((with_reducible refine zi ?_); refine ye rfl rfl rfl rfl rfl rfl rfl ?_ ?_ ?_) | ((with_reducible refine z7 ?_); refine zE rfl rfl rfl rfl rfl rfl ?_ ?_) | ((with_reducible refine xh ?_); refine yX (zT := .int _ _) rfl rfl rfl rfl rfl rfl rfl rfl rfl ?_ ?_ ?_ ?_ ?_) | fail)
  all_goals first | decide | rfl | skip
  · intro e he
    rcases List.mem_or_eq_of_mem_set he with h | h
    · rw [List.eq_of_mem_replicate h]; rfl
    · rw [h]; rfl
  · exact zH (zj rfl rfl rfl) (by simp)
theorem zcG (s m : ByteArray) (p n : Int) (u : Nat) (hm : m.size ≤ 900000) (hs : s.size = 32) (hp : 0 ≤ p) (hp1 : p < 65536) (hn : 0 ≤ n) (hn8 : n ≤ 8) (hu : u < 8) : Spec Try.prog 16 [.t (vaT s p 1 n [(u : Int)]), .t (.str m)] [] (.tup [.t (.sl 2 [.agg [.int .i64 0, .str (ktS (sdS s p 0) u m)]]), .t (vaT s p 1 n [((u + 1 : Nat) : Int)]), .t (.int .i64 0)]) [] :=
  zeG s m p n 1 (fun _ => u) hm hs hp hp1 (by omega) (by omega) hn hn8 (fun _ _ => hu)
theorem jU (s : ByteArray) (hs : s.size = 32) : Spec Try.prog 4 [.t (.str s), .t (.int .i64 1), .t (.int .i64 1)] [] (.tup [.t (vaT s 0 1 1 [((0 : Nat) : Int)]), .t (.int .i64 0)]) [] :=
  zf7 s 1 1 hs (by decide) (by decide) (by decide) (by decide)
theorem jY (s : ByteArray) (p n : Int) (l : List Int) (hs : s.size ≤ 900000) : Spec Try.prog 6 [.t (vaT s p 1 n l)] [] (.t (.sl 1 [.str (qZ 2 (ktP (sdS s p 0)))])) [] :=
  zfG s p n l 1 hs (by decide)
set_option maxRecDepth 8000 in
set_option maxHeartbeats 8000000 in
theorem zcq : Spec Try.prog 9 [] [] (.t (.bool true)) [] := by
  have h0 := zaq 1 (by decide) (by decide)
  have z0 := zaz 1
  generalize sdN 1 = S at *
  obtain ⟨M, hM⟩ : ∃ M : ByteArray, M = ⟨#[116, 101, 120, 116]⟩ := ⟨_, rfl⟩
  have hMz : M.size ≤ 900000 := by rw [hM]; decide
  have h1 := jU S z0
  have h2 := zcG S M 0 1 0 hMz z0 (by decide) (by decide) (by decide) (by decide) (by decide)
  have h3 := jY S 0 1 [((0 : Nat) : Int)] (by omega)
  have h4 := zdp (sdS S 0 0) M 0 (by decide) (by rw [qi]; decide) hMz
  rw [hM] at h2 h4
  clear hM hMz
  generalize qZ 2 (ktP (sdS S 0 0)) = K at *
  generalize ktS (sdS S 0 0) 0 ⟨#[116, 101, 120, 116]⟩ = G at *
  unfold vaT at h1 h2 h3
  refine wI Try.func9 ?_
  repeat' (first | refine wC ?_ | refine wK ?_ | ((with_reducible refine zp ?_); first | refine wL h0 ?_ | refine wL h1 ?_) | fail)
  refine wL h2 ?_
  repeat' (first | refine wC ?_ | refine wK ?_ | fail)
  refine wL h3 ?_
  repeat' (first | refine wC ?_ | refine y4 rfl rfl rfl rfl rfl rfl ?_ ?_ ?_ | refine wK ?_ | ((with_reducible refine zp ?_); refine wL h4 ?_) | fail)
  all_goals first | omega | (simp; done) | exact zH (zj rfl rfl (congrArg T.bool (by simp))) (by simp)
end Go.AL
