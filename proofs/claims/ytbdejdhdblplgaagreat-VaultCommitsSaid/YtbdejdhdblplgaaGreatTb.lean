/- What functions of the program and of the document answer, and the plain laws behind it; each under the conditions that its own theorem names. -/
import Derived.Test.YtbdejdhdblplgaaGreatTa
import Derived.Test.YtbdejdhdblplgaaGreatAl3
import Derived.Test.YtbdejdhdblplgaaGreatAl4
set_option linter.unusedVariables false
namespace Go.AL
open Go Go.Proofs Go.RowKit
theorem zlo : ∀ n : Fin 256, IntKind.i64.wrap ((BitVec.ofInt IntKind.i64.bits (n.val : Int) &&& BitVec.ofInt IntKind.i64.bits 3).toNat : Int) = ((n.val % 4 : Nat) : Int) := by decide +kernel
theorem zj3 {n : Nat} (h : n < 256) : IntKind.i64.wrap ((BitVec.ofInt IntKind.i64.bits (n : Int) &&& BitVec.ofInt IntKind.i64.bits 3).toNat : Int) = ((n % 4 : Nat) : Int) := zlo ⟨n, h⟩
theorem ix4 : ∀ j : Fin 32, IntKind.i64.wrap ((j.val : Int).tdiv 4) = ((j.val / 4 : Nat) : Int) := by decide +kernel
theorem sh4 : ∀ j : Fin 32, IntKind.i64.wrap (6 - IntKind.i64.wrap (2 * (j.val : Int).tmod 4)) = ((6 - 2 * (j.val % 4) : Nat) : Int) := by decide +kernel
theorem mn4 (j : Nat) : min ((6 - 2 * (j % 4) : Nat) : Int).toNat IntKind.u8.bits = 6 - 2 * (j % 4) := by
  have : IntKind.u8.bits = 8 := rfl
  omega
theorem zfP (Y : ByteArray) (j : Nat) (hj : j < 32) : IntKind.i64.wrap ((BitVec.ofInt IntKind.i64.bits (IntKind.i64.wrap (bAt Y ((j / 4 : Nat) : Int) / 2 ^ (6 - 2 * (j % 4)))) &&& BitVec.ofInt IntKind.i64.bits 3).toNat : Int) = (vK Y j : Int) := by
  unfold vK
  rw [if_pos hj]
  unfold zkC
  have hb := zbC Y ((j / 4 : Nat) : Int)
  generalize bAt Y ((j / 4 : Nat) : Int) = b at hb ⊢
  obtain ⟨n, rfl⟩ : ∃ n : Nat, b = n := ⟨b.toNat, by omega⟩
  have hn : n < 256 := by omega
  have hq : n / 2 ^ (6 - 2 * (j % 4)) ≤ n := Nat.div_le_self _ _
  have e : (n : Int) / 2 ^ (6 - 2 * (j % 4)) = ((n / 2 ^ (6 - 2 * (j % 4)) : Nat) : Int) := by simp
  rw [e]
  have hm : (n : Int).toNat / 2 ^ (6 - 2 * (j % 4)) = n / 2 ^ (6 - 2 * (j % 4)) := by rw [Int.toNat_natCast]
  generalize n / 2 ^ (6 - 2 * (j % 4)) = m at hq hm ⊢
  rw [zl (n := (m : Int)) (by omega) (by omega), zj3 (by omega)]
  exact congrArg (fun k : Nat => ((k % 4 : Nat) : Int)) hm.symm
theorem qw (Y : ByteArray) (k : Nat) (hk : k < 4) : IntKind.i64.wrap ((BitVec.ofInt IntKind.i64.bits ((xA Y 32 : Int) / 2 ^ (2 * (3 - k))) &&& BitVec.ofInt IntKind.i64.bits 3).toNat : Int) = (vK Y (32 + k) : Int) := by
  unfold vK
  rw [if_neg (by omega), show 35 - (32 + k) = 3 - k by omega]
  have hr := kX Y 32
  generalize xA Y 32 = n at hr ⊢
  have hq : n / 2 ^ (2 * (3 - k)) ≤ n := Nat.div_le_self _ _
  have e : (n : Int) / 2 ^ (2 * (3 - k)) = ((n / 2 ^ (2 * (3 - k)) : Nat) : Int) := by simp
  rw [e]
  generalize n / 2 ^ (2 * (3 - k)) = m at hq ⊢
  rw [zj3 (by omega)]
theorem sh3 : ∀ k : Fin 4, 0 ≤ IntKind.i64.wrap (2 * (3 - (k.val : Int))) ∧ min (IntKind.i64.wrap (2 * (3 - (k.val : Int)))).toNat IntKind.i64.bits = 2 * (3 - k.val) := by decide +kernel
set_option maxHeartbeats 4000000 in
theorem zdB (s : ByteArray) (hs : s.size ≤ 40000000) : Spec Tryz.prog 83 [.t (.str s)] [] (.t (.sl 1 (zcR (sha s) 36))) [] := by
  have hS := vx s hs
  have hz := xw s
  generalize sha s = Y at hS hz ⊢
  refine wIG Tryz.func83 ?_
  repeat' (first | refine wC ?_ | refine wK ?_ | ((with_reducible refine xo ?_); refine y5 (zT := .int _ _) rfl rfl rfl rfl rfl rfl rfl rfl rfl ?_ ?_ ?_ ?_ ?_) | ((with_reducible refine zk ?_); refine wL hS ?_) | fail)
  all_goals try decide
  refine zc (za [3, 4, 5, 12] [.loc 11] rfl rfl) ?_
  refine zi (fun p env st => ∃ (j : Nat), j ≤ 32 ∧ p = 32 - j ∧
      env = EnvL.get [(3, .t (.str Y)), (4, .row (.loc 11)), (5, .t (.int .i64 (xA Y j : Int))), (12, .t (.int .i64 (j : Int)))] ∧ st = StO.get [(.loc 11, some (.slt 3 1 (zcR Y j)))])
    ?_ (n := 32) ⟨0, by omega, rfl, rfl, rfl⟩
  rintro p env st ⟨j, hj, rfl, rfl, rfl⟩
  by_cases hlt : j < 32
  · have h1 := ix4 ⟨j, hlt⟩
    have h2 := sh4 ⟨j, hlt⟩
    have h3 := mn4 j
    have h4 := zfP Y j hlt
    have h5 := jF Y j
    have h6 := kX Y j
    simp only at h1 h2
    repeat' (first | refine wC ?_ | (exfalso; omega) | refine wK ?_ | ((with_reducible refine zU ?_); refine kp rfl rfl rfl rfl rfl rfl ?_ ?_) | ((with_reducible refine yu ?_); refine zQ rfl rfl rfl rfl rfl rfl ?_ ?_ ?_) | ((with_reducible refine zR ?_); refine zt rfl rfl rfl rfl rfl rfl rfl rfl rfl rfl ?_ ?_ ?_) | refine zo rfl ?_ ?_ <;> intro hc | fail)
    all_goals try simp only [h1, h2, h3, h4, qr, List.length_singleton]
    all_goals try omega
    refine zD (n' := 32 - (j + 1)) (by omega) ((za [3, 4, 5, 12] [.loc 29] rfl rfl).trans (zq (.loc 29) (.loc 11) rfl rfl rfl rfl)) ⟨j + 1, by omega, rfl, ?_, ?_⟩
    · try simp only [h1, h2, h3, h4]
      have : xA Y (j + 1) = xA Y j + 3 - vK Y j := by rw [xA, vK, if_pos hlt]
      rw [this, zl (n := (xA Y j : Int) + 3) (by omega) (by omega), zl (by omega) (by omega), zl (by omega) (by omega), show ((xA Y j : Int) + 3 - (vK Y j : Int)) = ((xA Y j + 3 - vK Y j : Nat) : Int) by omega]
      rfl
    · try simp only [h1, h2, h3, h4]
      rw [xL]
      rfl
  · obtain rfl : j = 32 := by omega
    repeat' (first | refine wC ?_ | refine wK ?_ | fail)
    refine zc (za [4, 5, 8] [.loc 11] rfl rfl) ?_
    refine zi (fun p env st => ∃ (k : Nat), k ≤ 4 ∧ p = 4 - k ∧
        env = EnvL.get [(4, .row (.loc 11)), (5, .t (.int .i64 (xA Y 32 : Int))), (8, .t (.int .i64 (3 - (k : Int))))] ∧ st = StO.get [(.loc 11, some (.slt 3 1 (zcR Y (32 + k))))])
      ?_ (n := 4) ⟨0, by omega, rfl, rfl, rfl⟩
    rintro p env st ⟨k, hk, rfl, rfl, rfl⟩
    by_cases hlt : k < 4
    · have h1 := sh3 ⟨k, hlt⟩
      have h4 := qw Y k hlt
      simp only at h1
      obtain ⟨h1, h2⟩ := h1
      repeat' (first | refine wC ?_ | (exfalso; omega) | refine wK ?_ | ((with_reducible refine zU ?_); refine kp rfl rfl rfl rfl rfl rfl ?_ ?_) | ((with_reducible refine zR ?_); refine zt rfl rfl rfl rfl rfl rfl rfl rfl rfl rfl ?_ ?_ ?_) | refine zo rfl ?_ ?_ <;> intro hc | fail)
      all_goals try simp only [h2, h4, qr, List.length_singleton]
      all_goals try omega
      refine zD (n' := 4 - (k + 1)) (by omega) ((za [4, 5, 8] [.loc 46] rfl rfl).trans (zq (.loc 46) (.loc 11) rfl rfl rfl rfl)) ⟨k + 1, by omega, rfl, ?_, ?_⟩
      · rw [zl (by omega) (by omega), show (3 : Int) - (k : Int) - 1 = 3 - ((k + 1 : Nat) : Int) by omega]
        rfl
      · try simp only [h2, h4]
        rw [show 32 + (k + 1) = 32 + k + 1 by omega, xL]
        rfl
    · obtain rfl : k = 4 := by omega
      repeat' (first | refine wC ?_ | refine wK ?_ | fail)
      refine ye (zz (id := .loc 11) rfl rfl rfl) ?_
      exact y4 (zE (zh rfl rfl rfl) (zW trivial))
theorem zj9 (Y : ByteArray) : [T.int .i64 (IntKind.i64.wrap ((BitVec.ofInt IntKind.i64.bits ((xA Y 32 : Int) / 2 ^ 6) &&& BitVec.ofInt IntKind.i64.bits 3).toNat : Int)),
    .int .i64 (IntKind.i64.wrap ((BitVec.ofInt IntKind.i64.bits ((xA Y 32 : Int) / 2 ^ 4) &&& BitVec.ofInt IntKind.i64.bits 3).toNat : Int)),
    .int .i64 (IntKind.i64.wrap ((BitVec.ofInt IntKind.i64.bits ((xA Y 32 : Int) / 2 ^ 2) &&& BitVec.ofInt IntKind.i64.bits 3).toNat : Int)),
    .int .i64 (IntKind.i64.wrap ((BitVec.ofInt IntKind.i64.bits (xA Y 32 : Int) &&& BitVec.ofInt IntKind.i64.bits 3).toNat : Int))] = [T.int .i64 (vK Y 32 : Int), .int .i64 (vK Y 33 : Int), .int .i64 (vK Y 34 : Int), .int .i64 (vK Y 35 : Int)] := by
  have h0 := qw Y 0 (by omega)
  have h1 := qw Y 1 (by omega)
  have h2 := qw Y 2 (by omega)
  have h3 := qw Y 3 (by omega)
  simp only [Nat.sub_self, Nat.mul_zero, Int.pow_zero, Int.ediv_one] at h3
  rw [← h0, ← h1, ← h2, ← h3]
theorem zjr (Y : ByteArray) : zcR Y 36 = zcR Y 32 ++ [T.int .i64 (vK Y 32 : Int), .int .i64 (vK Y 33 : Int), .int .i64 (vK Y 34 : Int), .int .i64 (vK Y 35 : Int)] := by
  rw [xL, xL, xL, xL]
  simp
set_option maxHeartbeats 4000000 in
theorem zbZ (s : ByteArray) (hs : s.size ≤ 40000000) : Spec Tryz.prog 66 [.t (.str s)] [] (.t (.sl 1 (zcR (sha s) 36))) [] := by
  have hS := wF s hs
  have hz := xw s
  generalize sha s = Y at hS hz ⊢
  refine wIG Tryz.func66 ?_
  repeat' (first | refine wC ?_ | refine wK ?_ | ((with_reducible refine zk ?_); refine wL hS ?_) | fail)
  refine zc (yI 4 (.loc 1000) 3 1 rfl rfl rfl) ?_
  refine zc (za [3, 4, 5, 10] [.loc 1000] rfl rfl) ?_
  refine zi (fun p env st => ∃ (j : Nat), j ≤ 32 ∧ p = 32 - j ∧
      env = EnvL.get [(3, .t (.str Y)), (4, .row (.loc 1000)), (5, .t (.int .i64 (xA Y j : Int))), (10, .t (.int .i64 (j : Int)))] ∧ st = StO.get [(.loc 1000, some (.slt 3 1 (zcR Y j)))])
    ?_ (n := 32) ⟨0, by omega, rfl, rfl, rfl⟩
  rintro p env st ⟨j, hj, rfl, rfl, rfl⟩
  by_cases hlt : j < 32
  · have h1 := ix4 ⟨j, hlt⟩
    have h2 := sh4 ⟨j, hlt⟩
    have h3 := mn4 j
    have h4 := zfP Y j hlt
    have h5 := jF Y j
    have h6 := kX Y j
    have h7 : IntKind.u64.wrap ((6 - 2 * (j % 4) : Nat) : Int) = ((6 - 2 * (j % 4) : Nat) : Int) := yT (by omega) (by omega)
    simp only at h1 h2
    repeat' (first | refine wC ?_ | (exfalso; omega) | refine wK ?_ | ((with_reducible refine zU ?_); refine kp rfl rfl rfl rfl rfl rfl ?_ ?_) | ((with_reducible refine yu ?_); refine zQ rfl rfl rfl rfl rfl rfl ?_ ?_ ?_) | ((with_reducible refine zR ?_); refine zt rfl rfl rfl rfl rfl rfl rfl rfl rfl rfl ?_ ?_ ?_) | refine zo rfl ?_ ?_ <;> intro hc | fail)
    all_goals try simp only [h1, h2, h7, h3, h4, qr, List.length_singleton]
    all_goals try omega
    refine zD (n' := 32 - (j + 1)) (by omega) ((za [3, 4, 5, 10] [.loc 28] rfl rfl).trans (zq (.loc 28) (.loc 1000) rfl rfl rfl rfl)) ⟨j + 1, by omega, rfl, ?_, ?_⟩
    · try simp only [h1, h2, h7, h3, h4]
      have : xA Y (j + 1) = xA Y j + 3 - vK Y j := by rw [xA, vK, if_pos hlt]
      rw [this, zl (n := (xA Y j : Int) + 3) (by omega) (by omega), zl (by omega) (by omega), zl (by omega) (by omega), show ((xA Y j : Int) + 3 - (vK Y j : Int)) = ((xA Y j + 3 - vK Y j : Nat) : Int) by omega]
      rfl
    · try simp only [h1, h2, h7, h3, h4]
      rw [xL]
      rfl
  · obtain rfl : j = 32 := by omega
    have h4 := zj9 Y
    repeat' (first | refine wC ?_ | refine wK ?_ | ((with_reducible refine zR ?_); refine zt rfl rfl rfl rfl rfl rfl rfl rfl rfl rfl ?_ ?_ ?_) | fail)
    · rw [qr]; simp only [List.length_cons, List.length_nil]; omega
    · rw [qr]; simp only [List.length_cons, List.length_nil]; omega
    refine ye (za [2] [.loc 47] rfl rfl) ?_
    refine ye (zz (id := .loc 47) rfl rfl rfl) ?_
    exact y4 (zE (zh rfl rfl (congrArg (T.sl 1) ((congrArg (zcR Y 32 ++ ·) h4).trans (zjr Y).symm))) (zW trivial))
set_option maxHeartbeats 1000000 in
theorem zgb (v : ByteArray) (hv : v.size ≤ 1000000) (c p : Int) : Spec Tryz.prog 103 [.t (.str v), .t (.int .i64 c), .t (.int .i64 p)] [] (.t (.str (qa v c p))) [] := by
  have hz := vF c p
  have hS := wA (v ++ zM c p) (by rw [ByteArray.size_append]; omega)
  unfold qa
  generalize zO (v ++ zM c p) = Y at hS ⊢
  unfold zM at hS hz
  refine wI Tryz.func103 ?_
  repeat' (first | refine wC ?_ | refine wK ?_ | ((with_reducible refine zU ?_); refine zL rfl rfl rfl rfl rfl rfl ?_ ?_) | ((with_reducible refine zY ?_); refine zF rfl rfl rfl rfl rfl rfl ?_ ?_) | ((with_reducible refine zk ?_); refine wL hS ?_) | fail)
  all_goals try exact zen _ _
  all_goals try omega
  exact zE (zh rfl rfl rfl) (by simp)
set_option maxHeartbeats 1000000 in
theorem jE (c p : Int) : Spec Tryz.prog 97 [.t (.int .i64 c), .t (.int .i64 p)] [] (.t (.str (zM c p))) [] := by
  unfold zM
  refine wI Tryz.func97 ?_
  repeat' (first | refine wC ?_ | refine wK ?_ | ((with_reducible refine zY ?_); refine zF rfl rfl rfl rfl rfl rfl ?_ ?_) | fail)
  all_goals try exact zen _ _
  exact zE (zh rfl rfl rfl) (by simp)
set_option maxHeartbeats 1000000 in
theorem zeK (v : ByteArray) (hv : v.size ≤ 1000000) (c p : Int) : Spec Tryz.prog 84 [.t (.str v), .t (.int .i64 c), .t (.int .i64 p)] [] (.t (.str (qa v c p))) [] := by
  have hz := vF c p
  have hS := yV (v ++ zM c p) (by rw [ByteArray.size_append]; omega)
  have hB := jE c p
  unfold qa
  generalize zO (v ++ zM c p) = Y at hS ⊢
  generalize zM c p = W at *
  refine wI Tryz.func84 ?_
  repeat' (first | refine wC ?_ | refine wK ?_ | ((with_reducible refine zU ?_); refine zL rfl rfl rfl rfl rfl rfl ?_ ?_) | ((with_reducible refine zk ?_); first | refine wL hB ?_ | refine wL hS ?_) | fail)
  all_goals try omega
  exact zE (zh rfl rfl rfl) (by simp)
set_option maxHeartbeats 1000000 in
theorem zdN (v : ByteArray) (hv : v.size ≤ 1000000) (c : Int) : Spec Tryz.prog 96 [.t (.str v), .t (.int .i64 c)] [] (.t (.str (zbJ v c))) [] := by
  have hz := vF 128 c
  have hS := wA (v ++ zM 128 c) (by rw [ByteArray.size_append]; omega)
  unfold zbJ
  generalize zO (v ++ zM 128 c) = Y at hS ⊢
  rw [← zhG, ← ByteArray.append_assoc] at hS
  have z1 : (⟨#[128]⟩ : ByteArray).size = 1 := rfl
  have z2 : (vL [T.int .u8 (IntKind.u8.wrap c)]).size = 1 := vq _
  refine wI Tryz.func96 ?_
  repeat' (first | refine wC ?_ | refine wK ?_ | ((with_reducible refine zU ?_); refine zL rfl rfl rfl rfl rfl rfl ?_ ?_) | ((with_reducible refine zY ?_); refine zF rfl rfl rfl rfl rfl rfl ?_ ?_) | ((with_reducible refine zk ?_); refine wL hS ?_) | fail)
  all_goals try exact kW _
  all_goals try (simp only [ByteArray.size_append, z1, z2]; omega)
  exact zE (zh rfl rfl rfl) (by simp)
set_option maxHeartbeats 1000000 in
theorem zbA (v : ByteArray) (hv : v.size ≤ 1000000) (c : Int) : Spec Tryz.prog 94 [.t (.str v), .t (.int .i64 c)] [] (.t (.str (zbJ v c))) [] := by
  have hz := vF 128 c
  have hS := yV (v ++ zM 128 c) (by rw [ByteArray.size_append]; omega)
  have hB := jE 128 c
  unfold zbJ
  generalize zO (v ++ zM 128 c) = Y at hS ⊢
  generalize zM 128 c = W at *
  refine wI Tryz.func94 ?_
  repeat' (first | refine wC ?_ | refine wK ?_ | ((with_reducible refine zU ?_); refine zL rfl rfl rfl rfl rfl rfl ?_ ?_) | ((with_reducible refine zk ?_); first | refine wL hB ?_ | refine wL hS ?_) | fail)
  all_goals try omega
  exact zE (zh rfl rfl rfl) (by simp)
set_option maxHeartbeats 2000000 in
theorem ze3 (v : ByteArray) (hv : v.size ≤ 900000) (c : Int) (p n : Nat) (hp : p + n ≤ 1000) : Spec Tryz.prog 95 [.t (.str v), .t (.int .i64 c), .t (.int .i64 (p : Int)), .t (.int .i64 ((p + n : Nat) : Int))] [] (.t (.str (ym v c p n))) [] := by
  refine wI Tryz.func95 ?_
  repeat' (first | refine wC ?_ | refine wK ?_ | fail)
  refine zc (za [0, 1, 3, 9] [] rfl rfl) ?_
  refine zi (fun q env st => ∃ (j : Nat), j ≤ n ∧ q = n - j ∧
      env = EnvL.get [(0, .t (.str (ym v c p j))), (1, .t (.int .i64 c)), (3, .t (.int .i64 ((p + n : Nat) : Int))), (9, .t (.int .i64 ((p + j : Nat) : Int)))] ∧ st = StO.get [])
    ?_ (n := n) ⟨0, by omega, rfl, rfl, rfl⟩
  rintro q env st ⟨j, hj, rfl, rfl, rfl⟩
  have hz := zcG v c p j
  by_cases hlt : j < n
  · have hS := zgb (ym v c p j) (by omega) c ((p + j : Nat) : Int)
    rw [show qa (ym v c p j) c ((p + j : Nat) : Int) = ym v c p (j + 1) from rfl] at hS
    repeat' (first | refine wC ?_ | (exfalso; omega) | refine wK ?_ | ((with_reducible refine zk ?_); refine wL hS ?_) | refine zo rfl ?_ ?_ <;> intro hc | fail)
    refine zD (n' := n - (j + 1)) (by omega) (za [0, 1, 3, 9] [] rfl rfl) ⟨j + 1, by omega, rfl, ?_, rfl⟩
    rw [zl (by omega) (by omega), show ((p + j : Nat) : Int) + 1 = ((p + (j + 1) : Nat) : Int) by omega]
    rfl
  · obtain rfl : j = n := by omega
    repeat' (first | refine wC ?_ | (exfalso; omega) | refine wK ?_ | refine zo rfl ?_ ?_ <;> intro hc | fail)
    exact zE (zh rfl rfl rfl) (by simp)
set_option maxHeartbeats 2000000 in
theorem zaj (v : ByteArray) (hv : v.size ≤ 900000) (c : Int) (p n : Nat) (hp : p + n ≤ 1000) : Spec Tryz.prog 67 [.t (.str v), .t (.int .i64 c), .t (.int .i64 (p : Int)), .t (.int .i64 ((p + n : Nat) : Int))] [] (.t (.str (ym v c p n))) [] := by
  refine wI Tryz.func67 ?_
  repeat' (first | refine wC ?_ | refine wK ?_ | fail)
  refine zc (za [0, 1, 3, 9] [] rfl rfl) ?_
  refine zi (fun q env st => ∃ (j : Nat), j ≤ n ∧ q = n - j ∧
      env = EnvL.get [(0, .t (.str (ym v c p j))), (1, .t (.int .i64 c)), (3, .t (.int .i64 ((p + n : Nat) : Int))), (9, .t (.int .i64 ((p + j : Nat) : Int)))] ∧ st = StO.get [])
    ?_ (n := n) ⟨0, by omega, rfl, rfl, rfl⟩
  rintro q env st ⟨j, hj, rfl, rfl, rfl⟩
  have hz := zcG v c p j
  by_cases hlt : j < n
  · have hS := zeK (ym v c p j) (by omega) c ((p + j : Nat) : Int)
    rw [show qa (ym v c p j) c ((p + j : Nat) : Int) = ym v c p (j + 1) from rfl] at hS
    repeat' (first | refine wC ?_ | (exfalso; omega) | refine wK ?_ | ((with_reducible refine zk ?_); refine wL hS ?_) | refine zo rfl ?_ ?_ <;> intro hc | fail)
    refine zD (n' := n - (j + 1)) (by omega) (za [0, 1, 3, 9] [] rfl rfl) ⟨j + 1, by omega, rfl, ?_, rfl⟩
    rw [zl (by omega) (by omega), show ((p + j : Nat) : Int) + 1 = ((p + (j + 1) : Nat) : Int) by omega]
    rfl
  · obtain rfl : j = n := by omega
    repeat' (first | refine wC ?_ | (exfalso; omega) | refine wK ?_ | refine zo rfl ?_ ?_ <;> intro hc | fail)
    exact zE (zh rfl rfl rfl) (by simp)
def zfq (d : Nat → Nat) : List Int := (List.range 36).map (fun i => (d i : Int))
theorem zdU (d : Nat → Nat) : (zfq d).length = 36 := by simp [zfq]
theorem zd1 (d : Nat → Nat) {j : Nat} (hj : j < 36) : (zfq d).getD (j : Int).toNat default = (d j : Int) := by
  simp [zfq, List.getD_eq_getElem?_getD, hj]
theorem zcm (Y : ByteArray) : zcR Y 36 = (zfq (vK Y)).map (T.int .i64) := by simp [zcR, zfq, Function.comp_def]
def bst (q : Id) (t : Nat) (s : ByteArray) : Nat → StO
  | 0 => [(q, some (.var t [.t .nilp, .t .nilsl]))]
  | _ + 1 => [(q, some (.var t [.ref q 0 0 0, .row (.loc 901)])), (.loc 901, some (.slt 5 1 (zX s)))]
theorem zcf (v : ByteArray) (d : Nat → Nat) (j : Nat) : kS v d (j + 1) = kS v d j ++ zfD v d j := rfl
set_option maxHeartbeats 4000000 in
theorem zcd (v : ByteArray) (hv : v.size ≤ 900000) (d : Nat → Nat) (hd : ∀ i, d i < 4) : Spec Tryz.prog 82 [.t (.str v), .t (.sl 1 ((zfq d).map (T.int .i64)))] [] (.t (.str (kS v d 36))) [] := by
  have hlen := zdU d
  refine wI Tryz.func82 ?_
  repeat' (first | refine wC ?_ | refine wK ?_ | fail)
  refine zc (za [0, 5, 8, 9, 10] [.loc 5] rfl rfl) ?_
  refine zi (fun q env st => ∃ (j : Nat), j ≤ 36 ∧ q = 36 - j ∧
      env = EnvL.get [(0, .t (.str v)), (5, .ref (.loc 5) 0 0 0), (8, .t (.sl 1 ((zfq d).map (T.int .i64)))), (9, .t (.int .i64 ((zfq d).length : Int))), (10, .t (.int .i64 (j : Int)))] ∧
      st = StO.get (bst (.loc 5) 95 (kS v d j) j))
    ?_ (n := 36) ⟨0, by omega, rfl, rfl, rfl⟩
  rintro q env st ⟨j, hj, rfl, rfl, rfl⟩
  rw [hlen]
  have hzj := vi v d j
  by_cases hlt : j < 36
  · have hg := zd1 d hlt
    have hd4 := hd j
    have hS1 := zdN v (by omega) (j : Int)
    have hz1 := qg v (j : Int)
    have hS2 := ze3 (zbJ v (j : Int)) (by omega) (j : Int) 0 (d j) (by omega)
    rw [show ym (zbJ v (j : Int)) (j : Int) 0 (d j) = zfD v d j from rfl, Nat.zero_add, ← hg] at hS2
    have hz2 := vh v d j
    have hsucc := zcf v d j
    generalize zbJ v (j : Int) = X at *
    cases j with
    | zero =>
      have e0 : kS v d 0 ++ zfD v d 0 = zfD v d 0 := ByteArray.empty_append
      rw [e0] at hsucc
      rw [← hsucc] at hS2 hz2
      have hw := zbl (kS v d (0 + 1)) (by omega)
      unfold ziK zfp at hw
      repeat' (first | refine wC ?_ | refine wK ?_ | ((with_reducible refine zj ?_); refine zg rfl rfl rfl rfl rfl rfl ?_ ?_ ?_) | ((with_reducible refine zk ?_); first | refine wL hS1 ?_ | refine wL hS2 ?_ | refine wN (.tup [_, _]) [(.par 0, .loc 5), (.res 0, .loc 901)] hw ?_) | fail)
      all_goals try omega
      exact zD (n' := 36 - (0 + 1)) (by omega) (za [0, 5, 8, 9, 10] [.loc 5, .loc 901] rfl rfl) ⟨0 + 1, by omega, rfl, rfl, rfl⟩
    | succ k =>
      have hw := zbr (zX (kS v d (k + 1))) (zfD v d (k + 1)) (by rw [yh]; omega)
      rw [← qD, ← hsucc] at hw
      unfold zc5 zfp at hw
      unfold bst
      repeat' (first | refine wC ?_ | (exfalso; omega) | refine wK ?_ | ((with_reducible refine zj ?_); refine zg rfl rfl rfl rfl rfl rfl ?_ ?_ ?_) | ((with_reducible refine zk ?_); first | refine wL hS1 ?_ | refine wL hS2 ?_ | refine wN (.tup [_, _]) [(.par 0, .loc 5), (.par 1, .loc 901), (.res 0, .loc 902)] hw ?_) | refine zo rfl ?_ ?_ <;> intro hc | fail)
      all_goals try omega
      refine zD (n' := 36 - (k + 1 + 1)) (by omega) ((za [0, 5, 8, 9, 10] [.loc 5, .loc 902] rfl rfl).trans (zq (.loc 902) (.loc 901) rfl rfl rfl rfl)) ⟨k + 1 + 1, by omega, rfl, by rw [zl (by omega) (by omega)]; rfl, rfl⟩
  · obtain rfl : j = 36 := by omega
    have hne : (kS v d 36).data.toList ≠ [] := by
      intro h
      have h3 := z8 (kS v d 36)
      rw [h] at h3
      simp at h3; omega
    have hS := jQ (kS v d 36).data.toList (by rw [z8]; omega) hne
    rw [wE, ← ww] at hS
    unfold zc5 at hS
    generalize kS v d 36 = X at hS ⊢
    unfold bst
    repeat' (first | refine wC ?_ | refine wK ?_ | ((with_reducible refine zk ?_); refine wN (.t (.str _)) [(.par 0, .loc 5), (.par 1, .loc 901)] hS ?_) | fail)
    exact zE (zh rfl rfl rfl) (by simp)
set_option maxHeartbeats 2000000 in
theorem zft (v m : ByteArray) (hv : v.size ≤ 900000) (hm : m.size ≤ 900000) : Spec Tryz.prog 64 [.t (.str v), .t (.str m)] [] (.t (.str (zfo v m))) [] := by
  have h1 := zdB m (by omega)
  have h2 := zcd v hv (vK (sha m)) (jF _)
  rw [zcm] at h1
  unfold zfo
  generalize kS v (vK (sha m)) 36 = Y at h2 ⊢
  generalize zfq (vK (sha m)) = L at h1 h2
  refine wI Tryz.func64 ?_
  repeat' (first | refine wC ?_ | refine wK ?_ | ((with_reducible refine zk ?_); first | refine wL h1 ?_ | refine wL h2 ?_) | fail)
  exact zE (zh rfl rfl rfl) (by simp)
def zhx (j : Nat) : List T := (List.range 36).map (fun i => T.int .i64 (if i < j then 3 else 0))
theorem zg1 (j : Nat) (hj : j < 36) : (zhx j).set (j : Int).toNat (.int .i64 3) = zhx (j + 1) := by
  apply List.ext_getElem
  · simp [zhx]
  · intro i h1 h2
    simp only [zhx, List.length_set, List.length_map, List.length_range] at h1
    simp only [zhx, List.getElem_set, List.getElem_map, List.getElem_range, Int.toNat_natCast]
    by_cases h : j = i
    · subst h; rw [if_pos rfl, if_pos (by omega)]
    · rw [if_neg h]
      by_cases h' : i < j
      · rw [if_pos h', if_pos (by omega)]
      · rw [if_neg h', if_neg (by omega)]
theorem zhf : zhx 36 = (zfq (fun _ => 3)).map (T.int .i64) := rfl
set_option maxHeartbeats 2000000 in
theorem zdF (v : ByteArray) (hv : v.size ≤ 900000) : Spec Tryz.prog 92 [.t (.str v)] [] (.t (.str (vJ v))) [] := by
  have h2 := zcd v hv (fun _ => 3) (fun _ => by omega)
  have hz := vi v (fun _ => 3) 36
  have hS := wA (kS v (fun _ => 3) 36) (by omega)
  unfold vJ
  generalize zO (kS v (fun _ => 3) 36) = Y at hS ⊢
  generalize kS v (fun _ => 3) 36 = W at *
  rw [← zhf] at h2
  refine wI Tryz.func92 ?_
  repeat' (first | refine wC ?_ | refine wK ?_ | ((with_reducible refine xo ?_); refine y5 (zT := .int _ _) rfl rfl rfl rfl rfl rfl rfl rfl rfl ?_ ?_ ?_ ?_ ?_) | fail)
  all_goals try decide
  refine zc (za [0, 3, 7, 8] [.loc 5] rfl rfl) ?_
  refine zi (fun q env st => ∃ (j : Nat), j ≤ 36 ∧ q = 36 - j ∧
      env = EnvL.get [(0, .t (.str v)), (3, .row (.loc 5)), (7, .t (.int .i64 36)), (8, .t (.int .i64 (j : Int)))] ∧
      st = StO.get [(.loc 5, some (.slt 3 1 (zhx j)))])
    ?_ (n := 36) ⟨0, by omega, rfl, rfl, rfl⟩
  rintro q env st ⟨j, hj, rfl, rfl, rfl⟩
  have hlen : (zhx j).length = 36 := by simp [zhx]
  by_cases hlt : j < 36
  · have hset := zg1 j hlt
    repeat' (first | refine wC ?_ | (exfalso; omega) | refine wK ?_ | ((with_reducible refine xm ?_); refine xx rfl rfl rfl rfl rfl rfl ?_ ?_ ?_) | ((with_reducible refine zj ?_); refine yH rfl rfl rfl rfl rfl rfl rfl ?_ ?_ ?_) | refine zo rfl ?_ ?_ <;> intro hc | fail)
    all_goals try omega
    · rfl
    refine zD (n' := 36 - (j + 1)) (by omega) (za [0, 3, 7, 8] [.loc 5] rfl rfl) ⟨j + 1, by omega, rfl, by rw [zl (by omega) (by omega)]; rfl, ?_⟩
    rw [← hset]; rfl
  · obtain rfl : j = 36 := by omega
    refine zc (zz (id := .loc 5) rfl rfl rfl) ?_
    repeat' (first | refine wC ?_ | refine wK ?_ | ((with_reducible refine zk ?_); first | refine wL h2 ?_ | refine wL hS ?_) | fail)
    all_goals exact zE (zh rfl rfl rfl) (by simp)
set_option maxHeartbeats 2000000 in
theorem zcl (v : ByteArray) (hv : v.size ≤ 900000) : Spec Tryz.prog 80 [.t (.str v)] [] (.t (.str (vJ v))) [] := by
  have hz := vi v (fun _ => 3) 36
  have hS := yV (kS v (fun _ => 3) 36) (by omega)
  unfold vJ
  generalize zO (kS v (fun _ => 3) 36) = Y at hS ⊢
  refine wI Tryz.func80 ?_
  repeat' (first | refine wC ?_ | refine wK ?_ | fail)
  refine zc (za [0, 3, 5] [] rfl rfl) ?_
  refine zi (fun q env st => ∃ (j : Nat), j ≤ 36 ∧ q = 36 - j ∧
      env = EnvL.get [(0, .t (.str v)), (3, .t (.str (kS v (fun _ => 3) j))), (5, .t (.int .i64 (j : Int)))] ∧ st = StO.get [])
    ?_ (n := 36) ⟨0, by omega, rfl, rfl, rfl⟩
  rintro q env st ⟨j, hj, rfl, rfl, rfl⟩
  have hzj := vi v (fun _ => 3) j
  by_cases hlt : j < 36
  · have hS1 := zbA v (by omega) (j : Int)
    have hz1 := qg v (j : Int)
    have hS2 := zaj (zbJ v (j : Int)) (by omega) (j : Int) 0 3 (by omega)
    rw [show ym (zbJ v (j : Int)) (j : Int) 0 3 = zfD v (fun _ => 3) j from rfl, Nat.zero_add] at hS2
    have hz2 := vh v (fun _ => 3) j
    have hsucc := zcf v (fun _ => 3) j
    generalize zbJ v (j : Int) = X at *
    repeat' (first | refine wC ?_ | (exfalso; omega) | refine wK ?_ | ((with_reducible refine zU ?_); refine zL rfl rfl rfl rfl rfl rfl ?_ ?_) | ((with_reducible refine zk ?_); first | refine wL hS1 ?_ | refine wL hS2 ?_) | refine zo rfl ?_ ?_ <;> intro hc | fail)
    all_goals try omega
    refine zD (n' := 36 - (j + 1)) (by omega) (za [0, 3, 5] [] rfl rfl) ⟨j + 1, by omega, rfl, by rw [zl (by omega) (by omega), hsucc]; rfl, rfl⟩
  · obtain rfl : j = 36 := by omega
    generalize kS v (fun _ => 3) 36 = W at *
    repeat' (first | refine wC ?_ | refine wK ?_ | ((with_reducible refine zk ?_); refine wL hS ?_) | fail)
    all_goals exact zE (zh rfl rfl rfl) (by simp)
theorem zf6 (d : Nat → Nat) (w : ByteArray) (j : Nat) : zgN d w (j + 1) = zgN d w j ++ zjB d w j := rfl
def zlh (w : ByteArray) : Int := if w.size = 576 then 0 else 8
def zkD (m w : ByteArray) : ByteArray := if w.size = 576 then zkE m w else ⟨#[]⟩
set_option maxHeartbeats 4000000 in
theorem zbj (m w : ByteArray) (hm : m.size ≤ 900000) (hw : w.size ≤ 900000) : Spec Tryz.prog 42 [.t (.str m), .t (.str w)] [] (.tup [.t (.str (zkD m w)), .t (.int .i64 (zlh w))]) [] := by
  unfold zkD zlh
  by_cases h0 : w.size = 576
  · rw [if_pos h0, if_pos h0]
    have h0' : (w.size : Int) = 576 := by omega
    have h1 := zbZ m (by omega)
    rw [zcm] at h1
    unfold zkE
    have hd := jF (sha m)
    generalize vK (sha m) = d at h1 hd ⊢
    have hlen := zdU d
    have hze := jv (d := d) (w := w) 36 (by omega)
    have hSh := yV (zgN d w 36) (by omega)
    generalize zO (zgN d w 36) = Y at hSh ⊢
    refine wI Tryz.func42 ?_
    repeat' (first | refine wC ?_ | (exfalso; omega) | refine wK ?_ | ((with_reducible refine zk ?_); refine wL h1 ?_) | refine yL rfl ?_ ?_ <;> intro hc | fail)
    refine zc (za [1, 6, 13, 14, 15] [] rfl rfl) ?_
    refine zi (fun q env st => ∃ (j : Nat), j ≤ 36 ∧ q = 36 - j ∧
        env = EnvL.get [(1, .t (.str w)), (6, .t (.str (zgN d w j))), (13, .t (.sl 1 ((zfq d).map (T.int .i64)))), (14, .t (.int .i64 36)), (15, .t (.int .i64 (j : Int)))] ∧ st = StO.get [])
      ?_ (n := 36) ⟨0, by omega, rfl, rfl, rfl⟩
    rintro q env st ⟨j, hj, rfl, rfl, rfl⟩
    have hzj := jv (d := d) (w := w) j (by omega)
    by_cases hlt : j < 36
    · have hg := zd1 d hlt
      have hd4 := hd j
      have hex : (w.extract (16 * j) (16 * (j + 1))).size = 16 := by rw [ByteArray.size_extract]; omega
      have hS2 := zaj (w.extract (16 * j) (16 * (j + 1))) (by omega) (j : Int) (d j) (3 - d j) (by omega)
      rw [show ym (w.extract (16 * j) (16 * (j + 1))) (j : Int) (d j) (3 - d j) = zjB d w j from rfl, show d j + (3 - d j) = 3 by omega, ← hg] at hS2
      have hz2 : (zjB d w j).size = 16 := zbG (by omega)
      have hsucc := zf6 d w j
      have i1 : IntKind.i64.wrap ((j : Int) * 16) = ((16 * j : Nat) : Int) := by rw [zl (by omega) (by omega)]; omega
      have i2 : IntKind.i64.wrap ((j : Int) + 1) = ((j + 1 : Nat) : Int) := by rw [zl (by omega) (by omega)]; omega
      have i3 : IntKind.i64.wrap (((j + 1 : Nat) : Int) * 16) = ((16 * (j + 1) : Nat) : Int) := by rw [zl (by omega) (by omega)]; omega
      have e1 : w.extract (IntKind.i64.wrap ((j : Int) * 16)).toNat (IntKind.i64.wrap (IntKind.i64.wrap ((j : Int) + 1) * 16)).toNat = w.extract (16 * j) (16 * (j + 1)) := by rw [i2, i1, i3]; rfl
      rw [← e1] at hS2
      repeat' (first | refine wC ?_ | (exfalso; omega) | refine wK ?_ | ((with_reducible refine zU ?_); refine zL rfl rfl rfl rfl rfl rfl ?_ ?_) | ((with_reducible refine zj ?_); refine zg rfl rfl rfl rfl rfl rfl ?_ ?_ ?_) | ((with_reducible refine yA ?_); refine zy rfl rfl ⟨_, rfl⟩ ⟨_, rfl⟩ rfl rfl rfl ?_ ?_ ?_ ?_) | ((with_reducible refine zk ?_); refine wL hS2 ?_) | refine zo rfl ?_ ?_ <;> intro hc | fail)
      all_goals try (simp only [i1, i2, i3]; omega)
      all_goals try omega
      refine zD (n' := 36 - (j + 1)) (by omega) (za [1, 6, 13, 14, 15] [] rfl rfl) ⟨j + 1, by omega, rfl, ?_, rfl⟩
      rw [hsucc, i2]; rfl
    · obtain rfl : j = 36 := by omega
      generalize zgN d w 36 = X at *
      repeat' (first | refine wC ?_ | refine wK ?_ | ((with_reducible refine zk ?_); refine wL hSh ?_) | fail)
      exact zE (yd rfl rfl rfl rfl rfl) (by simp)
  · rw [if_neg h0, if_neg h0]
    have h0' : (w.size : Int) ≠ 576 := by omega
    refine wI Tryz.func42 ?_
    repeat' (first | refine wC ?_ | (exfalso; omega) | refine wK ?_ | refine yL rfl ?_ ?_ <;> intro hc | fail)
    exact zE (yd rfl rfl rfl rfl rfl) (by simp)
end Go.AL
namespace Go.AL
open Go Go.RowKit
def wc : ByteArray := ⟨#[65, 66, 67, 68, 69, 70, 71, 72, 73, 74, 75, 76, 77, 78, 79, 80, 81, 82, 83, 84, 85, 86, 87, 88, 89, 90, 97, 98, 99, 100, 101, 102, 103, 104, 105, 106, 107, 108, 109, 110, 111, 112, 113, 114, 115, 116, 117, 118, 119, 120, 121, 122, 48, 49, 50, 51, 52, 53, 54, 55, 56, 57, 45, 95]⟩
abbrev w64 (n : Int) : Int := IntKind.i64.wrap n
abbrev zhY (a b : Int) : Int := w64 ((BitVec.ofInt 64 a ||| BitVec.ofInt 64 b).toNat : Int)
abbrev zca (a b : Int) : Int := w64 ((BitVec.ofInt 64 a &&& BitVec.ofInt 64 b).toNat : Int)
theorem kZ (x : Int) : 0 ≤ zca x 63 ∧ zca x 63 < 64 := by
  have h : (BitVec.ofInt 64 x &&& BitVec.ofInt 64 63).toNat ≤ 63 := by
    rw [BitVec.toNat_and]
    exact Nat.le_trans Nat.and_le_right (by decide)
  unfold zca w64
  rw [zl (by omega) (by omega)]
  omega
theorem zgq (n : Nat) (hn : n ≤ 62) {a b : Int} (ha0 : 0 ≤ a) (ha : a < 2 ^ n) (hb0 : 0 ≤ b) (hb : b < 2 ^ n) : 0 ≤ zhY a b ∧ zhY a b < 2 ^ n := by
  have hp : (2 : Int) ^ n ≤ 2 ^ 62 := by
    have : (2 : Nat) ^ n ≤ 2 ^ 62 := Nat.pow_le_pow_right (by omega) hn
    exact_mod_cast this
  have h1 : (BitVec.ofInt 64 a).toNat = a.toNat := by
    rw [BitVec.toNat_ofInt]
    congr 1
    omega
  have h2 : (BitVec.ofInt 64 b).toNat = b.toNat := by
    rw [BitVec.toNat_ofInt]
    congr 1
    omega
  have h : (BitVec.ofInt 64 a ||| BitVec.ofInt 64 b).toNat < 2 ^ n := by
    rw [BitVec.toNat_or, h1, h2]
    refine Nat.or_lt_two_pow ?_ ?_
    · have : ((a.toNat : Nat) : Int) < ((2 ^ n : Nat) : Int) := by rw [Int.toNat_of_nonneg ha0]; exact_mod_cast ha
      exact_mod_cast this
    · have : ((b.toNat : Nat) : Int) < ((2 ^ n : Nat) : Int) := by rw [Int.toNat_of_nonneg hb0]; exact_mod_cast hb
      exact_mod_cast this
  have h' : ((BitVec.ofInt 64 a ||| BitVec.ofInt 64 b).toNat : Int) < 2 ^ n := by exact_mod_cast h
  unfold zhY w64
  rw [zl (by omega) (by omega)]
  exact ⟨by omega, h'⟩
theorem vb (s : ByteArray) (i : Int) : 0 ≤ bAt s i ∧ bAt s i ≤ 255 := by
  unfold bAt
  have := (s.data.toList.getD i.toNat 0).toNat_lt
  omega
def n24 (a b c : Int) : Int := zhY (zhY (w64 (w64 a * 2 ^ min (16 : Int).toNat 64)) (w64 (w64 b * 2 ^ min (8 : Int).toNat 64))) (w64 c)
theorem qJ {a b c : Int} (ha : 0 ≤ a ∧ a ≤ 255) (hb : 0 ≤ b ∧ b ≤ 255) (hc : 0 ≤ c ∧ c ≤ 255) : 0 ≤ n24 a b c ∧ n24 a b c < 16777216 := by
  have e1 : (2 : Int) ^ min (16 : Int).toNat 64 = 65536 := by decide
  have e2 : (2 : Int) ^ min (8 : Int).toNat 64 = 256 := by decide
  unfold n24
  rw [e1, e2]
  unfold w64
  rw [zl (n := a) (by omega) (by omega), zl (n := b) (by omega) (by omega), zl (n := c) (by omega) (by omega), zl (n := a * 65536) (by omega) (by omega), zl (n := b * 256) (by omega) (by omega)]
  have h1 := zgq 24 (by decide) (a := a * 65536) (b := b * 256) (by omega) (by omega) (by omega) (by omega)
  exact zgq 24 (by decide) h1.1 h1.2 (by omega) (by omega)
def zi7 (n : Int) : List T := [.int .u8 (bAt wc (n / 2 ^ min (18 : Int).toNat 64)), .int .u8 (bAt wc (zca (n / 2 ^ min (12 : Int).toNat 64) 63)), .int .u8 (bAt wc (zca (n / 2 ^ min (6 : Int).toNat 64) 63)), .int .u8 (bAt wc (zca n 63))]
theorem zfw (n : Int) : IsU8 (zi7 n) := by
  intro e he
  simp [zi7] at he
  rcases he with rfl | rfl | rfl | rfl <;> rfl
theorem zeO : (wc.size : Int) = 64 := by decide
theorem qj {n : Int} (h : 0 ≤ n ∧ n < 16777216) : 0 ≤ n / 2 ^ min (18 : Int).toNat 64 ∧ n / 2 ^ min (18 : Int).toNat 64 < 64 := by
  have e1 : (2 : Int) ^ min (18 : Int).toNat 64 = 262144 := by decide
  rw [e1]
  omega
def zeP : Nat → ByteArray → List T
  | 0, _ => []
  | k + 1, s => zi7 (n24 (bAt s 0) (bAt s 1) (bAt s 2)) ++ zeP k (s.extract 3 s.size)
theorem jt : ∀ (k : Nat) (s : ByteArray), (zeP k s).length = 4 * k
  | 0, _ => rfl
  | k + 1, s => by simp [zeP, jt k, zi7]; omega
def zjo : Nat → Nat → ByteArray → List T
  | 0, _, _ => []
  | k + 1, j, s => zi7 (n24 (bAt s ((3 * j : Nat) : Int)) (bAt s ((3 * j + 1 : Nat) : Int)) (bAt s ((3 * j + 2 : Nat) : Int))) ++ zjo k (j + 1) s
def vW (s : ByteArray) : ByteArray × Int :=
  if 65536 < (s.size : Int) then (⟨#[]⟩, 3) else if (s.size : Int).tmod 3 ≠ 0 then (⟨#[]⟩, 8) else (vL (zjo (s.size / 3) 0 s), 0)
theorem zha (r : ByteArray) : r = ⟨#[]⟩ ∨ 0 < r.size := by
  by_cases h : r.size = 0
  · left
    obtain ⟨d⟩ := r
    have : d.size = 0 := h
    simp [Array.eq_empty_of_size_eq_zero this]
  · exact .inr (by omega)
theorem IsU8.append {xs ys : List T} (h1 : IsU8 xs) (h2 : IsU8 ys) : IsU8 (xs ++ ys) := fun e he => by
  rcases List.mem_append.1 he with h | h
  · exact h1 e h
  · exact h2 e h
def y6 (s : ByteArray) : ByteArray × Int :=
  if 65536 < (s.size : Int) then (⟨#[]⟩, 3) else if (s.size : Int).tmod 3 ≠ 0 then (⟨#[]⟩, 8) else (vL (zeP (s.size / 3) s), 0)
end Go.AL
namespace Go.AL
open Go Go.Proofs Go.RowKit
set_option maxHeartbeats 2000000 in
theorem zdE (s : ByteArray) (hs : s.size ≤ 9223372036854775807) : Spec Tryz.prog 72 [.t (.str s)] [] (.tup [.t (.str (y6 s).1), .t (.int .i64 (y6 s).2)]) [] := by
  refine wI Tryz.func72 ?_
  repeat' (first | refine wC ?_ | refine wK ?_ | ((with_reducible refine xo ?_); refine y5 (zT := .int _ _) rfl rfl rfl rfl rfl rfl rfl rfl rfl ?_ ?_ ?_ ?_ ?_) | refine zo rfl ?_ ?_ <;> intro hc | refine yL rfl ?_ ?_ <;> intro hc | fail)
  case' refine_1 =>
    refine zE (yd rfl rfl rfl ?_ ?_) (by simp) <;> simp [y6, hc]
  case' refine_2.refine_2 =>
    refine zE (yd rfl rfl rfl ?_ ?_) (by simp) <;> simp [y6, *]
  all_goals
    have q1 : (s.size : Int).tdiv 3 = ((s.size / 3 : Nat) : Int) := rfl
    have q3 : (s.size : Int).tmod 3 = ((s.size % 3 : Nat) : Int) := rfl
    rw [q3] at hc
    have q0 : 3 * (s.size / 3) = s.size := by omega
    have q2 : IntKind.i64.wrap (IntKind.i64.wrap ((s.size : Int).tdiv 3) * 4) = (4 * (s.size / 3) : Nat) := by
      rw [q1, zl (n := ((s.size / 3 : Nat) : Int)) (by omega) (by omega), zl (by omega) (by omega)]
      omega
  case' refine_2.refine_1.refine_1 => decide
  case' refine_2.refine_1.refine_2 => omega
  case' refine_2.refine_1.refine_3 => omega
  case' refine_2.refine_1.refine_4 => omega
  refine zc (za [0, 2, 3, 4] [.loc 19] rfl rfl) ?_
  refine zi (fun n env st => ∃ (k : Nat) (r : ByteArray) (es : List T), r.size = 3 * k ∧ n = k ∧ IsU8 es ∧ es.length + 4 * k = 4 * (s.size / 3) ∧ es ++ zeP k r = zeP (s.size / 3) s ∧
      env = EnvL.get [(0, .t (.str r)), (2, .t (.str ⟨#[]⟩)), (3, .t (.int .i64 0)), (4, .row (.loc 19))] ∧ st = StO.get [(.loc 19, some (.slt 5 1 es))]) ?_ (n := s.size / 3) ⟨s.size / 3, s, _, by omega, rfl, ?_, ?_, ?_, rfl, rfl⟩
  · rintro n env st ⟨k, r, es, hr, rfl, hu, hl, he, rfl, rfl⟩
    have hz := zha r
    repeat' (first | refine wC ?_ | refine wK ?_ | ((with_reducible refine yu ?_); refine zQ rfl rfl rfl rfl rfl rfl ?_ ?_ ?_) | ((with_reducible refine zY ?_); refine zF rfl rfl rfl rfl rfl rfl ?_ ?_) | ((with_reducible refine yA ?_); refine zy rfl rfl ⟨_, rfl⟩ rfl rfl rfl rfl ?_ ?_ ?_ ?_) | ((with_reducible refine zR ?_); refine zt rfl rfl rfl rfl rfl rfl rfl rfl rfl rfl ?_ ?_ ?_) | refine yL rfl ?_ ?_ <;> intro hc | fail)
    all_goals try have hp := hz.resolve_left hc
    all_goals try first | omega | exact hu | exact (qj (qJ (vb _ _) (vb _ _) (vb _ _))).1 | exact (qj (qJ (vb _ _) (vb _ _) (vb _ _))).2 | exact (kZ _).1 | exact (kZ _).2 | (simp only [List.length_cons, List.length_nil]; omega)
    · subst hc
      have hn : n = 0 := by
        have : 0 = 3 * n := hr
        omega
      subst hn
      simp [zeP] at he
      subst he
      refine zE (yd rfl rfl rfl ?_ ?_) (by simp) <;> simp [y6, *]
    · obtain ⟨m, rfl⟩ : ∃ m, n = m + 1 := ⟨n - 1, by omega⟩
      refine zD (n' := m) (by omega) ((za [0, 2, 3, 4] [.loc 53] rfl rfl).trans (zq (.loc 53) (.loc 19) rfl rfl rfl rfl)) ⟨m, _, _, ?_, rfl, ?_, ?_, ?_, rfl, rfl⟩
      · simp [ByteArray.size_extract]; omega
      · exact hu.append (zfw _)
      · simp; omega
      · rw [List.append_assoc]; exact he
  · intro e he; simp at he
  · simp
  · simp
def frm (k : Int) (s : ByteArray) (n : Int) : T × T := (.int .i64 k, .agg [.str s, .int .i64 n])
def zjO : List (T × T) := [frm 1 ⟨#[69]⟩ 32, frm 2 ⟨#[68]⟩ 32, frm 3 ⟨#[66]⟩ 32, frm 4 ⟨#[65]⟩ 32, frm 5 ⟨#[48, 65]⟩ 16, frm 6 ⟨#[77]⟩ 2, frm 7 ⟨#[83]⟩ 626, frm 8 ⟨#[49, 65, 65, 76]⟩ 6]
set_option maxHeartbeats 2000000 in
theorem zff : Spec Tryz.prog 71 [] [] (.row (.res 0)) [(.res 0, .dat (.map zjO))] := by
  refine wIG Tryz.func71 ?_
  repeat' (first | refine wC ?_ | refine wK ?_ | ((with_reducible refine zg3 ?_); refine zfT rfl rfl rfl rfl rfl rfl rfl rfl ?_ ?_) | fail)
  all_goals try rfl
  refine ye (za [0] [.loc 1] rfl rfl) ?_
  refine ye (zq (.loc 1) (.res 0) rfl rfl rfl rfl) ?_
  exact y4 (zE (xd rfl (AVLE.of_eq rfl)) (zW ⟨rfl, trivial⟩))
def zjy (x : Int) : ByteArray := if x = 1 then ⟨#[69]⟩ else if x = 2 then ⟨#[68]⟩ else if x = 3 then ⟨#[66]⟩ else if x = 4 then ⟨#[65]⟩ else if x = 5 then ⟨#[48, 65]⟩ else if x = 6 then ⟨#[77]⟩ else if x = 7 then ⟨#[83]⟩ else if x = 8 then ⟨#[49, 65, 65, 76]⟩ else ⟨#[]⟩
def kF (x : Int) : Int := if x = 1 then 32 else if x = 2 then 32 else if x = 3 then 32 else if x = 4 then 32 else if x = 5 then 16 else if x = 6 then 2 else if x = 7 then 626 else if x = 8 then 6 else 0
theorem to9 {x : Int} (h0 : 0 ≤ x) (h1 : x ≤ 9) : x = 0 ∨ x = 1 ∨ x = 2 ∨ x = 3 ∨ x = 4 ∨ x = 5 ∨ x = 6 ∨ x = 7 ∨ x = 8 ∨ x = 9 := by omega
set_option maxHeartbeats 2000000 in
theorem zfW (c : ByteArray) (n : Int) (h0 : 0 ≤ n) (h1 : n ≤ 1000) : Spec Tryz.prog 74 [.t (.agg [.str c, .int .i64 n])] [] (.t (.int .i64 ((3 - n % 3) % 3))) [] := by
  have e1 : n.tmod 3 = n % 3 := Int.tmod_eq_emod_of_nonneg h0
  have e2 : (3 - n % 3).tmod 3 = (3 - n % 3) % 3 := Int.tmod_eq_emod_of_nonneg (by omega)
  have w1 : IntKind.i64.wrap (3 - n % 3) = 3 - n % 3 := zl (by omega) (by omega)
  refine wI Tryz.func74 ?_
  repeat' (first | refine wC ?_ | refine wK ?_ | fail)
  refine zE (zh rfl rfl ?_) (by simp)
  rw [e1, w1, e2]
theorem zle (h : Heap) : RepT h (.agg #[.string ⟨#[]⟩, .int .i64 0]) (.agg [.str ⟨#[]⟩, .int .i64 0]) := ⟨_, rfl, rfl, ⟨_, rfl, rfl, rfl⟩, ⟨_, rfl, rfl, rfl⟩, trivial⟩
def okB (x : Int) : Bool := decide (1 ≤ x ∧ x ≤ 8)
def ldS (n : Int) : Int := (3 - n % 3) % 3
def szF (c : ByteArray) (n : Int) : Int := (c.size : Int) + (n + ldS n) / 3 * 4 - ldS n
def zkV (x : Int) : Int := if okB x = true then szF (zjy x) (kF x) else 0
theorem zfy (x : Int) : (zjy x).size ≤ 4 := by unfold zjy; (repeat' split) <;> decide
theorem zag (x : Int) : 0 ≤ kF x ∧ kF x ≤ 626 := by unfold kF; (repeat' split) <;> decide
def zcL (c : Nat) : ByteArray := ⟨(Lib.repeatL (⟨#[0]⟩ : ByteArray).data.toList c).toArray⟩
theorem zcD (c : Nat) : (zcL c).size = c := by
  unfold zcL
  have : ∀ c, (Lib.repeatL ([0] : List UInt8) c).length = c := fun c => by
    induction c with
    | zero => rfl
    | succ c ih => simp only [Lib.repeatL, List.length_append, ih, List.length_singleton]; omega
  rw [ByteArray.size, List.size_toArray]
  exact this c
def vc (x : Int) (r : ByteArray) : ByteArray := zjy x ++ (y6 (zcL (ldS (kF x)).toNat ++ r)).1.extract (ldS (kF x)).toNat (y6 (zcL (ldS (kF x)).toNat ++ r)).1.size
theorem zcH (n : Int) : 0 ≤ ldS n ∧ ldS n ≤ 2 := by unfold ldS; omega
theorem zcA (s : ByteArray) (hs : s.size ≤ 65536) (h3 : s.size % 3 = 0) : (y6 s).2 = 0 ∧ (y6 s).1.size = 4 * (s.size / 3) := by
  have q3 : (s.size : Int).tmod 3 = ((s.size % 3 : Nat) : Int) := rfl
  unfold y6
  rw [if_neg (by omega), if_neg (by rw [q3, h3]; simp)]
  refine ⟨rfl, ?_⟩
  show (vL (zeP (s.size / 3) s)).size = _
  unfold vL
  rw [strOfNums_size, List.length_map, jt]
set_option maxHeartbeats 8000000 in
theorem zdr (x : Int) (h0 : 1 ≤ x) (h1 : x ≤ 8) (r : ByteArray) (hr : (r.size : Int) = kF x) : Spec Tryz.prog 47 [.t (.agg [.int .i64 x, .str r])] [] (.tup [.t (.str (vc x r)), .t (.int .i64 0)]) [] := by
  have hF := zff
  unfold zjO frm at hF
  have hrr := zag x
  have hL := zfW (zjy x) (kF x) hrr.1 (by omega)
  rw [show (3 - kF x % 3) % 3 = ldS (kF x) from rfl] at hL
  have hl := zcH (kF x)
  have hl3 : (ldS (kF x) + kF x) % 3 = 0 := by unfold ldS; omega
  unfold vc
  have hcs := zfy x
  obtain ⟨d, hd⟩ : ∃ d : Nat, ldS (kF x) = d := ⟨(ldS (kF x)).toNat, by omega⟩
  rw [hd] at hL hl hl3 ⊢
  rw [Int.toNat_natCast]
  have hR := jk ⟨#[0]⟩ d (by omega) (by show 1 * d ≤ _; omega)
  rw [show (⟨(Lib.repeatL (⟨#[0]⟩ : ByteArray).data.toList d).toArray⟩ : ByteArray) = zcL d from rfl] at hR
  have hzz := zcD d
  generalize zcL d = Z at hR hzz ⊢
  have hzs : (Z ++ r).size = d + r.size := by rw [ByteArray.size_append, hzz]
  have hB := zdE (Z ++ r) (by omega)
  obtain ⟨b1, b2⟩ := zcA (Z ++ r) (by omega) (by omega)
  rw [b1] at hB
  generalize (y6 (Z ++ r)).1 = E at hB b2 ⊢
  have hEx : ∀ a b, (E.extract a b).size ≤ 100000 := fun a b => by rw [ByteArray.size_extract]; omega
  rcases to9 (by omega : 0 ≤ x) (by omega) with rfl | rfl | rfl | rfl | rfl | rfl | rfl | rfl | rfl | rfl
  · omega
  all_goals try (exfalso; omega)
  all_goals
    have hr' : (r.size : Int) = _ := hr
    refine wI Tryz.func47 ?_
    repeat' (first | refine wC ?_ | refine zb6 (zT := .agg [.str ⟨#[]⟩, .int .i64 0]) rfl rfl rfl zle rfl rfl rfl rfl rfl rfl ?_ | refine wK ?_ | ((with_reducible refine zU ?_); refine zL rfl rfl rfl rfl rfl rfl ?_ ?_) | ((with_reducible refine yA ?_); refine zy rfl rfl ⟨_, rfl⟩ rfl rfl rfl rfl ?_ ?_ ?_ ?_) | ((with_reducible refine zk ?_); first | refine wN (.row (.loc 900)) [(.res 0, .loc 900)] hF ?_ | refine wL hL ?_ | refine wL hR ?_ | refine wL hB ?_) | refine yL rfl ?_ ?_ <;> intro hc | fail)
    all_goals try omega
    all_goals try (exact absurd hr hc)
    · exact Nat.le_trans (Nat.add_le_add hcs (hEx _ _)) (by decide)
    · exact zE (yd rfl rfl rfl rfl rfl) (by simp)
theorem zct (x : Int) (h0 : 1 ≤ x) (h1 : x ≤ 8) (r : ByteArray) (hr : (r.size : Int) = kF x) : Spec Tryz.prog 27 [.t (.int .i64 x), .t (.str r)] [] (.t (.str (vc x r))) [] := by
  have hE := zdr x h0 h1 r hr
  generalize vc x r = Y at hE ⊢
  refine wI Tryz.func27 ?_
  repeat' (first | refine wC ?_ | refine wK ?_ | ((with_reducible refine zk ?_); refine wL hE ?_) | fail)
  exact zE (zh rfl rfl rfl) (by simp)
theorem zfX (x : Int) (h0 : 1 ≤ x) (h1 : x ≤ 8) (r : ByteArray) (hr : (r.size : Int) = kF x) : ((vc x r).size : Int) = zkV x := by
  have hl := zcH (kF x)
  have hrr := zag x
  have hl3 : (ldS (kF x) + kF x) % 3 = 0 := by unfold ldS; omega
  have hzz := zcD (ldS (kF x)).toNat
  have hok : okB x = true := decide_eq_true ⟨h0, h1⟩
  unfold vc zkV szF
  rw [if_pos hok]
  generalize ldS (kF x) = d at *
  generalize zcL d.toNat = Z at *
  have hzs : (Z ++ r).size = d.toNat + r.size := by rw [ByteArray.size_append, hzz]
  obtain ⟨b1, b2⟩ := zcA (Z ++ r) (by omega) (by omega)
  generalize (y6 (Z ++ r)).1 = E at *
  rw [ByteArray.size_append, ByteArray.size_extract]
  omega
theorem zh8 (s : ByteArray) (u : Int) : s ++ vL [T.int .u8 (IntKind.u8.wrap u)] = s ++ byS u := rfl
set_option maxHeartbeats 1000000 in
theorem jq (s : ByteArray) (u : Int) (hs : s.size ≤ 900000) : Spec Tryz.prog 65 [.t (.str s), .t (.int .i64 u)] [] (.t (.str (xU s u))) [] := by
  have z := qm u
  have hS := vx (s ++ byS u) (by rw [ByteArray.size_append]; omega)
  unfold xU
  generalize sha (s ++ byS u) = Y at hS ⊢
  unfold byS at hS z
  refine wI Tryz.func65 ?_
  repeat' (first | refine wC ?_ | refine wK ?_ | ((with_reducible refine zU ?_); refine zL rfl rfl rfl rfl rfl rfl ?_ ?_) | ((with_reducible refine zY ?_); refine zF rfl rfl rfl rfl rfl rfl ?_ ?_) | ((with_reducible refine zk ?_); refine wL hS ?_) | fail)
  all_goals try exact kW _
  all_goals try omega
  exact zE (zh rfl rfl rfl) (by simp)
set_option maxHeartbeats 1000000 in
theorem zdh (p : ByteArray) (hp : p.size ≤ 900000) : Spec Tryz.prog 91 [.t (.str p)] [] (.t (.str (zhl p))) [] := by
  have z : (⟨#[0]⟩ : ByteArray).size = 1 := rfl
  have hS := wA (⟨#[0]⟩ ++ p) (by rw [ByteArray.size_append]; omega)
  unfold zhl
  generalize zO (⟨#[0]⟩ ++ p) = Y at hS ⊢
  refine wI Tryz.func91 ?_
  repeat' (first | refine wC ?_ | refine wK ?_ | ((with_reducible refine zU ?_); refine zL rfl rfl rfl rfl rfl rfl ?_ ?_) | ((with_reducible refine zk ?_); refine wL hS ?_) | fail)
  all_goals try omega
  exact zE (zh rfl rfl rfl) (by simp)
set_option maxHeartbeats 1000000 in
theorem q9 (a b : ByteArray) (ha : a.size ≤ 1000) (hb : b.size ≤ 1000) : Spec Tryz.prog 78 [.t (.str a), .t (.str b)] [] (.t (.str (qE a b))) [] := by
  have z : (⟨#[1]⟩ : ByteArray).size = 1 := rfl
  have z2 : (⟨#[1]⟩ ++ a : ByteArray).size = 1 + a.size := by rw [ByteArray.size_append, z]
  have hS := wA (⟨#[1]⟩ ++ a ++ b) (by rw [ByteArray.size_append]; omega)
  unfold qE
  generalize zO (⟨#[1]⟩ ++ a ++ b) = Y at hS ⊢
  refine wI Tryz.func78 ?_
  repeat' (first | refine wC ?_ | refine wK ?_ | ((with_reducible refine zU ?_); refine zL rfl rfl rfl rfl rfl rfl ?_ ?_) | ((with_reducible refine zk ?_); refine wL hS ?_) | fail)
  all_goals try omega
  exact zE (zh rfl rfl rfl) (by simp)
set_option maxHeartbeats 1000000 in
theorem yN (a b : ByteArray) (ha : a.size ≤ 1000) (hb : b.size ≤ 1000) : Spec Tryz.prog 44 [.t (.str a), .t (.str b)] [] (.t (.str (qE a b))) [] := by
  have z : (⟨#[1]⟩ : ByteArray).size = 1 := rfl
  have z2 : (⟨#[1]⟩ ++ a : ByteArray).size = 1 + a.size := by rw [ByteArray.size_append, z]
  have hS := yV (⟨#[1]⟩ ++ a ++ b) (by rw [ByteArray.size_append]; omega)
  unfold qE
  generalize zO (⟨#[1]⟩ ++ a ++ b) = Y at hS ⊢
  refine wI Tryz.func44 ?_
  repeat' (first | refine wC ?_ | refine wK ?_ | ((with_reducible refine zU ?_); refine zL rfl rfl rfl rfl rfl rfl ?_ ?_) | ((with_reducible refine zk ?_); refine wL hS ?_) | fail)
  all_goals try omega
  exact zE (zh rfl rfl rfl) (by simp)
set_option maxHeartbeats 1000000 in
theorem zgg (p : ByteArray) (hp : p.size ≤ 900000) : Spec Tryz.prog 52 [.t (.str p)] [] (.t (.str (zfr p))) [] := by
  have z : (⟨#[2]⟩ : ByteArray).size = 1 := rfl
  have hS := vx (⟨#[2]⟩ ++ p) (by rw [ByteArray.size_append]; omega)
  unfold zfr
  generalize sha (⟨#[2]⟩ ++ p) = Y at hS ⊢
  refine wI Tryz.func52 ?_
  repeat' (first | refine wC ?_ | refine wK ?_ | ((with_reducible refine zU ?_); refine zL rfl rfl rfl rfl rfl rfl ?_ ?_) | ((with_reducible refine zk ?_); refine wL hS ?_) | fail)
  all_goals try omega
  exact zE (zh rfl rfl rfl) (by simp)
set_option maxHeartbeats 1000000 in
theorem zfu (s : ByteArray) (u : Nat) (hs : s.size ≤ 900000) : Spec Tryz.prog 77 [.t (.str s), .t (.int .i64 (u : Int))] [] (.t (.str (ktL s 0 u))) [] := by
  have h1 := jq s (u : Int) hs
  have z := qG s (u : Int)
  have h2 := zdF (xU s (u : Int)) (by omega)
  have z2 : (vJ (xU s (u : Int))).size = 16 := yC _
  have h3 := zdh (vJ (xU s (u : Int))) (by omega)
  rw [ktL]
  generalize zhl (vJ (xU s (u : Int))) = Y at *
  generalize vJ (xU s (u : Int)) = Y2 at *
  generalize xU s (u : Int) = Y3 at *
  refine wI Tryz.func77 ?_
  repeat' (first | refine wC ?_ | refine wK ?_ | ((with_reducible refine zk ?_); first | refine wL h1 ?_ | refine wL h2 ?_ | refine wL h3 ?_) | fail)
  exact zE (zh rfl rfl rfl) (by simp)
theorem xD (s : ByteArray) (k n : Nat) {i : Int} {m : Nat} (h : i = (m : Int)) (hm : m < n) : (zC s k n).getD i.toNat default = ktL s k m := by
  subst h; rw [Int.toNat_natCast]; exact zd0 s k n hm
set_option maxHeartbeats 16000000 in
theorem zbB (s : ByteArray) (hs : s.size ≤ 900000) : Spec Tryz.prog 53 [.t (.str s)] [] (.t (.agg [.sl 1 ((zC s 0 8).map .str), .sl 1 ((zC s 1 4).map .str), .sl 1 ((zC s 2 2).map .str), .sl 1 ((zC s 3 1).map .str)])) [] := by
  have l0 := zV s 0 8
  have l1 := zV s 1 4
  have l2 := zV s 2 2
  refine wI Tryz.func53 ?_
  repeat' (first | refine wC ?_ | refine wK ?_ | fail)
  refine zc (xt (r := .loc 3) 0 (.loc 900) 9 1 rfl rfl rfl rfl rfl) ?_
  refine zc (za [0, 2, 3, 7] [.loc 2, .loc 3, .loc 900] rfl rfl) ?_
  refine zi (fun q env st => ∃ (j : Nat), j ≤ 8 ∧ q = 8 - j ∧ env = EnvL.get [(0, .t (.str s)), (2, .ref (.loc 2) 0 0 0), (3, .ref (.loc 3) 0 0 0), (7, .t (.int .i64 (j : Int)))] ∧
      st = StO.get [(.loc 2, some (.var 81 [.t .nilsl, .t .nilsl, .t .nilsl, .t .nilsl])), (.loc 3, some (.var 81 [.row (.loc 900), .t .nilsl, .t .nilsl, .t .nilsl])), (.loc 900, some (.slt 9 1 ((zC s 0 j).map .str)))])
    ?_ (n := 8) ⟨0, by omega, rfl, rfl, rfl⟩
  rintro q env st ⟨j, hj, rfl, rfl, rfl⟩
  have wj : IntKind.i64.wrap ((j : Int) + 1) = ((j + 1 : Nat) : Int) := by rw [zl (by omega) (by omega)]; omega
  by_cases hlt : j < 8
  · have hL := zfu s j hs
    have hsuc := yZ s 0 j
    have hln := zV s 0 j
    generalize ktL s 0 j = Y at *
    repeat' (first | refine wC ?_ | (exfalso; omega) | refine wK ?_ | ((with_reducible refine zj ?_); refine zu rfl rfl rfl rfl rfl rfl ?_ ?_ ?_) | ((with_reducible refine zR ?_); refine zt rfl rfl rfl rfl rfl rfl rfl rfl rfl rfl ?_ ?_ ?_) | ((with_reducible refine zk ?_); refine wL hL ?_) | refine zo rfl ?_ ?_ <;> intro hc | fail)
    all_goals try (simp only [List.length_map, List.length_cons, List.length_nil]; omega)
    all_goals try omega
    all_goals exact zD (n' := 8 - (j + 1)) (by omega) ((za [0, 2, 3, 7] [.loc 2, .loc 3, .loc 16] rfl rfl).trans (zq (.loc 16) (.loc 900) rfl rfl rfl rfl)) ⟨j + 1, by omega, rfl, by rw [wj]; rfl, by rw [hsuc, List.map_append, List.map_singleton]; rfl⟩
  · obtain rfl : j = 8 := by omega
    refine zc (zz (id := .loc 900) rfl rfl rfl) ?_
    repeat' (first | refine wC ?_ | refine wK ?_ | fail)
    refine zc (za [0, 2, 3, 5] [.loc 2, .loc 3] rfl rfl) ?_
    refine zi (fun q env st => (q = 3 ∧ env = EnvL.get [(0, .t (.str s)), (2, .ref (.loc 2) 0 0 0), (3, .ref (.loc 3) 0 0 0), (5, .t (.int .i64 1))] ∧ st = StO.get [(.loc 2, some (.var 81 [.t .nilsl, .t .nilsl, .t .nilsl, .t .nilsl])), (.loc 3, some (.var 81 [.t (.sl 1 ((zC s 0 8).map .str)), .t .nilsl, .t .nilsl, .t .nilsl]))]) ∨ (q = 2 ∧ env = EnvL.get [(0, .t (.str s)), (2, .ref (.loc 2) 0 0 0), (3, .ref (.loc 3) 0 0 0), (5, .t (.int .i64 2))] ∧ st = StO.get [(.loc 2, some (.var 81 [.t .nilsl, .t .nilsl, .t .nilsl, .t .nilsl])), (.loc 3, some (.var 81 [.t (.sl 1 ((zC s 0 8).map .str)), .t (.sl 1 ((zC s 1 4).map .str)), .t .nilsl, .t .nilsl]))]) ∨ (q = 1 ∧ env = EnvL.get [(0, .t (.str s)), (2, .ref (.loc 2) 0 0 0), (3, .ref (.loc 3) 0 0 0), (5, .t (.int .i64 3))] ∧ st = StO.get [(.loc 2, some (.var 81 [.t .nilsl, .t .nilsl, .t .nilsl, .t .nilsl])), (.loc 3, some (.var 81 [.t (.sl 1 ((zC s 0 8).map .str)), .t (.sl 1 ((zC s 1 4).map .str)), .t (.sl 1 ((zC s 2 2).map .str)), .t .nilsl]))]) ∨ (q = 0 ∧ env = EnvL.get [(0, .t (.str s)), (2, .ref (.loc 2) 0 0 0), (3, .ref (.loc 3) 0 0 0), (5, .t (.int .i64 4))] ∧ st = StO.get [(.loc 2, some (.var 81 [.t .nilsl, .t .nilsl, .t .nilsl, .t .nilsl])), (.loc 3, some (.var 81 [.t (.sl 1 ((zC s 0 8).map .str)), .t (.sl 1 ((zC s 1 4).map .str)), .t (.sl 1 ((zC s 2 2).map .str)), .t (.sl 1 ((zC s 3 1).map .str))]))]))
      ?_ (n := 3) (.inl ⟨rfl, rfl, rfl⟩)
    rintro q env st (⟨rfl, rfl, rfl⟩ | ⟨rfl, rfl, rfl⟩ | ⟨rfl, rfl, rfl⟩ | ⟨rfl, rfl, rfl⟩)
    · repeat' (first | refine wC ?_ | refine wK ?_ | fail)
      refine zc (xt (r := .loc 3) 1 (.loc 901) 9 1 rfl rfl rfl rfl rfl) ?_
      refine zc (za [0, 2, 3, 5, 6] [.loc 2, .loc 3, .loc 901] rfl rfl) ?_
      refine zi (fun q env st => ∃ (m : Nat), m ≤ 4 ∧ q = 4 - m ∧ env = EnvL.get [(0, .t (.str s)), (2, .ref (.loc 2) 0 0 0), (3, .ref (.loc 3) 0 0 0), (5, .t (.int .i64 1)), (6, .t (.int .i64 ((2 * m : Nat) : Int)))] ∧ st = StO.get [(.loc 2, some (.var 81 [.t .nilsl, .t .nilsl, .t .nilsl, .t .nilsl])), (.loc 3, some (.var 81 [.t (.sl 1 ((zC s 0 8).map .str)), .row (.loc 901), .t .nilsl, .t .nilsl])), (.loc 901, some (.slt 9 1 ((zC s 1 m).map .str)))])
        ?_ (n := 4) ⟨0, by omega, rfl, rfl, rfl⟩
      rintro q env st ⟨m, hm, rfl, rfl, rfl⟩
      have wm : IntKind.i64.wrap (((2 * m : Nat) : Int) + 2) = ((2 * (m + 1) : Nat) : Int) := by rw [zl (by omega) (by omega)]; omega
      have wm1 : IntKind.i64.wrap (((2 * m : Nat) : Int) + 1) = ((2 * m + 1 : Nat) : Int) := by rw [zl (by omega) (by omega)]; omega
      by_cases hlm : m < 4
      · have hI := q9 (ktL s 0 (2 * m)) (ktL s 0 (2 * m + 1)) (by rw [zJ]; omega) (by rw [zJ]; omega)
        have hsuc := yZ s 1 m
        have hln := zV s 1 m
        rw [show ktL s 1 m = qE (ktL s 0 (2 * m)) (ktL s 0 (2 * m + 1)) from rfl] at hsuc
        rw [← xD s 0 8 (i := ((2 * m : Nat) : Int)) rfl (by omega), ← xD s 0 8 wm1 (by omega)] at hI hsuc
        generalize qE ((zC s 0 8).getD ((2 * m : Nat) : Int).toNat default) ((zC s 0 8).getD (IntKind.i64.wrap (((2 * m : Nat) : Int) + 1)).toNat default) = Y at *
        repeat' (first | refine wC ?_ | (exfalso; omega) | refine wK ?_ | ((with_reducible refine zj ?_); first | refine zg rfl rfl rfl rfl rfl rfl ?_ ?_ ?_ | refine zu rfl rfl rfl rfl rfl rfl ?_ ?_ ?_) | ((with_reducible refine zR ?_); refine zt rfl rfl rfl rfl rfl rfl rfl rfl rfl rfl ?_ ?_ ?_) | ((with_reducible refine zk ?_); refine wL hI ?_) | refine zo rfl ?_ ?_ <;> intro hc | fail)
        all_goals try (simp only [List.length_map, List.length_cons, List.length_nil]; omega)
        all_goals try omega
        all_goals first | decide | skip
        all_goals exact zD (n' := 4 - (m + 1)) (by omega) ((za [0, 2, 3, 5, 6] [.loc 2, .loc 3, .loc 53] rfl rfl).trans (zq (.loc 53) (.loc 901) rfl rfl rfl rfl)) ⟨m + 1, by omega, rfl, by rw [wm]; rfl, by rw [hsuc, List.map_append, List.map_singleton]; rfl⟩
      · obtain rfl : m = 4 := by omega
        refine zc (zz (id := .loc 901) rfl rfl rfl) ?_
        repeat' (first | refine wC ?_ | refine wK ?_ | ((with_reducible refine zj ?_); refine zu rfl rfl rfl rfl rfl rfl ?_ ?_ ?_) | fail)
        all_goals try omega
        all_goals first | decide | skip
        all_goals exact zD (n' := 2) (by omega) (za [0, 2, 3, 5] [.loc 2, .loc 3] rfl rfl) (.inr (.inl ⟨rfl, rfl, rfl⟩))
    · repeat' (first | refine wC ?_ | refine wK ?_ | fail)
      refine zc (xt (r := .loc 3) 2 (.loc 901) 9 1 rfl rfl rfl rfl rfl) ?_
      refine zc (za [0, 2, 3, 5, 6] [.loc 2, .loc 3, .loc 901] rfl rfl) ?_
      refine zi (fun q env st => ∃ (m : Nat), m ≤ 2 ∧ q = 2 - m ∧ env = EnvL.get [(0, .t (.str s)), (2, .ref (.loc 2) 0 0 0), (3, .ref (.loc 3) 0 0 0), (5, .t (.int .i64 2)), (6, .t (.int .i64 ((2 * m : Nat) : Int)))] ∧ st = StO.get [(.loc 2, some (.var 81 [.t .nilsl, .t .nilsl, .t .nilsl, .t .nilsl])), (.loc 3, some (.var 81 [.t (.sl 1 ((zC s 0 8).map .str)), .t (.sl 1 ((zC s 1 4).map .str)), .row (.loc 901), .t .nilsl])), (.loc 901, some (.slt 9 1 ((zC s 2 m).map .str)))])
        ?_ (n := 2) ⟨0, by omega, rfl, rfl, rfl⟩
      rintro q env st ⟨m, hm, rfl, rfl, rfl⟩
      have wm : IntKind.i64.wrap (((2 * m : Nat) : Int) + 2) = ((2 * (m + 1) : Nat) : Int) := by rw [zl (by omega) (by omega)]; omega
      have wm1 : IntKind.i64.wrap (((2 * m : Nat) : Int) + 1) = ((2 * m + 1 : Nat) : Int) := by rw [zl (by omega) (by omega)]; omega
      by_cases hlm : m < 2
      · have hI := q9 (ktL s 1 (2 * m)) (ktL s 1 (2 * m + 1)) (by rw [zJ]; omega) (by rw [zJ]; omega)
        have hsuc := yZ s 2 m
        have hln := zV s 2 m
        rw [show ktL s 2 m = qE (ktL s 1 (2 * m)) (ktL s 1 (2 * m + 1)) from rfl] at hsuc
        rw [← xD s 1 4 (i := ((2 * m : Nat) : Int)) rfl (by omega), ← xD s 1 4 wm1 (by omega)] at hI hsuc
        generalize qE ((zC s 1 4).getD ((2 * m : Nat) : Int).toNat default) ((zC s 1 4).getD (IntKind.i64.wrap (((2 * m : Nat) : Int) + 1)).toNat default) = Y at *
        repeat' (first | refine wC ?_ | (exfalso; omega) | refine wK ?_ | ((with_reducible refine zj ?_); first | refine zg rfl rfl rfl rfl rfl rfl ?_ ?_ ?_ | refine zu rfl rfl rfl rfl rfl rfl ?_ ?_ ?_) | ((with_reducible refine zR ?_); refine zt rfl rfl rfl rfl rfl rfl rfl rfl rfl rfl ?_ ?_ ?_) | ((with_reducible refine zk ?_); refine wL hI ?_) | refine zo rfl ?_ ?_ <;> intro hc | fail)
        all_goals try (simp only [List.length_map, List.length_cons, List.length_nil]; omega)
        all_goals try omega
        all_goals first | decide | skip
        all_goals exact zD (n' := 2 - (m + 1)) (by omega) ((za [0, 2, 3, 5, 6] [.loc 2, .loc 3, .loc 53] rfl rfl).trans (zq (.loc 53) (.loc 901) rfl rfl rfl rfl)) ⟨m + 1, by omega, rfl, by rw [wm]; rfl, by rw [hsuc, List.map_append, List.map_singleton]; rfl⟩
      · obtain rfl : m = 2 := by omega
        refine zc (zz (id := .loc 901) rfl rfl rfl) ?_
        repeat' (first | refine wC ?_ | refine wK ?_ | ((with_reducible refine zj ?_); refine zu rfl rfl rfl rfl rfl rfl ?_ ?_ ?_) | fail)
        all_goals try omega
        all_goals first | decide | skip
        all_goals exact zD (n' := 1) (by omega) (za [0, 2, 3, 5] [.loc 2, .loc 3] rfl rfl) (.inr (.inr (.inl ⟨rfl, rfl, rfl⟩)))
    · repeat' (first | refine wC ?_ | refine wK ?_ | fail)
      refine zc (xt (r := .loc 3) 3 (.loc 901) 9 1 rfl rfl rfl rfl rfl) ?_
      refine zc (za [0, 2, 3, 5, 6] [.loc 2, .loc 3, .loc 901] rfl rfl) ?_
      refine zi (fun q env st => ∃ (m : Nat), m ≤ 1 ∧ q = 1 - m ∧ env = EnvL.get [(0, .t (.str s)), (2, .ref (.loc 2) 0 0 0), (3, .ref (.loc 3) 0 0 0), (5, .t (.int .i64 3)), (6, .t (.int .i64 ((2 * m : Nat) : Int)))] ∧ st = StO.get [(.loc 2, some (.var 81 [.t .nilsl, .t .nilsl, .t .nilsl, .t .nilsl])), (.loc 3, some (.var 81 [.t (.sl 1 ((zC s 0 8).map .str)), .t (.sl 1 ((zC s 1 4).map .str)), .t (.sl 1 ((zC s 2 2).map .str)), .row (.loc 901)])), (.loc 901, some (.slt 9 1 ((zC s 3 m).map .str)))])
        ?_ (n := 1) ⟨0, by omega, rfl, rfl, rfl⟩
      rintro q env st ⟨m, hm, rfl, rfl, rfl⟩
      have wm : IntKind.i64.wrap (((2 * m : Nat) : Int) + 2) = ((2 * (m + 1) : Nat) : Int) := by rw [zl (by omega) (by omega)]; omega
      have wm1 : IntKind.i64.wrap (((2 * m : Nat) : Int) + 1) = ((2 * m + 1 : Nat) : Int) := by rw [zl (by omega) (by omega)]; omega
      by_cases hlm : m < 1
      · have hI := q9 (ktL s 2 (2 * m)) (ktL s 2 (2 * m + 1)) (by rw [zJ]; omega) (by rw [zJ]; omega)
        have hsuc := yZ s 3 m
        have hln := zV s 3 m
        rw [show ktL s 3 m = qE (ktL s 2 (2 * m)) (ktL s 2 (2 * m + 1)) from rfl] at hsuc
        rw [← xD s 2 2 (i := ((2 * m : Nat) : Int)) rfl (by omega), ← xD s 2 2 wm1 (by omega)] at hI hsuc
        generalize qE ((zC s 2 2).getD ((2 * m : Nat) : Int).toNat default) ((zC s 2 2).getD (IntKind.i64.wrap (((2 * m : Nat) : Int) + 1)).toNat default) = Y at *
        repeat' (first | refine wC ?_ | (exfalso; omega) | refine wK ?_ | ((with_reducible refine zj ?_); first | refine zg rfl rfl rfl rfl rfl rfl ?_ ?_ ?_ | refine zu rfl rfl rfl rfl rfl rfl ?_ ?_ ?_) | ((with_reducible refine zR ?_); refine zt rfl rfl rfl rfl rfl rfl rfl rfl rfl rfl ?_ ?_ ?_) | ((with_reducible refine zk ?_); refine wL hI ?_) | refine zo rfl ?_ ?_ <;> intro hc | fail)
        all_goals try (simp only [List.length_map, List.length_cons, List.length_nil]; omega)
        all_goals try omega
        all_goals first | decide | skip
        all_goals exact zD (n' := 1 - (m + 1)) (by omega) ((za [0, 2, 3, 5, 6] [.loc 2, .loc 3, .loc 53] rfl rfl).trans (zq (.loc 53) (.loc 901) rfl rfl rfl rfl)) ⟨m + 1, by omega, rfl, by rw [wm]; rfl, by rw [hsuc, List.map_append, List.map_singleton]; rfl⟩
      · obtain rfl : m = 1 := by omega
        refine zc (zz (id := .loc 901) rfl rfl rfl) ?_
        repeat' (first | refine wC ?_ | refine wK ?_ | ((with_reducible refine zj ?_); refine zu rfl rfl rfl rfl rfl rfl ?_ ?_ ?_) | fail)
        all_goals try omega
        all_goals first | decide | skip
        all_goals exact zD (n' := 0) (by omega) (za [0, 2, 3, 5] [.loc 2, .loc 3] rfl rfl) (.inr (.inr (.inr ⟨rfl, rfl, rfl⟩)))
    · repeat' (first | refine wC ?_ | refine wK ?_ | fail)
      exact wD
set_option maxHeartbeats 4000000 in
theorem zbp (s : ByteArray) (hs : s.size ≤ 900000) : Spec Tryz.prog 29 [.t (.str s)] [] (.t (.str (ktP s))) [] := by
  have hT := zbB s hs
  have hz := zJ s 3 0
  have hR := zgg (ktL s 3 0) (by omega)
  have l3 := zV s 3 1
  rw [show zfr (ktL s 3 0) = ktP s from rfl, ← xD s 3 1 (i := 0) (m := 0) rfl (by omega)] at hR
  generalize ktP s = Y at *
  generalize zC s 0 8 = r0 at *
  generalize zC s 1 4 = r1 at *
  generalize zC s 2 2 = r2 at *
  generalize zC s 3 1 = r3 at *
  clear hz
  refine wI Tryz.func29 ?_
  repeat' (first | refine wC ?_ | refine wK ?_ | ((with_reducible refine zj ?_); refine zg rfl rfl rfl rfl rfl rfl ?_ ?_ ?_) | ((with_reducible refine zk ?_); first | refine wL hT ?_ | refine wL hR ?_) | ((with_reducible refine yu ?_); refine kq rfl rfl rfl rfl rfl rfl rfl rfl ?_ ?_ ?_) | fail)
  all_goals try (simp only [List.length_map]; omega)
  all_goals try omega
  all_goals try decide
  all_goals try rfl
  all_goals exact zE (zh rfl rfl rfl) (by simp)
set_option maxHeartbeats 2000000 in
theorem zaz (s : ByteArray) (hs : s.size ≤ 900000) : Spec Tryz.prog 17 [.t (.str s)] [] (.t (.str (vc 2 (ktP s)))) [] := by
  have hP := zbp s hs
  have hM := zct 2 (by omega) (by omega) (ktP s) (by rw [wX]; rfl)
  generalize vc 2 (ktP s) = Z at *
  generalize ktP s = Y at *
  refine wI Tryz.func17 ?_
  repeat' (first | refine wC ?_ | refine wK ?_ | ((with_reducible refine zk ?_); first | refine wL hP ?_ | refine wL hM ?_) | fail)
  exact zE (zh rfl rfl rfl) (by simp)
theorem xk0 : ∀ u : Fin 8, IntKind.i64.wrap ((BitVec.ofInt IntKind.i64.bits ((u.val : Int) / 2 ^ min (Int.toNat 0) IntKind.i64.bits) ^^^ BitVec.ofInt IntKind.i64.bits 1).toNat : Int) = ((u.val / 2 ^ 0 ^^^ 1 : Nat) : Int) ∧ u.val / 2 ^ 0 ^^^ 1 < 8 := by decide
theorem xk1 : ∀ u : Fin 8, IntKind.i64.wrap ((BitVec.ofInt IntKind.i64.bits ((u.val : Int) / 2 ^ min (Int.toNat 1) IntKind.i64.bits) ^^^ BitVec.ofInt IntKind.i64.bits 1).toNat : Int) = ((u.val / 2 ^ 1 ^^^ 1 : Nat) : Int) ∧ u.val / 2 ^ 1 ^^^ 1 < 4 := by decide
theorem xk2 : ∀ u : Fin 8, IntKind.i64.wrap ((BitVec.ofInt IntKind.i64.bits ((u.val : Int) / 2 ^ min (Int.toNat 2) IntKind.i64.bits) ^^^ BitVec.ofInt IntKind.i64.bits 1).toNat : Int) = ((u.val / 2 ^ 2 ^^^ 1 : Nat) : Int) ∧ u.val / 2 ^ 2 ^^^ 1 < 2 := by decide
set_option maxHeartbeats 16000000 in
theorem zc8 (s m : ByteArray) (u : Nat) (hu : u < 8) (hs : s.size ≤ 900000) (hm : m.size ≤ 900000) : Spec Tryz.prog 41 [.t (.str s), .t (.int .i64 (u : Int)), .t (.str m)] [] (.tup [.t (.str (ktS s u m)), .t (.int .i64 0)]) [] := by
  have hT := zbB s hs
  have hD := jq s (u : Int) hs
  have z := qG s (u : Int)
  have hG := zft (xU s (u : Int)) m (by omega) hm
  have zG := qk (xU s (u : Int)) m
  have zB := qm (u : Int)
  have l0 := zV s 0 8
  have l1 := zV s 1 4
  have l2 := zV s 2 2
  have b0 : ktB s u 0 = ktL s 0 (u / 2 ^ 0 ^^^ 1) := rfl
  have b1 : ktB s u 1 = ktL s 1 (u / 2 ^ 1 ^^^ 1) := rfl
  have b2 : ktB s u 2 = ktL s 2 (u / 2 ^ 2 ^^^ 1) := rfl
  unfold ktS
  generalize zfo (xU s (u : Int)) m = Y at *
  generalize xU s (u : Int) = D at *
  unfold byS at zB ⊢
  refine wI Tryz.func41 ?_
  repeat' (first | refine wC ?_ | (exfalso; omega) | refine wK ?_ | ((with_reducible refine zU ?_); refine zL rfl rfl rfl rfl rfl rfl ?_ ?_) | ((with_reducible refine zY ?_); refine zF rfl rfl rfl rfl rfl rfl ?_ ?_) | ((with_reducible refine zk ?_); first | refine wL hT ?_ | refine wL hD ?_ | refine wL hG ?_) | refine zo rfl ?_ ?_ <;> intro hc | fail)
  all_goals try exact kW _
  all_goals try omega
  obtain ⟨A, hA⟩ : ∃ A : ByteArray, A = vL [T.int .u8 (IntKind.u8.wrap (u : Int))] ++ Y := ⟨_, rfl⟩
  have zA : A.size = 577 := by rw [hA, ByteArray.size_append]; omega
  rw [← hA]
  clear hA hG
  have y0 := zJ s 0 (u / 2 ^ 0 ^^^ 1)
  have y1 := zJ s 1 (u / 2 ^ 1 ^^^ 1)
  have y2 := zJ s 2 (u / 2 ^ 2 ^^^ 1)
  rw [← b0] at y0
  rw [← b1] at y1
  rw [← b2] at y2
  refine zc (za [1, 6, 7, 8, 9, 29] [.loc 9] rfl rfl) ?_
  refine zi (fun q env st => (q = 3 ∧ env = EnvL.get [(1, .t (.int .i64 (u : Int))), (6, .t (.str ⟨#[]⟩)), (7, .t (.int .i64 0)), (8, .t (.str (A))), (9, .ref (.loc 9) 0 0 0), (29, .t (.int .i64 0))] ∧ st = StO.get [(.loc 9, some (.var 81 [.t (.sl 1 ((zC s 0 8).map .str)), .t (.sl 1 ((zC s 1 4).map .str)), .t (.sl 1 ((zC s 2 2).map .str)), .t (.sl 1 ((zC s 3 1).map .str))]))]) ∨ (q = 2 ∧ env = EnvL.get [(1, .t (.int .i64 (u : Int))), (6, .t (.str ⟨#[]⟩)), (7, .t (.int .i64 0)), (8, .t (.str (A ++ ktB s u 0))), (9, .ref (.loc 9) 0 0 0), (29, .t (.int .i64 1))] ∧ st = StO.get [(.loc 9, some (.var 81 [.t (.sl 1 ((zC s 0 8).map .str)), .t (.sl 1 ((zC s 1 4).map .str)), .t (.sl 1 ((zC s 2 2).map .str)), .t (.sl 1 ((zC s 3 1).map .str))]))]) ∨ (q = 1 ∧ env = EnvL.get [(1, .t (.int .i64 (u : Int))), (6, .t (.str ⟨#[]⟩)), (7, .t (.int .i64 0)), (8, .t (.str (A ++ ktB s u 0 ++ ktB s u 1))), (9, .ref (.loc 9) 0 0 0), (29, .t (.int .i64 2))] ∧ st = StO.get [(.loc 9, some (.var 81 [.t (.sl 1 ((zC s 0 8).map .str)), .t (.sl 1 ((zC s 1 4).map .str)), .t (.sl 1 ((zC s 2 2).map .str)), .t (.sl 1 ((zC s 3 1).map .str))]))]) ∨ (q = 0 ∧ env = EnvL.get [(1, .t (.int .i64 (u : Int))), (6, .t (.str ⟨#[]⟩)), (7, .t (.int .i64 0)), (8, .t (.str (A ++ ktB s u 0 ++ ktB s u 1 ++ ktB s u 2))), (9, .ref (.loc 9) 0 0 0), (29, .t (.int .i64 3))] ∧ st = StO.get [(.loc 9, some (.var 81 [.t (.sl 1 ((zC s 0 8).map .str)), .t (.sl 1 ((zC s 1 4).map .str)), .t (.sl 1 ((zC s 2 2).map .str)), .t (.sl 1 ((zC s 3 1).map .str))]))]))
    ?_ (n := 3) (.inl ⟨rfl, rfl, rfl⟩)
  rintro q env st (⟨rfl, rfl, rfl⟩ | ⟨rfl, rfl, rfl⟩ | ⟨rfl, rfl, rfl⟩ | ⟨rfl, rfl, rfl⟩)
  · repeat' (first | refine wC ?_ | refine wK ?_ | ((with_reducible refine zU ?_); refine zL rfl rfl rfl rfl rfl rfl ?_ ?_) | ((with_reducible refine zj ?_); first | refine zg rfl rfl rfl rfl rfl rfl ?_ ?_ ?_ | refine zu rfl rfl rfl rfl rfl rfl ?_ ?_ ?_) | fail)
    all_goals first | decide | skip
    all_goals (
      obtain ⟨hx, hxl⟩ := xk0 ⟨u, hu⟩
      simp only at hx hxl
      have hr : (zC s 0 8).getD (IntKind.i64.wrap ((BitVec.ofInt IntKind.i64.bits ((u : Int) / 2 ^ min (Int.toNat 0) IntKind.i64.bits) ^^^ BitVec.ofInt IntKind.i64.bits 1).toNat : Int)).toNat default = ktB s u 0 := by rw [xD s 0 8 hx hxl]; rfl
      first
        | (rw [hx]; exact Int.natCast_nonneg _)
        | (rw [hx, zV]; exact Int.ofNat_lt.2 hxl)
        | (rw [hr]; clear hx hr; (try simp only [ByteArray.size_append]); omega)
        | exact zD (n' := 2) (by omega) (za [1, 6, 7, 8, 9, 29] [.loc 9] rfl rfl) (.inr (.inl ⟨rfl, by rw [hr]; rfl, rfl⟩)))
  · repeat' (first | refine wC ?_ | refine wK ?_ | ((with_reducible refine zU ?_); refine zL rfl rfl rfl rfl rfl rfl ?_ ?_) | ((with_reducible refine zj ?_); first | refine zg rfl rfl rfl rfl rfl rfl ?_ ?_ ?_ | refine zu rfl rfl rfl rfl rfl rfl ?_ ?_ ?_) | fail)
    all_goals first | decide | skip
    all_goals (
      obtain ⟨hx, hxl⟩ := xk1 ⟨u, hu⟩
      simp only at hx hxl
      have hr : (zC s 1 4).getD (IntKind.i64.wrap ((BitVec.ofInt IntKind.i64.bits ((u : Int) / 2 ^ min (Int.toNat 1) IntKind.i64.bits) ^^^ BitVec.ofInt IntKind.i64.bits 1).toNat : Int)).toNat default = ktB s u 1 := by rw [xD s 1 4 hx hxl]; rfl
      first
        | (rw [hx]; exact Int.natCast_nonneg _)
        | (rw [hx, zV]; exact Int.ofNat_lt.2 hxl)
        | (rw [hr]; clear hx hr; (try simp only [ByteArray.size_append]); omega)
        | exact zD (n' := 1) (by omega) (za [1, 6, 7, 8, 9, 29] [.loc 9] rfl rfl) (.inr (.inr (.inl ⟨rfl, by rw [hr]; rfl, rfl⟩))))
  · repeat' (first | refine wC ?_ | refine wK ?_ | ((with_reducible refine zU ?_); refine zL rfl rfl rfl rfl rfl rfl ?_ ?_) | ((with_reducible refine zj ?_); first | refine zg rfl rfl rfl rfl rfl rfl ?_ ?_ ?_ | refine zu rfl rfl rfl rfl rfl rfl ?_ ?_ ?_) | fail)
    all_goals first | decide | skip
    all_goals (
      obtain ⟨hx, hxl⟩ := xk2 ⟨u, hu⟩
      simp only at hx hxl
      have hr : (zC s 2 2).getD (IntKind.i64.wrap ((BitVec.ofInt IntKind.i64.bits ((u : Int) / 2 ^ min (Int.toNat 2) IntKind.i64.bits) ^^^ BitVec.ofInt IntKind.i64.bits 1).toNat : Int)).toNat default = ktB s u 2 := by rw [xD s 2 2 hx hxl]; rfl
      first
        | (rw [hx]; exact Int.natCast_nonneg _)
        | (rw [hx, zV]; exact Int.ofNat_lt.2 hxl)
        | (rw [hr]; clear hx hr; (try simp only [ByteArray.size_append]); omega)
        | exact zD (n' := 0) (by omega) (za [1, 6, 7, 8, 9, 29] [.loc 9] rfl rfl) (.inr (.inr (.inr ⟨rfl, by rw [hr]; rfl, rfl⟩))))
  · repeat' (first | refine wC ?_ | refine wK ?_ | fail)
    all_goals exact zE (yd rfl rfl rfl rfl rfl) (by simp)
end Go.AL
namespace Go.AL
open Go Go.RowKit
theorem zaQ (a b k : Nat) (hb : b < 2 ^ k) (h : a * 2 ^ k + b < 2 ^ 62) : zhY ((a * 2 ^ k : Nat) : Int) (b : Int) = ((a * 2 ^ k + b : Nat) : Int) := by
  have e : (2 : Nat) ^ 62 < 2 ^ 64 := by decide
  unfold zhY w64
  rw [BitVec.ofInt_natCast, BitVec.ofInt_natCast, BitVec.toNat_or, BitVec.toNat_ofNat, BitVec.toNat_ofNat, Nat.mod_eq_of_lt (by omega), Nat.mod_eq_of_lt (by omega), ← Nat.shiftLeft_eq, ← Nat.shiftLeft_add_eq_or_of_lt hb, Nat.shiftLeft_eq]
  have : (2 : Nat) ^ 62 = 4611686018427387904 := by decide
  exact zl (by omega) (by omega)
theorem ja (n : Nat) (h : n < 16777216) : zca (n : Int) 63 = ((n % 64 : Nat) : Int) := by
  unfold zca w64
  rw [show (63 : Int) = ((63 : Nat) : Int) from rfl, BitVec.ofInt_natCast, BitVec.ofInt_natCast, BitVec.toNat_and, BitVec.toNat_ofNat, BitVec.toNat_ofNat, Nat.mod_eq_of_lt (by omega), show 63 % 2 ^ 64 = 2 ^ 6 - 1 from rfl, Nat.and_two_pow_sub_one_eq_mod]
  exact zl (by omega) (by omega)
theorem zkh (a b c : Nat) (ha : a < 256) (hb : b < 256) (hc : c < 256) : n24 a b c = ((65536 * a + 256 * b + c : Nat) : Int) := by
  have e1 : (2 : Int) ^ min (16 : Int).toNat 64 = 65536 := by decide
  have e2 : (2 : Int) ^ min (8 : Int).toNat 64 = 256 := by decide
  unfold n24
  rw [e1, e2]
  unfold w64
  rw [zl (n := (a : Int)) (by omega) (by omega), zl (n := (b : Int)) (by omega) (by omega), zl (n := (c : Int)) (by omega) (by omega), zl (n := (a : Int) * 65536) (by omega) (by omega), zl (n := (b : Int) * 256) (by omega) (by omega)]
  have h1 := zaQ a (b * 256) 16 (by omega) (by omega)
  rw [show ((a * 2 ^ 16 : Nat) : Int) = (a : Int) * 65536 by omega, show ((b * 256 : Nat) : Int) = (b : Int) * 256 by omega] at h1
  rw [h1]
  have h2 := zaQ (a * 256 + b) c 8 (by omega) (by omega)
  rw [show ((a * 2 ^ 16 + b * 256 : Nat) : Int) = (((a * 256 + b) * 2 ^ 8 : Nat) : Int) by omega, h2]
  omega
theorem zhM (m v : Nat) (hv : v < 64) (hm : m < 1048576) : zhY (IntKind.i64.wrap ((m : Int) * 2 ^ min (6 : Int).toNat IntKind.i64.bits)) (v : Int) = ((64 * m + v : Nat) : Int) := by
  rw [show (2 : Int) ^ min (6 : Int).toNat IntKind.i64.bits = 64 by decide, zl (by omega) (by omega)]
  have h := zaQ m v 6 (by omega) (by omega)
  rw [show ((m * 2 ^ 6 : Nat) : Int) = (m : Int) * 64 by omega] at h
  rw [h]
  omega
def dgN (N i : Nat) : Nat := N / 2 ^ (18 - 6 * i) % 64
theorem zao (N i : Nat) : dgN N i < 64 := Nat.mod_lt _ (by decide)
theorem zje (N : Nat) (h : N < 16777216) : zi7 (N : Int) = [.int .u8 (bAt wc (dgN N 0 : Nat)), .int .u8 (bAt wc (dgN N 1 : Nat)), .int .u8 (bAt wc (dgN N 2 : Nat)), .int .u8 (bAt wc (dgN N 3 : Nat))] := by
  unfold zi7
  rw [show (2 : Int) ^ min (18 : Int).toNat 64 = 262144 by decide, show (2 : Int) ^ min (12 : Int).toNat 64 = 4096 by decide, show (2 : Int) ^ min (6 : Int).toNat 64 = 64 by decide]
  have q0 : (N : Int) / 262144 = ((dgN N 0 : Nat) : Int) := by unfold dgN; simp only [Nat.mul_zero, Nat.sub_zero]; omega
  have q1 : (N : Int) / 4096 = ((N / 4096 : Nat) : Int) := by omega
  have q2 : (N : Int) / 64 = ((N / 64 : Nat) : Int) := by omega
  rw [q0, q1, q2, ja _ (by omega), ja _ (by omega), ja _ h, show dgN N 1 = N / 4096 % 64 from by simp [dgN], show dgN N 2 = N / 64 % 64 from by simp [dgN], show dgN N 3 = N % 64 from by simp [dgN]]
theorem xC (N i : Nat) (hi : i < 4) (h : N < 16777216) : N / 2 ^ (18 - 6 * i) = 64 * (N / 2 ^ (24 - 6 * i)) + dgN N i := by
  unfold dgN
  have : i = 0 ∨ i = 1 ∨ i = 2 ∨ i = 3 := by omega
  rcases this with rfl | rfl | rfl | rfl <;> simp only [Nat.mul_zero, Nat.sub_zero, Nat.mul_one, Nat.reduceMul, Nat.reduceSub, Nat.reducePow] <;> omega
def alC (v : Nat) : UInt8 := wc.data.toList.getD v 0
theorem zjn (v : Nat) : bAt wc (v : Int) = ((alC v).toNat : Int) := rfl
def qdB (N : Nat) : List UInt8 := [alC (dgN N 0), alC (dgN N 1), alC (dgN N 2), alC (dgN N 3)]
def j4 : Nat → List UInt8 → List UInt8
  | k + 1, a :: b :: c :: l => qdB (65536 * a.toNat + 256 * b.toNat + c.toNat) ++ j4 k l
  | _, _ => []
def N3 (l : List UInt8) (j : Nat) : Nat := 65536 * (l.getD (3 * j) 0).toNat + 256 * (l.getD (3 * j + 1) 0).toNat + (l.getD (3 * j + 2) 0).toNat
theorem ziJ (l : List UInt8) (j : Nat) : N3 l j < 16777216 := by
  unfold N3
  have h1 := (l.getD (3 * j) 0).toNat_lt
  have h2 := (l.getD (3 * j + 1) 0).toNat_lt
  have h3 := (l.getD (3 * j + 2) 0).toNat_lt
  omega
theorem za0 : ∀ (k j i : Nat) (l : List UInt8), l.length = 3 * k → j < k → i < 4 → (j4 k l).getD (4 * j + i) 0 = alC (dgN (N3 l j) i)
  | 0, j, i, l, _, hj, _ => by omega
  | k + 1, j, i, a :: b :: c :: l, hl, hj, hi => by
    rw [j4]
    cases j with
    | zero =>
      have : i = 0 ∨ i = 1 ∨ i = 2 ∨ i = 3 := by omega
      rcases this with rfl | rfl | rfl | rfl <;> rfl
    | succ j =>
      have ih := za0 k j i l (by simp only [List.length_cons] at hl; omega) (by omega) hi
      have e : N3 (a :: b :: c :: l) (j + 1) = N3 l j := by
        unfold N3
        rw [show 3 * (j + 1) = 3 * j + 1 + 1 + 1 by omega]
        rfl
      rw [e, ← ih, show 4 * (j + 1) + i = (qdB (65536 * a.toNat + 256 * b.toNat + c.toNat)).length + (4 * j + i) by simp [qdB]; omega]
      rw [List.getD_eq_getElem?_getD, List.getD_eq_getElem?_getD, List.getElem?_append_right (by omega), Nat.add_sub_cancel_left]
  | k + 1, j, i, [], hl, _, _ => by simp at hl
  | k + 1, j, i, [_], hl, _, _ => by simp at hl; omega
  | k + 1, j, i, [_, _], hl, _, _ => by simp at hl; omega
theorem k6 : ∀ (k : Nat) (l : List UInt8), l.length = 3 * k → (j4 k l).length = 4 * k
  | 0, l, _ => by cases l <;> rfl
  | k + 1, a :: b :: c :: l, hl => by
    rw [j4, List.length_append, k6 k l (by simp only [List.length_cons] at hl; omega)]
    simp [qdB]; omega
  | k + 1, [], hl => by simp at hl
  | k + 1, [_], hl => by simp at hl; omega
  | k + 1, [_, _], hl => by simp at hl; omega
theorem zaV (l : List UInt8) (j : Nat) : N3 l j / 65536 = (l.getD (3 * j) 0).toNat ∧ N3 l j / 256 % 256 = (l.getD (3 * j + 1) 0).toNat ∧ N3 l j % 256 = (l.getD (3 * j + 2) 0).toNat := by
  unfold N3
  have h1 := (l.getD (3 * j) 0).toNat_lt
  have h2 := (l.getD (3 * j + 1) 0).toNat_lt
  have h3 := (l.getD (3 * j + 2) 0).toNat_lt
  omega
end Go.AL
namespace Go.AL
open Go Go.Proofs Go.RowKit
theorem zhe : ∀ u : Fin 64, ∀ v : Fin 64, u.val < v.val → bAt wc (u.val : Int) ≠ bAt wc (v.val : Int) := by decide +kernel
set_option maxHeartbeats 4000000 in
theorem vI (v : Nat) (hv : v < 64) : Spec Tryz.prog 79 [.t (.int .u8 (bAt wc (v : Int)))] [] (.tup [.t (.int .i64 (v : Int)), .t (.bool true)]) [] := by
  have hne : ∀ u : Nat, u < v → bAt wc (u : Int) ≠ bAt wc (v : Int) := fun u h => zhe ⟨u, by omega⟩ ⟨v, hv⟩ h
  have hz : (wc.size : Int) = 64 := zeO
  generalize hcv : bAt wc (v : Int) = c at *
  refine wI Tryz.func79 ?_
  repeat' (first | refine wC ?_ | refine wK ?_ | fail)
  refine zc (za [0, 2, 3, 5] [] rfl rfl) ?_
  refine zi (fun q env st => ∃ (j : Nat), j ≤ v ∧ q = v - j ∧ env = EnvL.get [(0, .t (.int .u8 c)), (2, .t (.int .i64 0)), (3, .t (.bool false)), (5, .t (.int .i64 (j : Int)))] ∧ st = StO.get [])
    ?_ (n := v) ⟨0, by omega, rfl, rfl, rfl⟩
  rintro q env st ⟨j, hj, rfl, rfl, rfl⟩
  have wj : IntKind.i64.wrap ((j : Int) + 1) = ((j + 1 : Nat) : Int) := by rw [zl (by omega) (by omega)]; omega
  by_cases hlt : j < v
  · have hn := hne j hlt
    repeat' (first | refine wC ?_ | (exfalso; omega) | exact absurd ‹_› hn | refine wK ?_ | ((with_reducible refine yu ?_); refine zQ rfl rfl rfl rfl rfl rfl ?_ ?_ ?_) | refine zo rfl ?_ ?_ <;> intro hc | fail)
    all_goals try (show ((j : Nat) : Int) < (wc.size : Int); omega)
    all_goals try omega
    all_goals first | exact absurd ‹_› hn | exact zD (n' := v - (j + 1)) (by omega) (za [0, 2, 3, 5] [] rfl rfl) ⟨j + 1, by omega, rfl, by rw [wj]; rfl, rfl⟩
  · obtain rfl : j = v := by omega
    repeat' (first | refine wC ?_ | (exfalso; omega) | exact absurd hcv ‹_› | refine wK ?_ | ((with_reducible refine yu ?_); refine zQ rfl rfl rfl rfl rfl rfl ?_ ?_ ?_) | refine zo rfl ?_ ?_ <;> intro hc | fail)
    all_goals try (show ((j : Nat) : Int) < (wc.size : Int); omega)
    all_goals try omega
    all_goals first | exact absurd hcv ‹_› | exact zE (k5 rfl (AVLE.refl _) (AVLE.refl _)) (by simp)
theorem zf1 : ∀ (k : Nat) (l : List UInt8), l.length = 3 * k → zeP k (ofL l) = (j4 k l).map u8T
  | 0, l, h => by cases l <;> rfl
  | k + 1, a :: b :: c :: l, h => by
    have ha := a.toNat_lt
    have hb := b.toNat_lt
    have hc := c.toNat_lt
    rw [zeP, j4, List.map_append]
    have e1 : bAt (ofL (a :: b :: c :: l)) 0 = (a.toNat : Int) := rfl
    have e2 : bAt (ofL (a :: b :: c :: l)) 1 = (b.toNat : Int) := rfl
    have e3 : bAt (ofL (a :: b :: c :: l)) 2 = (c.toNat : Int) := rfl
    rw [e1, e2, e3, zkh _ _ _ (by omega) (by omega) (by omega), zje _ (by omega), yE, xZ]
    rw [show ((a :: b :: c :: l).drop 3).take ((a :: b :: c :: l).length - 3) = l from by simp]
    rw [zf1 k l (by simp only [List.length_cons] at h; omega)]
    rfl
  | k + 1, [], h => by simp at h
  | k + 1, [_], h => by simp at h; omega
  | k + 1, [_, _], h => by simp at h; omega
theorem zk8 (l : List UInt8) (j : Nat) (h : 3 * j + 2 < l.length) : l.take (3 * (j + 1)) = l.take (3 * j) ++ [l.getD (3 * j) 0, l.getD (3 * j + 1) 0, l.getD (3 * j + 2) 0] := by
  rw [show 3 * (j + 1) = 3 * j + 1 + 1 + 1 by omega, List.take_add_one, List.take_add_one, List.take_add_one, List.getElem?_eq_getElem (by omega), List.getElem?_eq_getElem (by omega), List.getElem?_eq_getElem (by omega)]
  simp only [List.getD_eq_getElem?_getD]
  rw [List.getElem?_eq_getElem (by omega), List.getElem?_eq_getElem (by omega), List.getElem?_eq_getElem (by omega)]
  simp only [Option.toList_some, Option.getD_some, List.append_assoc, List.cons_append, List.nil_append]
set_option maxHeartbeats 16000000 in
theorem zfC (k : Nat) (l : List UInt8) (hl : l.length = 3 * k) (hk : k ≤ 1000) : Spec Tryz.prog 62 [.t (.str (ofL (j4 k l)))] [] (.tup [.t (.str (ofL l)), .t (.int .i64 0)]) [] := by
  obtain ⟨E, hE⟩ : ∃ E, E = ofL (j4 k l) := ⟨_, rfl⟩
  have hz : E.size = 4 * k := by rw [hE, xZ, k6 k l hl]
  have hat : ∀ j i : Nat, j < k → i < 4 → bAt E ((4 * j + i : Nat) : Int) = bAt wc ((dgN (N3 l j) i : Nat) : Int) := fun j i hj hi => by
    rw [hE, zjn, ← za0 k j i l hl hj hi]; rfl
  have hmod : (E.size : Int).tmod 4 = 0 := by rw [hz, Int.tmod_eq_emod_of_nonneg (by omega)]; omega
  rw [← hE]
  clear hE
  refine wI Tryz.func62 ?_
  repeat' (first | refine wC ?_ | (exfalso; omega) | refine wK ?_ | refine zo rfl ?_ ?_ <;> intro hc | refine yL rfl ?_ ?_ <;> intro hc | fail)
  all_goals first | omega | exact absurd hmod ‹_› | skip
  refine zc (yI 4 (.loc 900) 5 1 rfl rfl rfl) ?_
  refine zc (za [0, 2, 3, 4, 5] [.loc 900] rfl rfl) ?_
  refine zi (fun q env st => ∃ (j : Nat), j ≤ k ∧ q = k - j ∧ env = EnvL.get [(0, .t (.str E)), (2, .t (.str ⟨#[]⟩)), (3, .t (.int .i64 0)), (4, .row (.loc 900)), (5, .t (.int .i64 ((4 * j : Nat) : Int)))] ∧ st = StO.get [(.loc 900, some (.slt 5 1 ((l.take (3 * j)).map u8T)))])
    ?_ (n := k) ⟨0, by omega, rfl, rfl, rfl⟩
  rintro q env st ⟨j, hj, rfl, rfl, rfl⟩
  have wj : IntKind.i64.wrap (((4 * j : Nat) : Int) + 4) = ((4 * (j + 1) : Nat) : Int) := by rw [zl (by omega) (by omega)]; omega
  by_cases hlt : j < k
  · have hN := ziJ l j
    have b1 := zaV l j
    have s0 := xC (N3 l j) 0 (by omega) hN
    have s1 := xC (N3 l j) 1 (by omega) hN
    have s2 := xC (N3 l j) 2 (by omega) hN
    have s3 := xC (N3 l j) 3 (by omega) hN
    have d0 := zao (N3 l j) 0
    have d1 := zao (N3 l j) 1
    have d2 := zao (N3 l j) 2
    have d3 := zao (N3 l j) 3
    have v0 := vI _ d0
    have v1 := vI _ d1
    have v2 := vI _ d2
    have v3 := vI _ d3
    have w0 : IntKind.i64.wrap (((4 * j : Nat) : Int) + 0) = ((4 * j + 0 : Nat) : Int) := by rw [zl (by omega) (by omega)]; omega
    have w1 : IntKind.i64.wrap (((4 * j : Nat) : Int) + 1) = ((4 * j + 1 : Nat) : Int) := by rw [zl (by omega) (by omega)]; omega
    have w2 : IntKind.i64.wrap (((4 * j : Nat) : Int) + 2) = ((4 * j + 2 : Nat) : Int) := by rw [zl (by omega) (by omega)]; omega
    have w3 : IntKind.i64.wrap (((4 * j : Nat) : Int) + 3) = ((4 * j + 3 : Nat) : Int) := by rw [zl (by omega) (by omega)]; omega
    rw [← hat j 0 hlt (by omega), ← w0] at v0
    rw [← hat j 1 hlt (by omega), ← w1] at v1
    rw [← hat j 2 hlt (by omega), ← w2] at v2
    rw [← hat j 3 hlt (by omega), ← w3] at v3
    simp only [Nat.mul_zero, Nat.sub_zero, Nat.mul_one, Nat.reduceMul, Nat.reduceSub, Nat.reducePow, Nat.div_one] at s0 s1 s2 s3
    rw [show N3 l j / 16777216 = 0 by omega] at s0
    have t3 := zk8 l j (by omega)
    generalize dgN (N3 l j) 0 = D0 at *
    generalize dgN (N3 l j) 1 = D1 at *
    generalize dgN (N3 l j) 2 = D2 at *
    generalize dgN (N3 l j) 3 = D3 at *
    generalize l.getD (3 * j) 0 = B0 at *
    generalize l.getD (3 * j + 1) 0 = B1 at *
    generalize l.getD (3 * j + 2) 0 = B2 at *
    generalize N3 l j = N at *
    have g0 : 4 * j + 0 < E.size := by omega
    have g1 : 4 * j + 1 < E.size := by omega
    have g2 : 4 * j + 2 < E.size := by omega
    have g3 : 4 * j + 3 < E.size := by omega
    obtain ⟨m1, hm1⟩ : ∃ m, m = N / 262144 := ⟨_, rfl⟩
    obtain ⟨m2, hm2⟩ : ∃ m, m = N / 4096 := ⟨_, rfl⟩
    obtain ⟨m3, hm3⟩ : ∃ m, m = N / 64 := ⟨_, rfl⟩
    have x0 := zhM 0 D0 d0 (by omega)
    have x1 := zhM m1 D1 d1 (by omega)
    have x2 := zhM m2 D2 d2 (by omega)
    have x3 := zhM m3 D3 d3 (by omega)
    rw [show 64 * 0 + D0 = m1 by omega] at x0
    rw [show 64 * m1 + D1 = m2 by omega] at x1
    rw [show 64 * m2 + D2 = m3 by omega] at x2
    rw [show 64 * m3 + D3 = N by omega] at x3
    have z0 : IntKind.i64.wrap ((BitVec.ofInt IntKind.i64.bits (IntKind.i64.wrap (0 * 2 ^ min (Int.toNat 6) IntKind.i64.bits)) ||| BitVec.ofInt IntKind.i64.bits (D0 : Int)).toNat : Int) = (m1 : Int) := x0
    have z1 : IntKind.i64.wrap ((BitVec.ofInt IntKind.i64.bits (IntKind.i64.wrap ((m1 : Int) * 2 ^ min (Int.toNat 6) IntKind.i64.bits)) ||| BitVec.ofInt IntKind.i64.bits (D1 : Int)).toNat : Int) = (m2 : Int) := x1
    have z2 : IntKind.i64.wrap ((BitVec.ofInt IntKind.i64.bits (IntKind.i64.wrap ((m2 : Int) * 2 ^ min (Int.toNat 6) IntKind.i64.bits)) ||| BitVec.ofInt IntKind.i64.bits (D2 : Int)).toNat : Int) = (m3 : Int) := x2
    have z3 : IntKind.i64.wrap ((BitVec.ofInt IntKind.i64.bits (IntKind.i64.wrap ((m3 : Int) * 2 ^ min (Int.toNat 6) IntKind.i64.bits)) ||| BitVec.ofInt IntKind.i64.bits (D3 : Int)).toNat : Int) = (N : Int) := x3
    clear x0 x1 x2 x3
    have y0 : IntKind.u8.wrap ((N : Int) / 2 ^ min (Int.toNat 16) IntKind.i64.bits) = (B0.toNat : Int) := by
      rw [show (2 : Int) ^ min (Int.toNat 16) IntKind.i64.bits = 65536 by decide]
      show ((N : Int) / 65536).emod 256 = _
      have := B0.toNat_lt
      have h1 := b1.1
      have : (N : Int) / 65536 = ((N / 65536 : Nat) : Int) := by omega
      rw [this, h1]
      exact Int.emod_eq_of_lt (by omega) (by omega)
    have y1 : IntKind.u8.wrap ((N : Int) / 2 ^ min (Int.toNat 8) IntKind.i64.bits) = (B1.toNat : Int) := by
      rw [show (2 : Int) ^ min (Int.toNat 8) IntKind.i64.bits = 256 by decide]
      show ((N : Int) / 256).emod 256 = _
      have h1 := b1.2.1
      have : ((N : Int) / 256) % 256 = ((N / 256 % 256 : Nat) : Int) := by omega
      exact this.trans (by rw [h1])
    have y2 : IntKind.u8.wrap (N : Int) = (B2.toNat : Int) := by
      show (N : Int).emod 256 = _
      have h1 := b1.2.2
      have : (N : Int) % 256 = ((N % 256 : Nat) : Int) := by omega
      exact this.trans (by rw [h1])
    clear b1 s0 s1 s2 s3 hat hm1 hm2 hm3
    repeat' (first | refine wC ?_ | (exfalso; omega) | refine wK ?_ | refine zo rfl ?_ ?_ <;> intro hc | fail)
    refine zc (za [0, 2, 3, 4, 5, 6, 25] [.loc 900] rfl rfl) ?_
    refine zi (fun q env st => (q = 4 ∧ env = EnvL.get [(0, .t (.str E)), (2, .t (.str ⟨#[]⟩)), (3, .t (.int .i64 0)), (4, .row (.loc 900)), (5, .t (.int .i64 ((4 * j : Nat) : Int))), (6, .t (.int .i64 0)), (25, .t (.int .i64 0))] ∧ st = StO.get [(.loc 900, some (.slt 5 1 ((l.take (3 * j)).map u8T)))]) ∨ (q = 3 ∧ env = EnvL.get [(0, .t (.str E)), (2, .t (.str ⟨#[]⟩)), (3, .t (.int .i64 0)), (4, .row (.loc 900)), (5, .t (.int .i64 ((4 * j : Nat) : Int))), (6, .t (.int .i64 (m1 : Int))), (25, .t (.int .i64 1))] ∧ st = StO.get [(.loc 900, some (.slt 5 1 ((l.take (3 * j)).map u8T)))]) ∨ (q = 2 ∧ env = EnvL.get [(0, .t (.str E)), (2, .t (.str ⟨#[]⟩)), (3, .t (.int .i64 0)), (4, .row (.loc 900)), (5, .t (.int .i64 ((4 * j : Nat) : Int))), (6, .t (.int .i64 (m2 : Int))), (25, .t (.int .i64 2))] ∧ st = StO.get [(.loc 900, some (.slt 5 1 ((l.take (3 * j)).map u8T)))]) ∨ (q = 1 ∧ env = EnvL.get [(0, .t (.str E)), (2, .t (.str ⟨#[]⟩)), (3, .t (.int .i64 0)), (4, .row (.loc 900)), (5, .t (.int .i64 ((4 * j : Nat) : Int))), (6, .t (.int .i64 (m3 : Int))), (25, .t (.int .i64 3))] ∧ st = StO.get [(.loc 900, some (.slt 5 1 ((l.take (3 * j)).map u8T)))]) ∨ (q = 0 ∧ env = EnvL.get [(0, .t (.str E)), (2, .t (.str ⟨#[]⟩)), (3, .t (.int .i64 0)), (4, .row (.loc 900)), (5, .t (.int .i64 ((4 * j : Nat) : Int))), (6, .t (.int .i64 (N : Int))), (25, .t (.int .i64 4))] ∧ st = StO.get [(.loc 900, some (.slt 5 1 ((l.take (3 * j)).map u8T)))]))
      ?_ (n := 4) (.inl ⟨rfl, rfl, rfl⟩)
    rintro q env st (⟨rfl, rfl, rfl⟩ | ⟨rfl, rfl, rfl⟩ | ⟨rfl, rfl, rfl⟩ | ⟨rfl, rfl, rfl⟩ | ⟨rfl, rfl, rfl⟩)
    · repeat' (first | refine wC ?_ | refine wK ?_ | ((with_reducible refine yu ?_); refine zQ rfl rfl rfl rfl rfl rfl ?_ ?_ ?_) | ((with_reducible refine zk ?_); refine wL v0 ?_) | fail)
      all_goals try (rw [w0]; omega)
      all_goals try (simp only [w0]; omega)
      all_goals exact zD (n' := 3) (by omega) (za [0, 2, 3, 4, 5, 6, 25] [.loc 900] rfl rfl) (.inr (.inl ⟨rfl, by rw [z0]; rfl, rfl⟩))
    · repeat' (first | refine wC ?_ | refine wK ?_ | ((with_reducible refine yu ?_); refine zQ rfl rfl rfl rfl rfl rfl ?_ ?_ ?_) | ((with_reducible refine zk ?_); refine wL v1 ?_) | fail)
      all_goals try (rw [w1]; omega)
      all_goals try (simp only [w1]; omega)
      all_goals exact zD (n' := 2) (by omega) (za [0, 2, 3, 4, 5, 6, 25] [.loc 900] rfl rfl) (.inr (.inr (.inl ⟨rfl, by rw [z1]; rfl, rfl⟩)))
    · repeat' (first | refine wC ?_ | refine wK ?_ | ((with_reducible refine yu ?_); refine zQ rfl rfl rfl rfl rfl rfl ?_ ?_ ?_) | ((with_reducible refine zk ?_); refine wL v2 ?_) | fail)
      all_goals try (rw [w2]; omega)
      all_goals try (simp only [w2]; omega)
      all_goals exact zD (n' := 1) (by omega) (za [0, 2, 3, 4, 5, 6, 25] [.loc 900] rfl rfl) (.inr (.inr (.inr (.inl ⟨rfl, by rw [z2]; rfl, rfl⟩))))
    · repeat' (first | refine wC ?_ | refine wK ?_ | ((with_reducible refine yu ?_); refine zQ rfl rfl rfl rfl rfl rfl ?_ ?_ ?_) | ((with_reducible refine zk ?_); refine wL v3 ?_) | fail)
      all_goals try (rw [w3]; omega)
      all_goals try (simp only [w3]; omega)
      all_goals exact zD (n' := 0) (by omega) (za [0, 2, 3, 4, 5, 6, 25] [.loc 900] rfl rfl) (.inr (.inr (.inr (.inr ⟨rfl, by rw [z3]; rfl, rfl⟩))))
    · repeat' (first | refine wC ?_ | refine wK ?_ | ((with_reducible refine zR ?_); refine zt rfl rfl rfl rfl rfl rfl rfl rfl rfl rfl ?_ ?_ ?_) | fail)
      all_goals try (simp only [List.length_map, List.length_cons, List.length_nil, List.length_take]; omega)
      all_goals exact zD (n' := k - (j + 1)) (by omega) ((za [0, 2, 3, 4, 5] [.loc 54] rfl rfl).trans (zq (.loc 54) (.loc 900) rfl rfl rfl rfl)) ⟨j + 1, by omega, rfl, by rw [wj]; rfl, by rw [t3, List.map_append, y0, y1, y2]; rfl⟩
  · obtain rfl : j = k := by omega
    rw [← hl, List.take_length]
    repeat' (first | refine wC ?_ | (exfalso; omega) | refine wK ?_ | ((with_reducible refine zY ?_); refine zF rfl rfl rfl rfl rfl rfl ?_ ?_) | refine zo rfl ?_ ?_ <;> intro hc | fail)
    all_goals first | exact kN l | omega | exact zE (yd rfl rfl rfl (congrArg T.str (qx l)) rfl) (by simp)
set_option maxHeartbeats 2000000 in
theorem jT : Spec Tryz.prog 56 [.t (.int .i64 2)] [] (.t (.int .i64 32)) [] := by
  refine wI Tryz.func56 ?_
  repeat' (first | refine wC ?_ | refine yS (es := [0, 32, 32, 32, 32, 16, 2, 626, 6].map (T.int .i64)) rfl rfl rfl rfl rfl rfl ?_ | refine wK ?_ | ((with_reducible refine zj ?_); refine zg rfl rfl rfl rfl rfl rfl ?_ ?_ ?_) | fail)
  all_goals first | decide | rfl | exact zE (zh rfl rfl rfl) (by simp)
set_option maxHeartbeats 2000000 in
theorem jN : Spec Tryz.prog 55 [.t (.int .i64 1)] [] (.tup [.t (.str ⟨#[69]⟩), .t (.bool true)]) [] := by
  refine wI Tryz.func55 ?_
  repeat' (first | refine wC ?_ | refine yS (es := ([⟨#[]⟩, ⟨#[69]⟩, ⟨#[68]⟩, ⟨#[66]⟩, ⟨#[65]⟩, ⟨#[48, 65]⟩, ⟨#[77]⟩, ⟨#[83]⟩, ⟨#[49, 65, 65, 76]⟩] : List ByteArray).map T.str) rfl rfl rfl rfl rfl rfl ?_ | refine wK ?_ | ((with_reducible refine zj ?_); refine zg rfl rfl rfl rfl rfl rfl ?_ ?_ ?_) | fail)
  all_goals first | decide | rfl | exact zE (yd rfl rfl rfl rfl rfl) (by simp)
set_option maxHeartbeats 2000000 in
theorem vU : Spec Tryz.prog 55 [.t (.int .i64 2)] [] (.tup [.t (.str ⟨#[68]⟩), .t (.bool true)]) [] := by
  refine wI Tryz.func55 ?_
  repeat' (first | refine wC ?_ | refine yS (es := ([⟨#[]⟩, ⟨#[69]⟩, ⟨#[68]⟩, ⟨#[66]⟩, ⟨#[65]⟩, ⟨#[48, 65]⟩, ⟨#[77]⟩, ⟨#[83]⟩, ⟨#[49, 65, 65, 76]⟩] : List ByteArray).map T.str) rfl rfl rfl rfl rfl rfl ?_ | refine wK ?_ | ((with_reducible refine zj ?_); refine zg rfl rfl rfl rfl rfl rfl ?_ ?_ ?_) | fail)
  all_goals first | decide | rfl | exact zE (yd rfl rfl rfl rfl rfl) (by simp)
set_option maxHeartbeats 2000000 in
theorem qZ : Spec Tryz.prog 57 [.t (.int .i64 2)] [] (.t (.int .i64 1)) [] := by
  have hR := jT
  refine wI Tryz.func57 ?_
  repeat' (first | refine wC ?_ | refine wK ?_ | ((with_reducible refine zk ?_); refine wL hR ?_) | fail)
  all_goals first | decide | rfl | exact zE (zh rfl rfl (congrArg (T.int .i64) (by decide))) (by simp)
set_option maxHeartbeats 2000000 in
theorem ze9 : Spec Tryz.prog 61 [.t (.int .i64 2)] [] (.t (.int .i64 44)) [] := by
  have hR := jT
  have hL := qZ
  have hC := vU
  refine wI Tryz.func61 ?_
  repeat' (first | refine wC ?_ | refine wK ?_ | ((with_reducible refine zk ?_); first | refine wL hR ?_ | refine wL hL ?_ | refine wL hC ?_) | fail)
  all_goals first | decide | rfl | exact zE (zh rfl rfl (congrArg (T.int .i64) (by decide))) (by simp)
theorem kY (r : ByteArray) (hr : r.size = 32) : ∃ X : ByteArray, vc 2 r = ⟨#[68]⟩ ++ X ∧ X.size = 43 ∧ ⟨#[65]⟩ ++ X = ofL (j4 11 (0 :: r.data.toList)) := by
  have hl : r.data.toList.length = 32 := by rw [Array.length_toList]; exact hr
  have hl2 : (0 :: r.data.toList).length = 3 * 11 := by simp [hl]
  have hs : zcL 1 ++ r = ofL (0 :: r.data.toList) := by
    apply ByteArray.ext
    show (zcL 1 ++ r).data = (0 :: r.data.toList).toArray
    rw [ByteArray.data_append]
    show #[0] ++ r.data = _
    apply Array.ext'
    simp
  have hz : (zcL 1 ++ r).size = 33 := by rw [hs, xZ, hl2]
  have hb : (y6 (zcL 1 ++ r)).1 = ofL (j4 11 (0 :: r.data.toList)) := by
    have q3 : ((zcL 1 ++ r).size : Int).tmod 3 = (((zcL 1 ++ r).size % 3 : Nat) : Int) := rfl
    unfold y6
    rw [if_neg (by omega), if_neg (by rw [q3, hz]; decide)]
    show vL (zeP ((zcL 1 ++ r).size / 3) (zcL 1 ++ r)) = _
    rw [hz, hs, zf1 11 _ hl2, qx]
  have hE : (ofL (j4 11 (0 :: r.data.toList))).size = 44 := by rw [xZ, k6 11 _ hl2]
  obtain ⟨t, ht⟩ : ∃ t, j4 11 (0 :: r.data.toList) = 65 :: t := by
    obtain ⟨b, c, l, he⟩ : ∃ b c l, r.data.toList = b :: c :: l := by
      match hrl : r.data.toList, hl with
      | b :: c :: l, _ => exact ⟨b, c, l, rfl⟩
    rw [he]
    refine ⟨[alC (dgN (65536 * (0 : UInt8).toNat + 256 * b.toNat + c.toNat) 1), alC (dgN (65536 * (0 : UInt8).toNat + 256 * b.toNat + c.toNat) 2), alC (dgN (65536 * (0 : UInt8).toNat + 256 * b.toNat + c.toNat) 3)] ++ j4 10 l, ?_⟩
    have hb := b.toNat_lt
    have hc := c.toNat_lt
    have h0 : dgN (65536 * (0 : UInt8).toNat + 256 * b.toNat + c.toNat) 0 = 0 := by
      unfold dgN
      simp only [Nat.mul_zero, Nat.sub_zero, Nat.reducePow]
      have : (0 : UInt8).toNat = 0 := rfl
      omega
    rw [j4, qdB, h0]
    rfl
  have htl : t.length = 43 := by
    have := k6 11 _ hl2
    rw [ht, List.length_cons] at this
    omega
  refine ⟨ofL t, ?_, by rw [xZ]; exact htl, ?_⟩
  · unfold vc
    rw [show (ldS (kF 2)).toNat = 1 from by decide, hb, yE, hE, ht]
    rw [show ((65 :: t).drop 1).take (44 - 1) = t from by rw [List.drop_one, List.tail_cons, List.take_of_length_le (by omega)]]
    rfl
  · rw [ht]
    apply ByteArray.ext
    rw [ByteArray.data_append]
    show #[65] ++ t.toArray = (65 :: t).toArray
    apply Array.ext'
    simp
set_option maxHeartbeats 16000000 in
theorem zgs (r : ByteArray) (hr : r.size = 32) : Spec Tryz.prog 38 [.t (.str (vc 2 r))] [] (.tup [.t (.agg [.int .i64 2, .str r]), .t (.int .i64 44), .t (.int .i64 0)]) [] := by
  obtain ⟨X, hX, hXz, hXE⟩ := kY r hr
  have hD := zfC 11 (0 :: r.data.toList) (by simp; exact hr) (by omega)
  rw [← hXE] at hD
  clear hXE
  rw [hX]
  obtain ⟨T, hT⟩ : ∃ T, T = (⟨#[68]⟩ ++ X : ByteArray) := ⟨_, rfl⟩
  have hTz : T.size = 44 := by rw [hT, ByteArray.size_append, hXz]; rfl
  have hT0 : T.extract 0 1 = ⟨#[68]⟩ := by rw [hT]; exact ByteArray.extract_append_eq_left (by rfl)
  have hT1 : T.extract 1 44 = X := by rw [hT]; exact ByteArray.extract_append_eq_right (by rfl) (by rw [hXz]; rfl)
  rw [← hT]
  clear hX hT
  obtain ⟨R, hR⟩ : ∃ R, R = ofL (0 :: r.data.toList) := ⟨_, rfl⟩
  rw [← hR] at hD
  have hRz : R.size = 33 := by rw [hR, xZ]; simp; exact hr
  have hR0 : R.extract 0 1 = ⟨#[0]⟩ := by rw [hR, yE]; rfl
  have hR1 : R.extract 1 R.size = r := by
    rw [hRz, hR, yE, show ((0 :: r.data.toList).drop 1).take (33 - 1) = r.data.toList from by rw [List.drop_one, List.tail_cons, List.take_of_length_le (by rw [Array.length_toList]; show r.size ≤ _; omega)]]
    exact wE r
  clear hR
  have z69 : (⟨#[69]⟩ : ByteArray).size = 1 := rfl
  have z68 : (⟨#[68]⟩ : ByteArray).size = 1 := rfl
  have z65 : (⟨#[65, 65]⟩ : ByteArray).size = 2 := rfl
  have z00 : (⟨#[0, 0]⟩ : ByteArray).size = 2 := rfl
  have n69 : ¬ T.extract 0 ((⟨#[69]⟩ : ByteArray).size : Int).toNat = ⟨#[69]⟩ := by
    show ¬ T.extract 0 1 = _
    rw [hT0]; intro h; exact absurd (congrArg (fun b => bAt b 0) h) (by decide)
  have p68 : T.extract 0 ((⟨#[68]⟩ : ByteArray).size : Int).toNat = ⟨#[68]⟩ := hT0
  have hAA : (⟨#[65, 65]⟩ : ByteArray).extract 0 (1 : Int).toNat ++ T.extract ((⟨#[68]⟩ : ByteArray).size : Int).toNat (44 : Int).toNat = ⟨#[65]⟩ ++ X := by
    rw [show T.extract ((⟨#[68]⟩ : ByteArray).size : Int).toNat (44 : Int).toNat = X from hT1, show (⟨#[65, 65]⟩ : ByteArray).extract 0 (1 : Int).toNat = ⟨#[65]⟩ from (yE [65, 65] 0 1).trans rfl]
  rw [← hAA] at hD
  have hAz : ((⟨#[65, 65]⟩ : ByteArray).extract (0 : Int).toNat (1 : Int).toNat).size = 1 := by rw [ByteArray.size_extract]; rfl
  have hTz2 : (T.extract ((⟨#[68]⟩ : ByteArray).size : Int).toNat (44 : Int).toNat).size = 43 := by rw [show T.extract ((⟨#[68]⟩ : ByteArray).size : Int).toNat (44 : Int).toNat = X from hT1]; exact hXz
  have p0 : R.extract 0 (1 : Int).toNat = (⟨#[0, 0]⟩ : ByteArray).extract 0 (1 : Int).toNat := by
    rw [show (⟨#[0, 0]⟩ : ByteArray).extract 0 (1 : Int).toNat = ⟨#[0]⟩ from (yE [0, 0] 0 1).trans rfl]; exact hR0
  rw [← hR1]
  clear hAA hR0 hT0 hT1 hR1
  have c1 := jN
  have c2 := vU
  have hSz := ze9
  have hL := qZ
  refine wI Tryz.func38 ?_
  repeat' (first | refine wC ?_ | refine wK ?_ | fail)
  refine zc (za [0, 2, 3, 4, 5] [.loc 2] rfl rfl) ?_
  refine zi (fun q env st => (q = 1 ∧ env = EnvL.get [(0, .t (.str T)), (2, .ref (.loc 2) 0 0 0), (3, .t (.int .i64 0)), (4, .t (.int .i64 0)), (5, .t (.int .i64 1))] ∧ st = StO.get [(.loc 2, some (.var 56 [.t (.int .i64 0), .t (.str ⟨#[]⟩)]))]) ∨ (q = 0 ∧ env = EnvL.get [(0, .t (.str T)), (2, .ref (.loc 2) 0 0 0), (3, .t (.int .i64 0)), (4, .t (.int .i64 0)), (5, .t (.int .i64 2))] ∧ st = StO.get [(.loc 2, some (.var 56 [.t (.int .i64 0), .t (.str ⟨#[]⟩)]))]))
    ?_ (n := 1) (.inl ⟨rfl, rfl, rfl⟩)
  rintro q env st (⟨rfl, rfl, rfl⟩ | ⟨rfl, rfl, rfl⟩)
  · repeat' (first | refine wC ?_ | (exfalso; omega) | exact absurd ‹_› n69 | refine wK ?_ | ((with_reducible refine yA ?_); refine zy rfl rfl rfl ⟨_, rfl⟩ rfl rfl rfl ?_ ?_ ?_ ?_) | ((with_reducible refine zk ?_); refine wL c1 ?_) | refine yL rfl ?_ ?_ <;> intro hc | refine vo rfl ?_ ?_ <;> intro hc | fail)
    all_goals try omega
    all_goals exact zD (n' := 0) (by omega) (za [0, 2, 3, 4, 5] [.loc 2] rfl rfl) (.inr ⟨rfl, rfl, rfl⟩)
  · repeat' (first | refine wC ?_ | (exfalso; omega) | exact absurd p68 ‹_› | exact absurd p0 ‹_› | refine wK ?_ | ((with_reducible refine zU ?_); refine zL rfl rfl rfl rfl rfl rfl ?_ ?_) | ((with_reducible refine yA ?_); first | refine zy rfl rfl rfl ⟨_, rfl⟩ rfl rfl rfl ?_ ?_ ?_ ?_ | refine zy rfl rfl ⟨_, rfl⟩ rfl rfl rfl rfl ?_ ?_ ?_ ?_ | refine zy rfl rfl ⟨_, rfl⟩ ⟨_, rfl⟩ rfl rfl rfl ?_ ?_ ?_ ?_) | ((with_reducible refine zk ?_); first | refine wL c2 ?_ | refine wL hSz ?_ | refine wL hL ?_ | refine wL hD ?_) | refine zo rfl ?_ ?_ <;> intro hc | refine yL rfl ?_ ?_ <;> intro hc | refine vo rfl ?_ ?_ <;> intro hc | fail)
    all_goals try omega
    all_goals (refine zE ?_ (zW trivial); refine jY rfl rfl rfl inferInstance rfl inferInstance rfl ?_ ?_ ?_; exact TLe.av wT; exact AVLE.refl _; exact AVLE.refl _)
set_option maxHeartbeats 2000000 in
theorem j9 (r : ByteArray) (hr : r.size = 32) : Spec Tryz.prog 22 [.t (.int .i64 2), .t (.str (vc 2 r))] [] (.tup [.t (.str r), .t (.int .i64 0)]) [] := by
  have hD := zgs r hr
  have hz : (vc 2 r).size = 44 := by
    have := zfX 2 (by omega) (by omega) r (by rw [hr]; rfl)
    have h2 : zkV 2 = 44 := by decide
    omega
  generalize vc 2 r = T at *
  refine wI Tryz.func22 ?_
  repeat' (first | refine wC ?_ | (exfalso; omega) | refine wK ?_ | ((with_reducible refine zk ?_); refine wL hD ?_) | refine yL rfl ?_ ?_ <;> intro hc | fail)
  all_goals first | omega | exact zE (yd rfl rfl rfl rfl rfl) (by simp)
theorem zaF (a b : List UInt8) : ofL a ++ ofL b = ofL (a ++ b) := by
  apply ByteArray.ext
  rw [ByteArray.data_append]
  show a.toArray ++ b.toArray = (a ++ b).toArray
  simp
theorem zbs (P B Q : ByteArray) (i j : Nat) (hi : P.size = i) (hj : P.size + B.size = j) : (P ++ B ++ Q).extract i j = B := by
  obtain ⟨p, rfl⟩ : ∃ p, P = ofL p := ⟨_, (wE P).symm⟩
  obtain ⟨b, rfl⟩ : ∃ b, B = ofL b := ⟨_, (wE B).symm⟩
  obtain ⟨q, rfl⟩ : ∃ q, Q = ofL q := ⟨_, (wE Q).symm⟩
  subst hi; subst hj
  rw [zaF, zaF, yE]
  simp only [xZ, Nat.add_sub_cancel_left, List.append_assoc, List.drop_left, List.take_left]
theorem zif (P Q : ByteArray) (h : 0 < P.size) : bAt (P ++ Q) 0 = bAt P 0 := by
  obtain ⟨p, rfl⟩ : ∃ p, P = ofL p := ⟨_, (wE P).symm⟩
  obtain ⟨q, rfl⟩ : ∃ q, Q = ofL q := ⟨_, (wE Q).symm⟩
  rw [zaF]
  cases p with
  | nil => exact absurd h (by decide)
  | cons x p => rfl
theorem zfJ (s m : ByteArray) (u : Nat) (hu : u < 8) : bAt (ktS s u m) 0 = (u : Int) ∧ (ktS s u m).extract 1 577 = zfo (xU s (u : Int)) m ∧ (ktS s u m).extract 577 593 = ktB s u 0 ∧ (ktS s u m).extract 593 609 = ktB s u 1 ∧ (ktS s u m).extract 609 625 = ktB s u 2 := by
  have z1 := qk (xU s (u : Int)) m
  have z0 := qm (u : Int)
  have y0 : (ktB s u 0).size = 16 := zJ ..
  have y1 : (ktB s u 1).size = 16 := zJ ..
  have y2 : (ktB s u 2).size = 16 := zJ ..
  have hb : bAt (byS (u : Int)) 0 = (u : Int) := by
    have : u = 0 ∨ u = 1 ∨ u = 2 ∨ u = 3 ∨ u = 4 ∨ u = 5 ∨ u = 6 ∨ u = 7 := by omega
    rcases this with rfl | rfl | rfl | rfl | rfl | rfl | rfl | rfl <;> rfl
  unfold ktS
  generalize zfo (xU s (u : Int)) m = A at *
  generalize ktB s u 0 = B0 at *
  generalize ktB s u 1 = B1 at *
  generalize ktB s u 2 = B2 at *
  generalize byS (u : Int) = Z at *
  have s1 : (Z ++ A).size = 577 := by rw [ByteArray.size_append]; omega
  have s2 : (Z ++ A ++ B0).size = 593 := by rw [ByteArray.size_append]; omega
  have s3 : (Z ++ A ++ B0 ++ B1).size = 609 := by rw [ByteArray.size_append]; omega
  refine ⟨?_, ?_, ?_, ?_, ?_⟩
  · rw [ByteArray.append_assoc, ByteArray.append_assoc, ByteArray.append_assoc, zif _ _ (by omega)]; exact hb
  · rw [ByteArray.append_assoc, ByteArray.append_assoc]; exact zbs _ _ _ _ _ z0 (by omega)
  · rw [ByteArray.append_assoc (a := Z ++ A ++ B0)]; exact zbs _ _ _ _ _ s1 (by omega)
  · exact zbs _ _ _ _ _ s2 (by omega)
  · have := zbs (Z ++ A ++ B0 ++ B1) B2 ByteArray.empty 609 625 s3 (by omega)
    rwa [ByteArray.append_empty] at this
theorem zih (u k : Nat) (kk : Int) (hkk : kk = k) (hu : u < 8) (hk : k < 3) : IntKind.u8.wrap ↑(BitVec.ofInt IntKind.u8.bits ((u : Int) / 2 ^ min (IntKind.u64.wrap kk).toNat IntKind.u8.bits) &&& BitVec.ofInt IntKind.u8.bits 1).toNat = ((u / 2 ^ k % 2 : Nat) : Int) := by
  have h : ∀ k : Fin 3, ∀ u : Fin 8, IntKind.u8.wrap ↑(BitVec.ofInt IntKind.u8.bits (((u.val : Nat) : Int) / 2 ^ min (IntKind.u64.wrap ((k.val : Nat) : Int)).toNat IntKind.u8.bits) &&& BitVec.ofInt IntKind.u8.bits 1).toNat = ((u.val / 2 ^ k.val % 2 : Nat) : Int) := by decide
  subst hkk; exact h ⟨k, hk⟩ ⟨u, hu⟩
set_option maxRecDepth 2000 in
set_option maxHeartbeats 16000000 in
theorem zdy (s m : ByteArray) (u : Nat) (hu : u < 8) (hs : s.size ≤ 900000) (hm : m.size ≤ 900000) : Spec Tryz.prog 25 [.t (.str (vc 2 (ktP s))), .t (.str m), .t (.str (ktS s u m))] [] (.t (.bool true)) [] := by
  have hO := j9 (ktP s) (wX s)
  obtain ⟨p0, p1, p2, p3, p4⟩ := zfJ s m u hu
  have hz := zgW s u m
  have zG := qk (xU s (u : Int)) m
  have hR := zbj m (zfo (xU s (u : Int)) m) hm (by omega)
  have eR : zkD m (zfo (xU s (u : Int)) m) = vJ (xU s (u : Int)) := by unfold zkD; rw [if_pos zG, ziU]
  rw [eR, ← p1] at hR
  generalize vc 2 (ktP s) = K at *
  generalize hG : ktS s u m = G at *
  have zP : (vJ (xU s (u : Int))).size = 16 := yC _
  have hL := yV (⟨#[0]⟩ ++ vJ (xU s (u : Int))) (by rw [ByteArray.size_append, zP]; decide)
  rw [show zO (⟨#[0]⟩ ++ vJ (xU s (u : Int))) = ktL s 0 u from rfl] at hL
  generalize vJ (xU s (u : Int)) = PB at *
  have z0 : (⟨#[0]⟩ : ByteArray).size = 1 := rfl
  refine wI Tryz.func25 ?_
  repeat' (first | refine wC ?_ | (exfalso; omega) | refine wK ?_ | ((with_reducible refine zU ?_); refine zL rfl rfl rfl rfl rfl rfl ?_ ?_) | ((with_reducible refine yu ?_); refine zQ rfl rfl rfl rfl rfl rfl ?_ ?_ ?_) | ((with_reducible refine yA ?_); refine zy rfl rfl ⟨_, rfl⟩ ⟨_, rfl⟩ rfl rfl rfl ?_ ?_ ?_ ?_) | ((with_reducible refine zk ?_); first | refine wL hO ?_ | refine wL hR ?_ | refine wL hL ?_) | refine zo rfl ?_ ?_ <;> intro hc | refine jR rfl ?_ ?_ <;> intro hc | fail)
  all_goals try omega
  obtain ⟨e9, he9⟩ : ∃ e : Int, e = 577 := ⟨_, rfl⟩
  refine zc (za [2, 6, 7, 9, 12, 50] [] rfl rfl) ?_
  refine zi (fun q env st => (q = 3 ∧ env = EnvL.get [(2, .t (.str G)), (6, .t (.bool false)), (7, .t (.str (ktP s))), (9, .t (.int .i64 e9)), (12, .t (.str (ktL s 0 (u / 2 ^ 0)))), (50, .t (.int .i64 0))] ∧ st = StO.get []) ∨ (q = 2 ∧ env = EnvL.get [(2, .t (.str G)), (6, .t (.bool false)), (7, .t (.str (ktP s))), (9, .t (.int .i64 e9)), (12, .t (.str (ktL s 1 (u / 2 ^ 1)))), (50, .t (.int .i64 1))] ∧ st = StO.get []) ∨ (q = 1 ∧ env = EnvL.get [(2, .t (.str G)), (6, .t (.bool false)), (7, .t (.str (ktP s))), (9, .t (.int .i64 e9)), (12, .t (.str (ktL s 2 (u / 2 ^ 2)))), (50, .t (.int .i64 2))] ∧ st = StO.get []) ∨ (q = 0 ∧ env = EnvL.get [(2, .t (.str G)), (6, .t (.bool false)), (7, .t (.str (ktP s))), (9, .t (.int .i64 e9)), (12, .t (.str (ktL s 3 (u / 2 ^ 3)))), (50, .t (.int .i64 3))] ∧ st = StO.get []))
    ?_ (n := 3) (.inl ⟨rfl, by rw [he9, show u / 2 ^ 0 = u from Nat.div_one u]; rfl, rfl⟩)
  rintro q env st (⟨rfl, rfl, rfl⟩ | ⟨rfl, rfl, rfl⟩ | ⟨rfl, rfl, rfl⟩ | ⟨rfl, rfl, rfl⟩)
  · have hup := zja s u 0 hu (by omega)
    have e1 := zJ s 0 (u / 2 ^ 0)
    have e2 : (ktB s u 0).size = 16 := zJ ..
    have hn1 := yN (ktL s 0 (u / 2 ^ 0)) (ktB s u 0) (by omega) (by omega)
    have hn2 := yN (ktB s u 0) (ktL s 0 (u / 2 ^ 0)) (by omega) (by omega)
    have hlo : IntKind.i64.wrap (e9 + IntKind.i64.wrap (0 * 16)) = 577 := by rw [he9]; decide
    have hhi : IntKind.i64.wrap (e9 + IntKind.i64.wrap (IntKind.i64.wrap (0 + 1) * 16)) = 593 := by rw [he9]; decide
    have hy : G.extract (IntKind.i64.wrap (e9 + IntKind.i64.wrap (0 * 16))).toNat (IntKind.i64.wrap (e9 + IntKind.i64.wrap (IntKind.i64.wrap (0 + 1) * 16))).toNat = ktB s u 0 := by
      rw [hlo, hhi]; exact p2
    clear he9
    have hcond := zih u 0 0 rfl hu (by omega)
    rw [← p0] at hcond
    repeat' (first | refine wC ?_ | refine wK ?_ | ((with_reducible refine yu ?_); refine zQ rfl rfl rfl rfl rfl rfl ?_ ?_ ?_) | ((with_reducible refine yA ?_); refine zy rfl rfl ⟨_, rfl⟩ ⟨_, rfl⟩ rfl rfl rfl ?_ ?_ ?_ ?_) | refine zo rfl ?_ ?_ <;> intro hc | fail)
    · rw [hlo]; decide
    · rw [hlo, hhi]; decide
    · rw [hhi]; omega
    · omega
    · omega
    · rw [show _ = _ from hcond] at hc
      have hb : u / 2 ^ 0 % 2 = 0 := by omega
      rw [if_pos hb] at hup
      rw [← hup] at hn1
      rw [hy]
      clear hn2 hb hc hcond hlo hhi hy
      repeat' (first | refine wC ?_ | refine wK ?_ | ((with_reducible refine zk ?_); refine wL hn1 ?_) | fail)
      exact zD (n' := 2) (by omega) (za [2, 6, 7, 9, 12, 50] [] rfl rfl) (.inr (.inl ⟨rfl, rfl, rfl⟩))
    · rw [show _ = _ from hcond] at hc
      have hb : ¬ u / 2 ^ 0 % 2 = 0 := by omega
      rw [if_neg hb] at hup
      rw [← hup] at hn2
      rw [hy]
      clear hn1 hb hc hcond hlo hhi hy
      repeat' (first | refine wC ?_ | refine wK ?_ | ((with_reducible refine zk ?_); refine wL hn2 ?_) | fail)
      exact zD (n' := 2) (by omega) (za [2, 6, 7, 9, 12, 50] [] rfl rfl) (.inr (.inl ⟨rfl, rfl, rfl⟩))
  · have hup := zja s u 1 hu (by omega)
    have e1 := zJ s 1 (u / 2 ^ 1)
    have e2 : (ktB s u 1).size = 16 := zJ ..
    have hn1 := yN (ktL s 1 (u / 2 ^ 1)) (ktB s u 1) (by omega) (by omega)
    have hn2 := yN (ktB s u 1) (ktL s 1 (u / 2 ^ 1)) (by omega) (by omega)
    have hlo : IntKind.i64.wrap (e9 + IntKind.i64.wrap (1 * 16)) = 593 := by rw [he9]; decide
    have hhi : IntKind.i64.wrap (e9 + IntKind.i64.wrap (IntKind.i64.wrap (1 + 1) * 16)) = 609 := by rw [he9]; decide
    have hy : G.extract (IntKind.i64.wrap (e9 + IntKind.i64.wrap (1 * 16))).toNat (IntKind.i64.wrap (e9 + IntKind.i64.wrap (IntKind.i64.wrap (1 + 1) * 16))).toNat = ktB s u 1 := by
      rw [hlo, hhi]; exact p3
    clear he9
    have hcond := zih u 1 1 rfl hu (by omega)
    rw [← p0] at hcond
    repeat' (first | refine wC ?_ | refine wK ?_ | ((with_reducible refine yu ?_); refine zQ rfl rfl rfl rfl rfl rfl ?_ ?_ ?_) | ((with_reducible refine yA ?_); refine zy rfl rfl ⟨_, rfl⟩ ⟨_, rfl⟩ rfl rfl rfl ?_ ?_ ?_ ?_) | refine zo rfl ?_ ?_ <;> intro hc | fail)
    · rw [hlo]; decide
    · rw [hlo, hhi]; decide
    · rw [hhi]; omega
    · omega
    · omega
    · rw [show _ = _ from hcond] at hc
      have hb : u / 2 ^ 1 % 2 = 0 := by omega
      rw [if_pos hb] at hup
      rw [← hup] at hn1
      rw [hy]
      clear hn2 hb hc hcond hlo hhi hy
      repeat' (first | refine wC ?_ | refine wK ?_ | ((with_reducible refine zk ?_); refine wL hn1 ?_) | fail)
      exact zD (n' := 1) (by omega) (za [2, 6, 7, 9, 12, 50] [] rfl rfl) (.inr (.inr (.inl ⟨rfl, rfl, rfl⟩)))
    · rw [show _ = _ from hcond] at hc
      have hb : ¬ u / 2 ^ 1 % 2 = 0 := by omega
      rw [if_neg hb] at hup
      rw [← hup] at hn2
      rw [hy]
      clear hn1 hb hc hcond hlo hhi hy
      repeat' (first | refine wC ?_ | refine wK ?_ | ((with_reducible refine zk ?_); refine wL hn2 ?_) | fail)
      exact zD (n' := 1) (by omega) (za [2, 6, 7, 9, 12, 50] [] rfl rfl) (.inr (.inr (.inl ⟨rfl, rfl, rfl⟩)))
  · have hup := zja s u 2 hu (by omega)
    have e1 := zJ s 2 (u / 2 ^ 2)
    have e2 : (ktB s u 2).size = 16 := zJ ..
    have hn1 := yN (ktL s 2 (u / 2 ^ 2)) (ktB s u 2) (by omega) (by omega)
    have hn2 := yN (ktB s u 2) (ktL s 2 (u / 2 ^ 2)) (by omega) (by omega)
    have hlo : IntKind.i64.wrap (e9 + IntKind.i64.wrap (2 * 16)) = 609 := by rw [he9]; decide
    have hhi : IntKind.i64.wrap (e9 + IntKind.i64.wrap (IntKind.i64.wrap (2 + 1) * 16)) = 625 := by rw [he9]; decide
    have hy : G.extract (IntKind.i64.wrap (e9 + IntKind.i64.wrap (2 * 16))).toNat (IntKind.i64.wrap (e9 + IntKind.i64.wrap (IntKind.i64.wrap (2 + 1) * 16))).toNat = ktB s u 2 := by
      rw [hlo, hhi]; exact p4
    clear he9
    have hcond := zih u 2 2 rfl hu (by omega)
    rw [← p0] at hcond
    repeat' (first | refine wC ?_ | refine wK ?_ | ((with_reducible refine yu ?_); refine zQ rfl rfl rfl rfl rfl rfl ?_ ?_ ?_) | ((with_reducible refine yA ?_); refine zy rfl rfl ⟨_, rfl⟩ ⟨_, rfl⟩ rfl rfl rfl ?_ ?_ ?_ ?_) | refine zo rfl ?_ ?_ <;> intro hc | fail)
    · rw [hlo]; decide
    · rw [hlo, hhi]; decide
    · rw [hhi]; omega
    · omega
    · omega
    · rw [show _ = _ from hcond] at hc
      have hb : u / 2 ^ 2 % 2 = 0 := by omega
      rw [if_pos hb] at hup
      rw [← hup] at hn1
      rw [hy]
      clear hn2 hb hc hcond hlo hhi hy
      repeat' (first | refine wC ?_ | refine wK ?_ | ((with_reducible refine zk ?_); refine wL hn1 ?_) | fail)
      exact zD (n' := 0) (by omega) (za [2, 6, 7, 9, 12, 50] [] rfl rfl) (.inr (.inr (.inr ⟨rfl, rfl, rfl⟩)))
    · rw [show _ = _ from hcond] at hc
      have hb : ¬ u / 2 ^ 2 % 2 = 0 := by omega
      rw [if_neg hb] at hup
      rw [← hup] at hn2
      rw [hy]
      clear hn1 hb hc hcond hlo hhi hy
      repeat' (first | refine wC ?_ | refine wK ?_ | ((with_reducible refine zk ?_); refine wL hn2 ?_) | fail)
      exact zD (n' := 0) (by omega) (za [2, 6, 7, 9, 12, 50] [] rfl rfl) (.inr (.inr (.inr ⟨rfl, rfl, rfl⟩)))
  · have hT := wF (⟨#[2]⟩ ++ ktL s 3 (u / 2 ^ 3)) (by rw [ByteArray.size_append, zJ]; decide)
    have e3 := zJ s 3 (u / 2 ^ 3)
    have z2 : (⟨#[2]⟩ : ByteArray).size = 1 := rfl
    have hu0 : u / 2 ^ 3 = 0 := by omega
    rw [hu0] at hT e3 ⊢
    rw [show sha (⟨#[2]⟩ ++ ktL s 3 0) = ktP s from rfl] at hT
    repeat' (first | refine wC ?_ | refine wK ?_ | ((with_reducible refine zU ?_); refine zL rfl rfl rfl rfl rfl rfl ?_ ?_) | ((with_reducible refine zk ?_); refine wL hT ?_) | fail)
    all_goals try omega
    all_goals exact zE (zh rfl rfl (congrArg T.bool (decide_eq_true rfl))) (by simp)
end Go.AL
namespace Go.AL
open Go
section
open Go.RowKit
end
end Go.AL
namespace Go.AL
def zkW (c : Nat) : Nat := c ||| 32
def hv (c : Nat) : Option Nat := if 48 ≤ c ∧ c ≤ 57 then some (c - 48) else if 97 ≤ zkW c ∧ zkW c ≤ 102 then some (zkW c - 87) else none
theorem jK {α : Type} [Inhabited α] : ∀ (L : List α) (j : Nat), j < L.length → L.drop j = L.getD j default :: L.drop (j + 1)
  | [], j, h => by simp at h
  | x :: L, 0, h => by simp
  | x :: L, j + 1, h => by simpa using jK L j (by simpa using h)
end Go.AL
namespace Go.AL
open Go
structure Fr where
  n : Int
  d : Int
  deriving Inhabited, DecidableEq
def Fr.toT (f : Fr) : T := .agg [.int .i64 f.n, .int .i64 f.d]
def zlr (a b : Int) : Int := (Nat.gcd a.toNat b.toNat : Int)
def Fr.wt (f : Fr) : Bool := decide (1 ≤ f.d ∧ f.d ≤ 100 ∧ 0 ≤ f.n ∧ f.n ≤ f.d) && decide (zlr f.n f.d = 1)
def zgM {α : Type} (p : α → Bool) : List α → Nat → Int
  | [], _ => -1
  | x :: l, k => if p x then (k : Int) else zgM p l (k + 1)
theorem zgx {α : Type} (p : α → Bool) : ∀ (l : List α) (k : Nat), decide (0 ≤ zgM p l k) = l.any p
  | [], k => by simp [zgM]
  | x :: l, k => by
    rw [zgM, List.any_cons]
    cases hp : p x with
    | true => simp
    | false => simp [zgx p l (k + 1)]
def frs (l : List Fr) : T := .sl 2 (l.map Fr.toT)
structure Th where
  n : Int
  w : List (List Fr)
  deriving Inhabited
def Th.toT (t : Th) : T := .agg [.int .i64 t.n, .sl 1 (t.w.map frs)]
def zj4 : List (List Fr) → Nat
  | [] => 0
  | l :: r => l.length + zj4 r
structure Th.Fit (t : Th) : Prop where
  few : zj4 t.w ≤ 8
  lists : t.w.length ≤ 8
  wt : ∀ l ∈ t.w, ∀ f ∈ l, f.wt = true
  one : t.n = 0 ∨ t.w.length = 0
end Go.AL
namespace Go.AL
open Go Go.Proofs Go.RowKit
def vaT (s : ByteArray) (p c n : Int) (l : List Int) : T := .agg [.str s, .int .i64 p, .int .i64 c, .int .i64 n, .sl 1 (l.map (T.int .i64))]
def sdS (s : ByteArray) (g i : Int) : ByteArray := sha (zaG [s, yW g, yW i])
theorem vA (s : ByteArray) (g i : Int) : (sdS s g i).size = 32 := xw _
set_option maxHeartbeats 1000000 in
theorem zab (n : Int) : Spec Tryz.prog 46 [.t (.int .i64 n)] [] (.t (.str (yW n))) [] := by
  refine wI Tryz.func46 ?_
  repeat' (first | refine wC ?_ | refine wK ?_ | ((with_reducible refine zY ?_); refine zF rfl rfl rfl rfl rfl rfl ?_ ?_) | fail)
  all_goals try exact zbU _ _ _ _
  exact zE (zh rfl rfl rfl) (by simp)
set_option maxHeartbeats 1000000 in
theorem ze4 (s : ByteArray) (g i : Int) (hs : s.size ≤ 900000) : Spec Tryz.prog 26 [.t (.str s), .t (.int .i64 g), .t (.int .i64 i)] [] (.t (.str (sdS s g i))) [] := by
  have h1 := zab g
  have h2 := zab i
  have hL := zgt [s, yW g, yW i] 900000 (by
    intro x hx
    rcases List.mem_cons.1 hx with rfl | hx
    · exact hs
    rcases List.mem_cons.1 hx with rfl | hx
    · rw [y9]; decide
    rcases List.mem_cons.1 hx with rfl | hx
    · rw [y9]; decide
    · cases hx) (by simp) (by simp)
  rw [show sha (zaG [s, yW g, yW i]) = sdS s g i from rfl] at hL
  generalize sdS s g i = Y at *
  generalize yW g = A at *
  generalize yW i = B at *
  refine wI Tryz.func26 ?_
  repeat' (first | refine wC ?_ | refine yS (es := [s, A, B].map T.str) rfl rfl rfl rfl rfl rfl ?_ | refine wK ?_ | ((with_reducible refine zk ?_); first | refine wL h1 ?_ | refine wL h2 ?_ | refine wL hL ?_) | fail)
  exact zE (zh rfl rfl rfl) (by simp)
set_option maxHeartbeats 1000000 in
theorem we (n m : Int) : Spec Tryz.prog 14 [.t (.int .i64 n), .t (.int .i64 m)] [] (.t (.bool (decide (m ≤ n) && decide (n ≤ 8)))) [] := by
  refine wI Tryz.func14 ?_
  repeat' (first | refine wC ?_ | refine wK ?_ | refine vo rfl ?_ ?_ <;> intro hc | fail)
  all_goals exact zE (zh rfl rfl (congrArg T.bool (by simp [hc]))) (by simp)
def zjm (n : Int) : Bool := decide (n < 0) || decide (8 < n)
set_option maxHeartbeats 1000000 in
theorem zb9 (n : Int) : Spec Tryz.prog 31 [.t (.int .i64 n)] [] (.t (.bool (zjm n))) [] := by
  refine wI Tryz.func31 ?_
  repeat' (first | refine wC ?_ | refine wK ?_ | refine vo rfl ?_ ?_ <;> intro hc | fail)
  all_goals exact zE (zh rfl rfl (congrArg T.bool (by simp [zjm, hc]))) (by simp)
set_option maxHeartbeats 2000000 in
theorem zbg (p : Int → Bool) (g : FuncId) [FnB Tryz.prog g] (l : List Int) (hf : ∀ x ∈ l, Spec Tryz.prog g [.t (.int .i64 x)] [] (.t (.bool (p x))) []) (hl : l.length ≤ 1000000000) : Spec Tryz.prog 54 [.t (.sl 1 (l.map (T.int .i64))), .t (.fn g)] [] (.t (.int .i64 (zgM p l 0))) [] := by
  obtain ⟨R, hR⟩ : ∃ R, R = zgM p l 0 := ⟨_, rfl⟩
  rw [← hR]
  refine wI Tryz.func54 ?_
  repeat' (first | refine wC ?_ | refine wK ?_ | fail)
  refine zc (za [0, 1, 7, 8] [] rfl rfl) ?_
  refine zi (fun q env st => ∃ (j : Nat), j ≤ l.length ∧ q = l.length - j ∧ zgM p (l.drop j) j = R ∧ env = EnvL.get [(0, .t (.sl 1 (l.map (T.int .i64)))), (1, .t (.fn g)), (7, .t (.int .i64 (l.length : Int))), (8, .t (.int .i64 (j : Int)))] ∧ st = StO.get [])
    ?_ (n := l.length) ⟨0, by omega, rfl, hR.symm, rfl, rfl⟩
  rintro q env st ⟨j, hj, rfl, hG, rfl, rfl⟩
  have wj : IntKind.i64.wrap ((j : Int) + 1) = ((j + 1 : Nat) : Int) := by rw [zl (by omega) (by omega)]; omega
  by_cases hlt : j < l.length
  · have hcl := hf (l.getD (j : Int).toNat default) (by rw [Int.toNat_natCast, List.getD_eq_getElem?_getD, List.getElem?_eq_getElem hlt]; exact List.getElem_mem _)
    rw [jK l j hlt, zgM, show l.getD j default = l.getD (j : Int).toNat default from rfl] at hG
    cases hp : p (l.getD (j : Int).toNat default) with
    | true =>
      rw [hp] at hcl hG
      rw [if_pos rfl] at hG
      repeat' (first | refine wC ?_ | (exfalso; omega) | refine wK ?_ | ((with_reducible refine zj ?_); refine zg rfl rfl rfl rfl rfl rfl ?_ ?_ ?_) | ((with_reducible refine zk ?_); refine wL hcl ?_) | refine zo rfl ?_ ?_ <;> intro hc | fail)
      all_goals try (simp only [List.length_map]; omega)
      all_goals try omega
      all_goals first | rfl | exact zE (zh rfl rfl (congrArg (T.int .i64) hG)) (by simp)
    | false =>
      rw [hp] at hcl hG
      rw [if_neg (by decide)] at hG
      repeat' (first | refine wC ?_ | (exfalso; omega) | refine wK ?_ | ((with_reducible refine zj ?_); refine zg rfl rfl rfl rfl rfl rfl ?_ ?_ ?_) | ((with_reducible refine zk ?_); refine wL hcl ?_) | refine zo rfl ?_ ?_ <;> intro hc | fail)
      all_goals try (simp only [List.length_map]; omega)
      all_goals try omega
      all_goals first | rfl | exact zD (n' := l.length - (j + 1)) (by omega) (za [0, 1, 7, 8] [] rfl rfl) ⟨j + 1, by omega, rfl, hG, by rw [wj]; rfl, rfl⟩
  · obtain rfl : j = l.length := by omega
    rw [List.drop_length, zgM] at hG
    repeat' (first | refine wC ?_ | (exfalso; omega) | refine wK ?_ | refine zo rfl ?_ ?_ <;> intro hc | fail)
    exact zE (zh rfl rfl (congrArg (T.int .i64) hG)) (by simp)
set_option maxHeartbeats 2000000 in
theorem kE (p : Int → Bool) (g : FuncId) [FnB Tryz.prog g] (l : List Int) (hf : ∀ x ∈ l, Spec Tryz.prog g [.t (.int .i64 x)] [] (.t (.bool (p x))) []) (hl : l.length ≤ 1000000000) : Spec Tryz.prog 32 [.t (.sl 1 (l.map (T.int .i64))), .t (.fn g)] [] (.t (.bool (l.any p))) [] := by
  have hI := zbg p g l hf hl
  rw [← zgx p l 0]
  generalize zgM p l 0 = R at *
  refine wI Tryz.func32 ?_
  repeat' (first | refine wC ?_ | refine wK ?_ | ((with_reducible refine zk ?_); refine wL hI ?_) | fail)
  exact zE (zh rfl rfl rfl) (by simp)
def zgL : Int → List Int → Int
  | a, [] => a
  | a, x :: l => zgL (if x > a then x else a) l
set_option maxHeartbeats 2000000 in
theorem zgV (a : Int) (l : List Int) (hl : l.length ≤ 1000000000) : Spec Tryz.prog 40 [.t (.sl 1 ((a :: l).map (T.int .i64)))] [] (.t (.int .i64 (zgL a l))) [] := by
  obtain ⟨R, hR⟩ : ∃ R, R = zgL a l := ⟨_, rfl⟩
  rw [← hR]
  obtain ⟨w, hw⟩ : ∃ w, w = a :: l := ⟨_, rfl⟩
  have hwl : w.length = l.length + 1 := by rw [hw]; rfl
  have ha : w.getD (0 : Int).toNat default = a := by rw [hw]; rfl
  have hd : w.drop 1 = l := by rw [hw]; rfl
  rw [← hw]
  refine wI Tryz.func40 ?_
  repeat' (first | refine wC ?_ | (exfalso; omega) | refine wK ?_ | ((with_reducible refine zj ?_); refine zg rfl rfl rfl rfl rfl rfl ?_ ?_ ?_) | refine zo rfl ?_ ?_ <;> intro hc | fail)
  · omega
  · omega
  rw [ha]
  refine zc (za [0, 3, 4] [] rfl rfl) ?_
  refine zi (fun q env st => ∃ (j : Nat) (c : Int), 1 ≤ j ∧ j ≤ w.length ∧ q = w.length - j ∧ zgL c (w.drop j) = R ∧ env = EnvL.get [(0, .t (.sl 1 (w.map (T.int .i64)))), (3, .t (.int .i64 c)), (4, .t (.int .i64 (j : Int)))] ∧ st = StO.get [])
    ?_ (n := w.length - 1) ⟨1, a, by omega, by omega, rfl, by rw [hd, hR], rfl, rfl⟩
  rintro q env st ⟨j, c, hj1, hj, rfl, hG, rfl, rfl⟩
  have wj : IntKind.i64.wrap ((j : Int) + 1) = ((j + 1 : Nat) : Int) := by rw [zl (by omega) (by omega)]; omega
  clear ha hd hw
  by_cases hlt : j < w.length
  · rw [jK w j hlt, zgL, show w.getD j default = w.getD (j : Int).toNat default from rfl] at hG
    repeat' (first | refine wC ?_ | (exfalso; omega) | refine wK ?_ | ((with_reducible refine zj ?_); refine zg rfl rfl rfl rfl rfl rfl ?_ ?_ ?_) | refine zo rfl ?_ ?_ <;> intro hc | fail)
    all_goals try omega
    all_goals exact zD (n' := w.length - (j + 1)) (by omega) (za [0, 3, 4] [] rfl rfl) ⟨j + 1, _, by omega, by omega, rfl, hG, by rw [wj]; rfl, rfl⟩
  · obtain rfl : j = w.length := by omega
    rw [List.drop_length, zgL] at hG
    repeat' (first | refine wC ?_ | (exfalso; omega) | refine wK ?_ | refine zo rfl ?_ ?_ <;> intro hc | fail)
    all_goals exact zE (zh rfl rfl (congrArg (T.int .i64) hG)) (by simp)
set_option maxHeartbeats 2000000 in
theorem zfh (l : List Int) (h0 : 0 < l.length) (hl : l.length ≤ 1000000) : Spec Tryz.prog 30 [.t (.sl 1 (l.map (T.int .i64)))] [] (.row (.res 0)) [(.res 0, .slt 3 1 (l.map (T.int .i64)))] := by
  obtain ⟨x, t, rfl⟩ : ∃ x t, l = x :: t := by
    cases l with
    | nil => simp at h0
    | cons x t => exact ⟨x, t, rfl⟩
  refine wIG Tryz.func30 ?_
  repeat' (first | refine wC ?_ | refine wK ?_ | ((with_reducible refine zR ?_); refine zbP rfl rfl rfl rfl rfl rfl rfl rfl rfl ?_ ?_ ?_) | fail)
  · simp only [List.length_map, List.length_nil]; omega
  · simp only [List.length_map, List.length_nil]; omega
  refine ye ((za [2] [.loc 7] rfl rfl).trans (zq (.loc 7) (.res 0) rfl rfl rfl rfl)) ?_
  exact y4 (zE (xd rfl (AVLE.refl _)) (zW ⟨rfl, trivial⟩))
def zjE (s : ByteArray) (p c n : Int) (l : List Int) : Bool := decide ((s.size : Int) = 32) && decide (0 ≤ p) && decide (p < 65536) && (decide (1 ≤ c) && decide (c ≤ 8)) && (decide (0 ≤ n) && decide (n ≤ 8)) && decide ((l.length : Int) = c) && !l.any zjm
set_option maxHeartbeats 4000000 in
theorem jJ (s : ByteArray) (p c n : Int) (l : List Int) (hl : l.length ≤ 1000000) : Spec Tryz.prog 19 [.t (vaT s p c n l)] [] (.t (.bool (zjE s p c n l))) [] := by
  have hC := kE zjm 31 l (fun x _ => zb9 x) (by omega)
  have hk1 := we c 1
  have hk2 := we n 0
  obtain ⟨R, hR⟩ : ∃ R, R = zjE s p c n l := ⟨_, rfl⟩
  rw [← hR]
  unfold zjE at hR
  generalize l.any zjm = A at *
  generalize (decide (1 ≤ c) && decide (c ≤ 8)) = B1 at *
  generalize (decide (0 ≤ n) && decide (n ≤ 8)) = B2 at *
  unfold vaT
  refine wI Tryz.func19 ?_
  repeat' (first | refine wC ?_ | refine wK ?_ | ((with_reducible refine zk ?_); first | refine wL hC ?_ | refine wL hk1 ?_ | refine wL hk2 ?_) | refine vo rfl ?_ ?_ <;> intro hc | refine zfS rfl ?_ ?_ <;> intro hc | fail)
  all_goals exact zE (zh rfl rfl (congrArg T.bool (by rw [hR]; simp [*]))) (by simp)
set_option maxHeartbeats 2000000 in
theorem zcr (s : ByteArray) (c n : Int) (hs : s.size = 32) (h1 : 1 ≤ c) (h2 : c ≤ 8) (h3 : 0 ≤ n) (h4 : n ≤ 8) : Spec Tryz.prog 4 [.t (.str s), .t (.int .i64 c), .t (.int .i64 n)] [] (.tup [.t (vaT s 0 c n (List.replicate c.toNat 0)), .t (.int .i64 0)]) [] := by
  have hk1 := we c 1
  have hk2 := we n 0
  rw [show (decide (1 ≤ c) && decide (c ≤ 8)) = true from by simp [h1, h2]] at hk1
  rw [show (decide (0 ≤ n) && decide (n ≤ 8)) = true from by simp [h3, h4]] at hk2
  rw [show vaT s 0 c n (List.replicate c.toNat 0) = .agg [.str s, .int .i64 0, .int .i64 c, .int .i64 n, .sl 1 (List.replicate c.toNat (T.int .i64 0))] from by unfold vaT; rw [List.map_replicate]]
  refine wIG Tryz.func4 ?_
  repeat' (first | refine wC ?_ | (exfalso; omega) | refine zaI (r := .agg [.t (.str s), .t (.int .i64 0), .t (.int .i64 c), .t (.int .i64 n), .row (.loc 27)]) rfl rfl rfl rfl rfl rfl rfl ?_ | refine wK ?_ | ((with_reducible refine xo ?_); refine y5 (zT := .int _ _) rfl rfl rfl rfl rfl rfl rfl rfl rfl ?_ ?_ ?_ ?_ ?_) | ((with_reducible refine zk ?_); first | refine wL hk1 ?_ | refine wL hk2 ?_) | refine yL rfl ?_ ?_ <;> intro hc | fail)
  · omega
  · omega
  · omega
  · omega
  refine ye (zz (id := .loc 27) rfl rfl rfl) ?_
  refine y4 (zE ?_ (by simp)); refine qC rfl rfl rfl inferInstance rfl inferInstance rfl ?_ ?_; exact TLe.av wT; exact AVLE.refl _
set_option maxHeartbeats 2000000 in
theorem zcE (s : ByteArray) (p c n : Int) (l : List Int) (h0 : 0 < l.length) (hl : l.length ≤ 1000000) : Spec Tryz.prog 18 [.t (vaT s p c n l)] [] (.agg [.t (.str s), .t (.int .i64 p), .t (.int .i64 c), .t (.int .i64 n), .row (.res 0)]) [(.res 0, .slt 3 1 (l.map (T.int .i64)))] := by
  have hC := zfh l h0 hl
  refine wIG Tryz.func18 ?_
  repeat' (first | refine wC ?_ | refine wK ?_ | ((with_reducible refine zk ?_); refine wN (.row (.loc 900)) [(.res 0, .loc 900)] hC ?_) | fail)
  refine ye ((za [2] [.loc 2, .loc 900] rfl rfl).trans (zq (.loc 900) (.res 0) rfl rfl rfl rfl)) ?_
  refine y4 (zE ?_ (zW ⟨rfl, trivial⟩)); exact jD rfl rfl rfl inferInstance rfl inferInstance rfl (AVLE.refl _)
def sdL (s : ByteArray) (g : Int) (k : Nat) : List ByteArray := (List.range k).map (fun (i : Nat) => sdS s g (i : Int))
theorem zdl (s : ByteArray) (g : Int) (k : Nat) : (sdL s g k).length = k := by simp [sdL]
theorem zhI (s : ByteArray) (g : Int) (k : Nat) : sdL s g (k + 1) = sdL s g k ++ [sdS s g (k : Int)] := by simp [sdL, List.range_succ]
set_option maxHeartbeats 4000000 in
theorem vG (s : ByteArray) (p c n : Int) (l : List Int) (g : Int) (k : Nat) (hs : s.size ≤ 900000) (hk : k ≤ 8) : Spec Tryz.prog 15 [.t (vaT s p c n l), .t (.int .i64 g), .t (.int .i64 (k : Int))] [] (.row (.res 0)) [(.res 0, .slt 9 1 ((sdL s g k).map .str))] := by
  have hm0 : (if (0 : Int) > (k : Int) then (0 : Int) else (k : Int)) = (k : Int) := if_neg (by omega)
  have hm1 : (if (8 : Int) < (k : Int) then (8 : Int) else (k : Int)) = (k : Int) := if_neg (by omega)
  refine wIG Tryz.func15 ?_
  repeat' (first | refine wC ?_ | refine wK ?_ | fail)
  rw [hm0, hm1]
  clear hm0 hm1
  refine zc (yI 7 (.loc 900) 9 1 rfl rfl rfl) ?_
  refine zc (za [1, 3, 7, 11, 12] [.loc 3, .loc 900] rfl rfl) ?_
  refine zi (fun q env st => ∃ (j : Nat), j ≤ k ∧ q = k - j ∧ env = EnvL.get [(1, .t (.int .i64 g)), (3, .ref (.loc 3) 0 0 0), (7, .row (.loc 900)), (11, .t (.int .i64 (k : Int))), (12, .t (.int .i64 (j : Int)))] ∧ st = StO.get [(.loc 3, some (.var 24 [.t (.str s), .t (.int .i64 p), .t (.int .i64 c), .t (.int .i64 n), .t (.sl 1 (l.map (T.int .i64)))])), (.loc 900, some (.slt 9 1 ((sdL s g j).map .str)))])
    ?_ (n := k) ⟨0, by omega, rfl, rfl, rfl⟩
  rintro q env st ⟨j, hj, rfl, rfl, rfl⟩
  have wj : IntKind.i64.wrap ((j : Int) + 1) = ((j + 1 : Nat) : Int) := by rw [zl (by omega) (by omega)]; omega
  by_cases hlt : j < k
  · have hS := ze4 s g (j : Int) hs
    have hsuc := zhI s g j
    have hln := zdl s g j
    generalize sdS s g (j : Int) = Y at *
    repeat' (first | refine wC ?_ | (exfalso; omega) | refine wK ?_ | ((with_reducible refine zR ?_); refine zt rfl rfl rfl rfl rfl rfl rfl rfl rfl rfl ?_ ?_ ?_) | ((with_reducible refine zk ?_); refine wL hS ?_) | refine zo rfl ?_ ?_ <;> intro hc | fail)
    · simp only [List.length_map, List.length_cons, List.length_nil]; omega
    · simp only [List.length_map, List.length_cons, List.length_nil]; omega
    · exact zD (n' := k - (j + 1)) (by omega) ((za [1, 3, 7, 11, 12] [.loc 3, .loc 22] rfl rfl).trans (zq (.loc 22) (.loc 900) rfl rfl rfl rfl)) ⟨j + 1, by omega, rfl, by rw [wj]; rfl, by rw [hsuc, List.map_append, List.map_singleton]; rfl⟩
  · obtain rfl : j = k := by omega
    repeat' (first | refine wC ?_ | (exfalso; omega) | refine wK ?_ | refine zo rfl ?_ ?_ <;> intro hc | fail)
    refine ye ((za [6] [.loc 900] rfl rfl).trans (zq (.loc 900) (.res 0) rfl rfl rfl rfl)) ?_
    exact y4 (zE (xd rfl (AVLE.refl _)) (zW ⟨rfl, trivial⟩))
set_option maxHeartbeats 4000000 in
theorem zc7 (s : ByteArray) (p n : Int) (l : List Int) (k : Nat) (hs : s.size ≤ 900000) (hk : k ≤ 8) : Spec Tryz.prog 7 [.t (vaT s p (k : Int) n l)] [] (.row (.res 0)) [(.res 0, .slt 9 1 ((sdL s p k).map .str))] := by
  have hS := vG s p (k : Int) n l p k hs hk
  refine wIG Tryz.func7 ?_
  repeat' (first | refine wC ?_ | refine wK ?_ | ((with_reducible refine zk ?_); refine wN (.row (.loc 900)) [(.res 0, .loc 900)] hS ?_) | fail)
  refine ye ((za [2] [.loc 900] rfl rfl).trans (zq (.loc 900) (.res 0) rfl rfl rfl rfl)) ?_
  exact y4 (zE (xd rfl (AVLE.refl _)) (zW ⟨rfl, trivial⟩))
def kP {α : Type} (f h : Nat → α) (k j : Nat) : List α := (List.range k).map (fun i => if i < j then f i else h i)
theorem qI {α : Type} (f h : Nat → α) (k j : Nat) : (kP f h k j).length = k := by simp [kP]
theorem zdC {α : Type} [Inhabited α] (f h : Nat → α) (k j : Nat) (hj : j < k) : (kP f h k j).getD j default = h j := by
  unfold kP
  rw [List.getD_eq_getElem?_getD, List.getElem?_map, List.getElem?_range hj]
  simp
theorem zfV {α : Type} (f h : Nat → α) (k : Nat) : kP f h k 0 = (List.range k).map h := by
  unfold kP; apply List.map_congr_left; intro i _; simp
theorem zgd {α : Type} (f h : Nat → α) (k : Nat) : kP f h k k = (List.range k).map f := by
  unfold kP; apply List.map_congr_left; intro i hi; simp [List.mem_range.1 hi]
theorem zba {α : Type} (f h : Nat → α) (k j : Nat) : (kP f h k j).set j (f j) = kP f h k (j + 1) := by
  apply List.ext_getElem?
  intro i
  unfold kP
  rw [List.getElem?_set]
  by_cases e : j = i
  · subst e
    rw [if_pos rfl]
    by_cases hj : j < k
    · rw [if_pos (by simpa using hj), List.getElem?_map, List.getElem?_range hj]; simp
    · rw [if_neg (by simpa using hj), List.getElem?_map, List.getElem?_eq_none (by simpa using hj)]; rfl
  · rw [if_neg e, List.getElem?_map, List.getElem?_map]
    by_cases hk : i < k
    · rw [List.getElem?_range hk]
      simp only [Option.map_some]
      congr 1
      by_cases h1 : i < j
      · rw [if_pos h1, if_pos (by omega)]
      · rw [if_neg h1, if_neg (by omega)]
    · rw [List.getElem?_eq_none (by simpa using hk)]; rfl
def kyS (s : ByteArray) (g : Int) (i : Nat) : ByteArray := vc 2 (ktP (sdS s g (i : Int)))
set_option maxHeartbeats 4000000 in
theorem jo (s : ByteArray) (p n : Int) (l : List Int) (k : Nat) (hs : s.size ≤ 900000) (hk : k ≤ 8) : Spec Tryz.prog 8 [.t (vaT s p (k : Int) n l)] [] (.t (.sl 1 (((List.range k).map (kyS s p)).map .str))) [] := by
  have hS := vG s p (k : Int) n l p k hs hk
  rw [show sdL s p k = (List.range k).map (fun (i : Nat) => sdS s p (i : Int)) from rfl, ← zfV (kyS s p)] at hS
  rw [← zgd (kyS s p) (fun (i : Nat) => sdS s p (i : Int))]
  refine wIG Tryz.func8 ?_
  repeat' (first | refine wC ?_ | refine wK ?_ | ((with_reducible refine zk ?_); refine wN (.row (.loc 900)) [(.res 0, .loc 900)] hS ?_) | fail)
  have hln0 := qI (kyS s p) (fun (i : Nat) => sdS s p (i : Int)) k 0
  rw [hln0]
  refine zc (za [3, 12, 13, 14] [.loc 900] rfl rfl) ?_
  refine zi (fun q env st => ∃ (j : Nat), j ≤ k ∧ q = k - j ∧ env = EnvL.get [(3, .row (.loc 900)), (12, .row (.loc 900)), (13, .t (.int .i64 (k : Int))), (14, .t (.int .i64 (j : Int)))] ∧ st = StO.get [(.loc 900, some (.slt 9 1 ((kP (kyS s p) (fun (i : Nat) => sdS s p (i : Int)) k j).map .str)))])
    ?_ (n := k) ⟨0, by omega, rfl, rfl, rfl⟩
  clear hln0
  rintro q env st ⟨j, hj, rfl, rfl, rfl⟩
  have wj : IntKind.i64.wrap ((j : Int) + 1) = ((j + 1 : Nat) : Int) := by rw [zl (by omega) (by omega)]; omega
  by_cases hlt : j < k
  · have hK := zaz (sdS s p (j : Int)) (by rw [vA]; decide)
    rw [show vc 2 (ktP (sdS s p (j : Int))) = kyS s p j from rfl] at hK
    have hat := zdC (kyS s p) (fun (i : Nat) => sdS s p (i : Int)) k j hlt
    have hset := zba (kyS s p) (fun (i : Nat) => sdS s p (i : Int)) k j
    have hln := qI (kyS s p) (fun (i : Nat) => sdS s p (i : Int)) k j
    rw [← hat, ← Int.toNat_natCast j] at hK
    rw [Int.toNat_natCast j] at hK
    clear hat
    generalize kP (kyS s p) (fun (i : Nat) => sdS s p (i : Int)) k j = M at *
    generalize kyS s p j = Y at *
    rw [show M.getD j default = M.getD (j : Int).toNat default from rfl] at hK
    repeat' (first | refine wC ?_ | (exfalso; omega) | refine wK ?_ | ((with_reducible refine va ?_); refine vr rfl rfl rfl rfl rfl rfl rfl rfl ?_ ?_) | ((with_reducible refine xm ?_); refine xx rfl rfl rfl rfl rfl rfl ?_ ?_ ?_) | ((with_reducible refine zj ?_); refine yH rfl rfl rfl rfl rfl rfl rfl ?_ ?_ ?_) | ((with_reducible refine zk ?_); refine wL hK ?_) | refine zo rfl ?_ ?_ <;> intro hc | fail)
    all_goals try (simp only [List.length_map]; omega)
    all_goals try omega
    all_goals first | rfl | exact zD (n' := k - (j + 1)) (by omega) (za [3, 12, 13, 14] [.loc 900] rfl rfl) ⟨j + 1, by omega, rfl, by rw [wj]; rfl, by rw [← hset, List.map_set]; rfl⟩
  · obtain rfl : j = k := by omega
    repeat' (first | refine wC ?_ | (exfalso; omega) | refine wK ?_ | refine zo rfl ?_ ?_ <;> intro hc | fail)
    refine ye (zz (id := .loc 900) rfl rfl rfl) ?_
    exact y4 (zE (xd rfl (AVLE.refl _)) (by simp))
def usL (u : Nat → Nat) (k : Nat) : List Int := (List.range k).map (fun i => (u i : Int))
theorem za6 (u : Nat → Nat) (k : Nat) : (usL u k).length = k := by simp [usL]
theorem zgc (u : Nat → Nat) (k : Nat) {x : Int} (h : x ∈ usL u k) : ∃ i, i < k ∧ x = (u i : Int) := by
  obtain ⟨i, hi, rfl⟩ := List.mem_map.1 h
  exact ⟨i, List.mem_range.1 hi, rfl⟩
theorem zg2 (u : Nat → Nat) (k : Nat) (hk : 1 ≤ k) : ∃ t, usL u k = (u 0 : Int) :: t := by
  obtain ⟨k, rfl⟩ : ∃ j, k = j + 1 := ⟨k - 1, by omega⟩
  exact ⟨(List.range k).map (fun i => (u (i + 1) : Int)), by unfold usL; rw [List.range_succ_eq_map]; simp [Function.comp_def]⟩
theorem zgj (B : Int) : ∀ (l : List Int) (a : Int), a < B → (∀ x ∈ l, x < B) → zgL a l < B
  | [], a, h, _ => h
  | x :: l, a, h, hl => by
    unfold zgL
    apply zgj B l
    · split
      · exact hl x (by simp)
      · exact h
    · exact fun y hy => hl y (List.mem_cons_of_mem _ hy)
theorem zf2 (s : ByteArray) (p n : Int) (k : Nat) (u : Nat → Nat) (hs : s.size = 32) (hp : 0 ≤ p) (hp1 : p < 65536) (hk1 : 1 ≤ k) (hk : k ≤ 8) (hn : 0 ≤ n) (hn8 : n ≤ 8) (hu : ∀ i, i < k → u i ≤ 8) : zjE s p (k : Int) n (usL u k) = true := by
  have ha : (usL u k).any zjm = false := by
    rw [List.any_eq_false]
    intro x hx
    obtain ⟨i, hi, rfl⟩ := zgc u k hx
    have := hu i hi
    simp [zjm]; omega
  unfold zjE
  rw [ha, za6]
  simp [hs, hp, hp1, hn, hn8]; omega
def sgT (s : ByteArray) (p : Int) (u : Nat → Nat) (m : ByteArray) (i : Nat) : T := .agg [.int .i64 (i : Int), .str (ktS (sdS s p (i : Int)) (u i) m)]
def sgL (s : ByteArray) (p : Int) (u : Nat → Nat) (m : ByteArray) (k : Nat) : List T := (List.range k).map (sgT s p u m)
theorem ziq (s : ByteArray) (p : Int) (u : Nat → Nat) (m : ByteArray) (k : Nat) : (sgL s p u m k).length = k := by simp [sgL]
theorem zhc (s : ByteArray) (p : Int) (u : Nat → Nat) (m : ByteArray) (k : Nat) : sgL s p u m (k + 1) = sgL s p u m k ++ [sgT s p u m k] := by simp [sgL, List.range_succ]
theorem ziO (u : Nat → Nat) (k : Nat) : kP (fun i => ((u i : Nat) : Int) + 1) (fun i => ((u i : Nat) : Int)) k k = usL (fun i => u i + 1) k := by
  rw [zgd]; unfold usL
  apply List.map_congr_left; intro i _; rfl
set_option maxHeartbeats 16000000 in
theorem zfm (s m : ByteArray) (p n : Int) (k : Nat) (u : Nat → Nat) (hm : m.size ≤ 900000) (hs : s.size = 32) (hp : 0 ≤ p) (hp1 : p < 65536) (hk1 : 1 ≤ k) (hk : k ≤ 8) (hn : 0 ≤ n) (hn8 : n ≤ 8) (hu : ∀ i, i < k → u i < 8) : Spec Tryz.prog 24 [.t (vaT s p (k : Int) n (usL u k)), .t (.str m)] [] (.tup [.t (.sl 2 (sgL s p u m k)), .t (vaT s p (k : Int) n (usL (fun i => u i + 1) k)), .t (.int .i64 0)]) [] := by
  rw [← ziO]
  have hln := za6 u k
  have hO := zcE s p (k : Int) n (usL u k) (by omega) (by omega)
  have hV := jJ s p (k : Int) n (usL u k) (by omega)
  rw [zf2 s p n k u hs hp hp1 hk1 hk hn hn8 (fun i hi => Nat.le_of_lt (hu i hi))] at hV
  have hS := zc7 s p n (usL u k) k (by omega) hk
  obtain ⟨t, ht⟩ := zg2 u k hk1
  have htl : t.length = k - 1 := by have := congrArg List.length ht; rw [hln, List.length_cons] at this; omega
  have hM := zgV (u 0 : Int) t (by omega)
  have hX : zgL (u 0 : Int) t < 8 := by
    apply zgj
    · exact Int.ofNat_lt.2 (hu 0 hk1)
    · intro x hx
      have hx' : x ∈ usL u k := by rw [ht]; exact List.mem_cons_of_mem _ hx
      obtain ⟨i, hi, rfl⟩ := zgc u k hx'
      exact Int.ofNat_lt.2 (hu i hi)
  rw [← ht] at hM
  generalize zgL (u 0 : Int) t = X at *
  clear ht htl
  have hL := zdl s p k
  have hat := fun j (hj : j < k) => (show (sdL s p k).getD (j : Int).toNat default = sdS s p (j : Int) from by
    unfold sdL; rw [Int.toNat_natCast, List.getD_eq_getElem?_getD, List.getElem?_map, List.getElem?_range hj]; rfl)
  have hau := fun j (hj : j < k) => (show (usL u k).getD (j : Int).toNat default = (u j : Int) from by
    unfold usL; rw [Int.toNat_natCast, List.getD_eq_getElem?_getD, List.getElem?_map, List.getElem?_range hj]; rfl)
  have h0 : usL u k = kP (fun i => ((u i : Nat) : Int) + 1) (fun i => ((u i : Nat) : Int)) k 0 := (zfV _ _ _).symm
  rw [show (Row.slt 3 1 ((usL u k).map (T.int .i64))) = Row.slt 3 1 ((kP (fun i => ((u i : Nat) : Int) + 1) (fun i => ((u i : Nat) : Int)) k 0).map (T.int .i64)) from by rw [h0]] at hO
  clear h0
  generalize sdL s p k = D at *
  generalize usL u k = U at *
  refine wIG Tryz.func24 ?_
  repeat' (first | refine wC ?_ | (exfalso; omega) | refine wK ?_ | ((with_reducible refine zk ?_); first | refine wN (.agg [.t (.str s), .t (.int .i64 p), .t (.int .i64 (k : Int)), .t (.int .i64 n), .row (.loc 900)]) [(.res 0, .loc 900)] hO ?_ | refine wN (.row (.loc 902)) [(.res 0, .loc 902)] hS ?_ | refine wL hV ?_ | refine wL hM ?_) | refine zo rfl ?_ ?_ <;> intro hc | fail)
  refine zc (yI 8 (.loc 901) 49 2 rfl rfl rfl) ?_
  rw [hL]
  refine zc (za [1, 2, 5, 6, 7, 8, 27, 28, 29] [.loc 2, .loc 5, .loc 7, .loc 900, .loc 901, .loc 902] rfl rfl) ?_
  clear hO hV hS hM
  refine zi (fun q env st => ∃ (j : Nat), j ≤ k ∧ q = k - j ∧ env = EnvL.get [(1, .t (.str m)), (2, .ref (.loc 2) 0 0 0), (5, .ref (.loc 5) 0 0 0), (6, .t (.int .i64 0)), (7, .ref (.loc 7) 0 0 0), (8, .row (.loc 901)), (27, .row (.loc 902)), (28, .t (.int .i64 (k : Int))), (29, .t (.int .i64 (j : Int)))] ∧ st = StO.get [(.loc 2, some (.var 24 [.t (.str s), .t (.int .i64 p), .t (.int .i64 (k : Int)), .t (.int .i64 n), .t (.sl 1 (U.map (T.int .i64)))])), (.loc 5, some (.var 24 [.t (.str ⟨#[]⟩), .t (.int .i64 0), .t (.int .i64 0), .t (.int .i64 0), .t .nilsl])), (.loc 7, some (.var 24 [.t (.str s), .t (.int .i64 p), .t (.int .i64 (k : Int)), .t (.int .i64 n), .row (.loc 900)])), (.loc 900, some (.slt 3 1 ((kP (fun i => ((u i : Nat) : Int) + 1) (fun i => ((u i : Nat) : Int)) k j).map (T.int .i64)))), (.loc 901, some (.slt 49 2 (sgL s p u m j))), (.loc 902, some (.slt 9 1 (D.map .str)))])
    ?_ (n := k) ⟨0, by omega, rfl, rfl, rfl⟩
  rintro q env st ⟨j, hj, rfl, rfl, rfl⟩
  have wj : IntKind.i64.wrap ((j : Int) + 1) = ((j + 1 : Nat) : Int) := by rw [zl (by omega) (by omega)]; omega
  by_cases hlt : j < k
  · have hK := zc8 (sdS s p (j : Int)) m (u j) (hu j hlt) (by rw [vA]; decide) hm
    have hsg := zhc s p u m j
    have hsl := ziq s p u m j
    have hmm := zdC (fun i => ((u i : Nat) : Int) + 1) (fun i => ((u i : Nat) : Int)) k j hlt
    have hms := zba (fun i => ((u i : Nat) : Int) + 1) (fun i => ((u i : Nat) : Int)) k j
    have hml := qI (fun i => ((u i : Nat) : Int) + 1) (fun i => ((u i : Nat) : Int)) k j
    have hwu : IntKind.i64.wrap ((kP (fun i => ((u i : Nat) : Int) + 1) (fun i => ((u i : Nat) : Int)) k j).getD (j : Int).toNat default + 1) = ((u j : Nat) : Int) + 1 := by
      rw [Int.toNat_natCast, hmm]
      have := hu j hlt
      exact zl (by omega) (by omega)
    have hset : ((kP (fun i => ((u i : Nat) : Int) + 1) (fun i => ((u i : Nat) : Int)) k j).map (T.int .i64)).set (j : Int).toNat (.int .i64 (IntKind.i64.wrap ((kP (fun i => ((u i : Nat) : Int) + 1) (fun i => ((u i : Nat) : Int)) k j).getD (j : Int).toNat default + 1))) = (kP (fun i => ((u i : Nat) : Int) + 1) (fun i => ((u i : Nat) : Int)) k (j + 1)).map (T.int .i64) := by
      rw [hwu, Int.toNat_natCast, ← hms, List.map_set]
    unfold sgT at hsg
    clear hmm hms hwu
    rw [← hat j hlt, ← hau j hlt] at hK
    rw [← hat j hlt] at hsg
    generalize ktS (D.getD (j : Int).toNat default) (u j) m = Z at *
    generalize kP (fun i => ((u i : Nat) : Int) + 1) (fun i => ((u i : Nat) : Int)) k j = M at *
    clear hat hau
    repeat' (first | refine wC ?_ | (exfalso; omega) | refine wK ?_ | ((with_reducible refine va ?_); refine vr rfl rfl rfl rfl rfl rfl rfl rfl ?_ ?_) | ((with_reducible refine xm ?_); refine xx rfl rfl rfl rfl rfl rfl ?_ ?_ ?_) | ((with_reducible refine zj ?_); first | refine zg rfl rfl rfl rfl rfl rfl ?_ ?_ ?_ | refine yH rfl rfl rfl rfl rfl rfl rfl ?_ ?_ ?_) | ((with_reducible refine zR ?_); refine zt rfl rfl rfl rfl rfl rfl rfl rfl rfl rfl ?_ ?_ ?_) | ((with_reducible refine zk ?_); refine wL hK ?_) | refine zo rfl ?_ ?_ <;> intro hc | fail)
    all_goals try (simp only [List.length_map, List.length_cons, List.length_nil]; omega)
    all_goals try omega
    all_goals first | rfl | exact zD (n' := k - (j + 1)) (by omega) ((za [1, 2, 5, 6, 7, 8, 27, 28, 29] [.loc 2, .loc 5, .loc 7, .loc 900, .loc 50, .loc 902] rfl rfl).trans (zq (.loc 50) (.loc 901) rfl rfl rfl rfl)) ⟨j + 1, by omega, rfl, by rw [wj]; rfl, by rw [← hset, hsg]; rfl⟩
  · obtain rfl : j = k := by omega
    repeat' (first | refine wC ?_ | (exfalso; omega) | refine wK ?_ | refine zo rfl ?_ ?_ <;> intro hc | fail)
    refine ye (za [4, 5, 6] [.loc 5, .loc 900, .loc 901] rfl rfl) ?_
    refine ye (zz (id := .loc 900) rfl rfl rfl) ?_
    refine ye (zz (id := .loc 901) rfl rfl rfl) ?_
    refine y4 (zE ?_ (by simp)); refine qR rfl rfl rfl inferInstance rfl inferInstance rfl ?_ ?_ ?_; exact AVLE.refl _; exact TLe.av wT; exact AVLE.refl _
set_option maxHeartbeats 8000000 in
theorem zbQ (s : ByteArray) (p n nx : Int) (k : Nat) (u : Nat → Nat) (hs : s.size = 32) (hp : 0 ≤ p) (hp1 : p < 65535) (hk1 : 1 ≤ k) (hk : k ≤ 8) (hn : 1 ≤ n) (hn8 : n ≤ 8) (hx : 0 ≤ nx) (hx8 : nx ≤ 8) (hu : ∀ i, i < k → u i ≤ 8) : Spec Tryz.prog 9 [.t (vaT s p (k : Int) n (usL u k)), .t (.int .i64 nx)] [] (.tup [.t (vaT s (p + 1) n nx (List.replicate n.toNat 0)), .t (.int .i64 0)]) [] := by
  have hln := za6 u k
  have hO := zcE s p (k : Int) n (usL u k) (by omega) (by omega)
  have hV := jJ s p (k : Int) n (usL u k) (by omega)
  rw [zf2 s p n k u hs hp (by omega) hk1 hk (by omega) hn8 hu] at hV
  have hk2 := we nx 0
  rw [show (decide (0 ≤ nx) && decide (nx ≤ 8)) = true from by simp [hx, hx8]] at hk2
  have wp : IntKind.i64.wrap (p + 1) = p + 1 := zl (by omega) (by omega)
  rw [show vaT s (p + 1) n nx (List.replicate n.toNat 0) = .agg [.str s, .int .i64 (p + 1), .int .i64 n, .int .i64 nx, .sl 1 (List.replicate n.toNat (T.int .i64 0))] from by unfold vaT; rw [List.map_replicate]]
  rw [← wp]
  clear wp
  generalize usL u k = U at *
  refine wIG Tryz.func9 ?_
  repeat' (first | refine wC ?_ | (exfalso; omega) | refine zaI (r := .agg [.t (.str s), .t (.int .i64 (IntKind.i64.wrap (p + 1))), .t (.int .i64 n), .t (.int .i64 nx), .row (.loc 39)]) rfl rfl rfl rfl rfl rfl rfl ?_ | refine wK ?_ | ((with_reducible refine xo ?_); refine y5 (zT := .int _ _) rfl rfl rfl rfl rfl rfl rfl rfl rfl ?_ ?_ ?_ ?_ ?_) | ((with_reducible refine zk ?_); first | refine wN (.agg [.t (.str s), .t (.int .i64 p), .t (.int .i64 (k : Int)), .t (.int .i64 n), .row (.loc 900)]) [(.res 0, .loc 900)] hO ?_ | refine wL hV ?_ | refine wL hk2 ?_) | refine zo rfl ?_ ?_ <;> intro hc | fail)
  · omega
  · omega
  · omega
  · omega
  refine ye (zz (id := .loc 39) rfl rfl rfl) ?_
  refine y4 (zE ?_ (by simp)); refine qC rfl rfl rfl inferInstance rfl inferInstance rfl ?_ ?_; exact TLe.av wT; exact AVLE.refl _
def sdN (n : Int) : ByteArray := vL ((List.replicate 32 (T.int .u8 0)).set 0 (.int .u8 n))
theorem zbe (n : Int) : (sdN n).size = 32 := vq _
set_option maxHeartbeats 2000000 in
theorem zaf (n : Int) (h0 : 0 ≤ n) (h1 : n < 256) : Spec Tryz.prog 5 [.t (.int .u8 n)] [] (.t (.str (sdN n))) [] := by
  refine wI Tryz.func5 ?_
  repeat' (first | refine wC ?_ | refine wK ?_ | ((with_reducible refine xm ?_); refine xx rfl rfl rfl rfl rfl rfl ?_ ?_ ?_) | ((with_reducible refine zj ?_); refine yH rfl rfl rfl rfl rfl rfl rfl ?_ ?_ ?_) | ((with_reducible refine zY ?_); refine zF rfl rfl rfl rfl rfl rfl ?_ ?_) | ((with_reducible refine xo ?_); refine y5 (zT := .int _ _) rfl rfl rfl rfl rfl rfl rfl rfl rfl ?_ ?_ ?_ ?_ ?_) | fail)
  all_goals first | decide | rfl | skip
  · intro e he
    rcases List.mem_or_eq_of_mem_set he with h | h
    · rw [List.eq_of_mem_replicate h]; rfl
    · rw [h]; rfl
  · exact zE (zh rfl rfl rfl) (by simp)
theorem zcS (s m : ByteArray) (p n : Int) (u : Nat) (hm : m.size ≤ 900000) (hs : s.size = 32) (hp : 0 ≤ p) (hp1 : p < 65536) (hn : 0 ≤ n) (hn8 : n ≤ 8) (hu : u < 8) : Spec Tryz.prog 24 [.t (vaT s p 1 n [(u : Int)]), .t (.str m)] [] (.tup [.t (.sl 2 [.agg [.int .i64 0, .str (ktS (sdS s p 0) u m)]]), .t (vaT s p 1 n [((u + 1 : Nat) : Int)]), .t (.int .i64 0)]) [] :=
  zfm s m p n 1 (fun _ => u) hm hs hp hp1 (by omega) (by omega) hn hn8 (fun _ _ => hu)
theorem zeZ (s : ByteArray) (hs : s.size = 32) : Spec Tryz.prog 4 [.t (.str s), .t (.int .i64 1), .t (.int .i64 1)] [] (.tup [.t (vaT s 0 1 1 [((0 : Nat) : Int)]), .t (.int .i64 0)]) [] :=
  zcr s 1 1 hs (by decide) (by decide) (by decide) (by decide)
theorem zeW (s : ByteArray) (p n : Int) (l : List Int) (hs : s.size ≤ 900000) : Spec Tryz.prog 8 [.t (vaT s p 1 n l)] [] (.t (.sl 1 [.str (vc 2 (ktP (sdS s p 0)))])) [] :=
  jo s p n l 1 hs (by decide)
set_option maxRecDepth 8000 in
set_option maxHeartbeats 8000000 in
theorem zbE : Spec Tryz.prog 13 [] [] (.t (.bool true)) [] := by
  have h0 := zaf 1 (by decide) (by decide)
  have z0 := zbe 1
  generalize sdN 1 = S at *
  obtain ⟨M, hM⟩ : ∃ M : ByteArray, M = ⟨#[116, 101, 120, 116]⟩ := ⟨_, rfl⟩
  have hMz : M.size ≤ 900000 := by rw [hM]; decide
  have h1 := zeZ S z0
  have h2 := zcS S M 0 1 0 hMz z0 (by decide) (by decide) (by decide) (by decide) (by decide)
  have h3 := zeW S 0 1 [((0 : Nat) : Int)] (by omega)
  have h4 := zdy (sdS S 0 0) M 0 (by decide) (by rw [vA]; decide) hMz
  rw [hM] at h2 h4
  clear hM hMz
  generalize vc 2 (ktP (sdS S 0 0)) = K at *
  generalize ktS (sdS S 0 0) 0 ⟨#[116, 101, 120, 116]⟩ = G at *
  unfold vaT at h1 h2 h3
  refine wI Tryz.func13 ?_
  repeat' (first | refine wC ?_ | refine wK ?_ | ((with_reducible refine zk ?_); first | refine wL h0 ?_ | refine wL h1 ?_) | fail)
  refine wL h2 ?_
  repeat' (first | refine wC ?_ | refine wK ?_ | fail)
  refine wL h3 ?_
  repeat' (first | refine wC ?_ | refine xM rfl rfl rfl rfl rfl rfl ?_ ?_ ?_ | refine wK ?_ | ((with_reducible refine zk ?_); refine wL h4 ?_) | fail)
  all_goals first | omega | (simp; done) | exact zE (zh rfl rfl (congrArg T.bool (by simp))) (by simp)
end Go.AL
