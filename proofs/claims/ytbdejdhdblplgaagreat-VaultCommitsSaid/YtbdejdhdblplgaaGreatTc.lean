/- What functions of the program and of the document answer, and the plain laws behind it; each under the conditions that its own theorem names. -/
import Derived.Test.YtbdejdhdblplgaaGreatTb
import Derived.Test.YtbdejdhdblplgaaGreatAl3
import Derived.Test.YtbdejdhdblplgaaGreatAl4
import Derived.Test.YtbdejdhdblplgaaGreatTa
set_option linter.unusedVariables false
namespace Go.AL
open Go Go.Proofs Go.RowKit
theorem ziy : ∀ u, u < 64 → ∀ v, v < 64 → alC u = alC v → u = v := by decide +kernel
theorem zkZ {N M : Nat} (hN : N < 16777216) (hM : M < 16777216) (h : ∀ i, i < 4 → dgN N i = dgN M i) : N = M := by
  have a0 := xC N 0 (by decide) hN
  have a1 := xC N 1 (by decide) hN
  have a2 := xC N 2 (by decide) hN
  have a3 := xC N 3 (by decide) hN
  have b0 := xC M 0 (by decide) hM
  have b1 := xC M 1 (by decide) hM
  have b2 := xC M 2 (by decide) hM
  have b3 := xC M 3 (by decide) hM
  have h0 := h 0 (by decide)
  have h1 := h 1 (by decide)
  have h2 := h 2 (by decide)
  have h3 := h 3 (by decide)
  simp only [Nat.mul_zero, Nat.sub_zero, Nat.reduceMul, Nat.reduceSub, Nat.reducePow, Nat.div_one] at a0 a1 a2 a3 b0 b1 b2 b3
  generalize dgN N 0 = p0 at *
  generalize dgN N 1 = p1 at *
  generalize dgN N 2 = p2 at *
  generalize dgN N 3 = p3 at *
  generalize dgN M 0 = q0 at *
  generalize dgN M 1 = q1 at *
  generalize dgN M 2 = q2 at *
  generalize dgN M 3 = q3 at *
  omega
theorem zhb (k : Nat) (l l' : List UInt8) (h1 : l.length = 3 * k) (h2 : l'.length = 3 * k) (h : j4 k l = j4 k l') : l = l' := by
  have hN : ∀ j, j < k → N3 l j = N3 l' j := fun j hj => zkZ (ziJ l j) (ziJ l' j) fun i hi => by
    have e1 := za0 k j i l h1 hj hi
    have e2 := za0 k j i l' h2 hj hi
    rw [h, e2] at e1
    exact (ziy _ (zao _ _) _ (zao _ _) e1).symm
  apply List.ext_getElem (by omega)
  intro n hn hn'
  have g : ∀ (x : List UInt8) (hx : n < x.length), x[n] = x.getD n 0 := fun x hx => by rw [List.getD_eq_getElem?_getD, List.getElem?_eq_getElem hx]; rfl
  rw [g l hn, g l' hn']
  have hj := hN (n / 3) (by omega)
  obtain ⟨a1, a2, a3⟩ := zaV l (n / 3)
  obtain ⟨b1, b2, b3⟩ := zaV l' (n / 3)
  rw [hj] at a1 a2 a3
  have : n = 3 * (n / 3) ∨ n = 3 * (n / 3) + 1 ∨ n = 3 * (n / 3) + 2 := by omega
  rcases this with e | e | e <;> rw [e] <;> apply UInt8.toNat_inj.1
  · rw [← a1, ← b1]
  · rw [← a2, ← b2]
  · rw [← a3, ← b3]
theorem zjk {a b : ByteArray} (ha : a.size = 32) (hb : b.size = 32) (h : vc 2 a = vc 2 b) : a = b := by
  obtain ⟨X, x1, x2, x3⟩ := kY a ha
  obtain ⟨Y, y1, y2, y3⟩ := kY b hb
  have hXY : X = Y := by
    rw [x1, y1] at h
    have := congrArg (fun s : ByteArray => s.data.toList) h
    simp only [ByteArray.data_append, Array.toList_append] at this
    exact ByteArray.ext (Array.ext' (List.append_cancel_left this))
  have he : ofL (j4 11 (0 :: a.data.toList)) = ofL (j4 11 (0 :: b.data.toList)) := by rw [← x3, ← y3, hXY]
  have hl : j4 11 (0 :: a.data.toList) = j4 11 (0 :: b.data.toList) := by
    have := congrArg (fun s : ByteArray => s.data.toList) he
    simpa only [xn] using this
  have := zhb 11 _ _ (by rw [List.length_cons, Array.length_toList]; show a.size + 1 = 33; omega) (by rw [List.length_cons, Array.length_toList]; show b.size + 1 = 33; omega) hl
  exact ByteArray.ext (Array.ext' (List.cons.inj this).2)
theorem zdS (s : ByteArray) (g : Int) (i : Nat) : (kyS s g i).size = 44 := by
  obtain ⟨X, x1, x2, _⟩ := kY (ktP (sdS s g (i : Int))) (wX _)
  unfold kyS
  rw [x1, ByteArray.size_append, x2]; rfl
def dgS (s : ByteArray) : ByteArray := vc 1 (sha s)
set_option maxHeartbeats 2000000 in
theorem zcI (s : ByteArray) (hs : s.size ≤ 900000) : Spec Tryz.prog 16 [.t (.str s)] [] (.t (.str (dgS s))) [] := by
  have hP := vx s (by omega)
  have hM := zct 1 (by omega) (by omega) (sha s) (by rw [xw]; rfl)
  unfold dgS
  generalize vc 1 (sha s) = Z at *
  generalize sha s = Y at *
  refine wI Tryz.func16 ?_
  repeat' (first | refine wC ?_ | refine wK ?_ | ((with_reducible refine zk ?_); first | refine wL hP ?_ | refine wL hM ?_) | fail)
  exact zE (zh rfl rfl rfl) (by simp)
def nxS (s : ByteArray) (g : Int) (i : Nat) : ByteArray := dgS (kyS s g i)
set_option maxHeartbeats 4000000 in
theorem zeE (s : ByteArray) (p c : Int) (l : List Int) (k : Nat) (hs : s.size ≤ 900000) (hk : k ≤ 8) (hp : 0 ≤ p) (hp1 : p < 65536) : Spec Tryz.prog 6 [.t (vaT s p c (k : Int) l)] [] (.t (.sl 1 (((List.range k).map (nxS s (p + 1))).map .str))) [] := by
  have hS := vG s p c (k : Int) l (p + 1) k hs hk
  have wp : IntKind.i64.wrap (p + 1) = p + 1 := zl (by omega) (by omega)
  rw [show sdL s (p + 1) k = (List.range k).map (fun (i : Nat) => sdS s (p + 1) (i : Int)) from rfl, ← zfV (nxS s (p + 1))] at hS
  rw [← zgd (nxS s (p + 1)) (fun (i : Nat) => sdS s (p + 1) (i : Int))]
  rw [← wp] at hS ⊢
  rw [show sdS s (IntKind.i64.wrap (p + 1)) = sdS s (p + 1) from by rw [wp]] at hS
  rw [show nxS s (IntKind.i64.wrap (p + 1)) = nxS s (p + 1) from by rw [wp]] at hS ⊢
  rw [show sdS s (IntKind.i64.wrap (p + 1)) = sdS s (p + 1) from by rw [wp]]
  refine wIG Tryz.func6 ?_
  repeat' (first | refine wC ?_ | refine wK ?_ | ((with_reducible refine zk ?_); refine wN (.row (.loc 900)) [(.res 0, .loc 900)] hS ?_) | fail)
  have hln0 := qI (nxS s (p + 1)) (fun (i : Nat) => sdS s (p + 1) (i : Int)) k 0
  rw [hln0]
  refine zc (za [3, 13, 14, 15] [.loc 900] rfl rfl) ?_
  refine zi (fun q env st => ∃ (j : Nat), j ≤ k ∧ q = k - j ∧ env = EnvL.get [(3, .row (.loc 900)), (13, .row (.loc 900)), (14, .t (.int .i64 (k : Int))), (15, .t (.int .i64 (j : Int)))] ∧ st = StO.get [(.loc 900, some (.slt 9 1 ((kP (nxS s (p + 1)) (fun (i : Nat) => sdS s (p + 1) (i : Int)) k j).map .str)))])
    ?_ (n := k) ⟨0, by omega, rfl, rfl, rfl⟩
  clear hln0
  rintro q env st ⟨j, hj, rfl, rfl, rfl⟩
  have wj : IntKind.i64.wrap ((j : Int) + 1) = ((j + 1 : Nat) : Int) := by rw [zl (by omega) (by omega)]; omega
  by_cases hlt : j < k
  · have hK := zaz (sdS s (p + 1) (j : Int)) (by rw [vA]; decide)
    rw [show vc 2 (ktP (sdS s (p + 1) (j : Int))) = kyS s (p + 1) j from rfl] at hK
    have hD := zcI (kyS s (p + 1) j) (by rw [zdS]; decide)
    rw [show dgS (kyS s (p + 1) j) = nxS s (p + 1) j from rfl] at hD
    have hat := zdC (nxS s (p + 1)) (fun (i : Nat) => sdS s (p + 1) (i : Int)) k j hlt
    have hset := zba (nxS s (p + 1)) (fun (i : Nat) => sdS s (p + 1) (i : Int)) k j
    have hln := qI (nxS s (p + 1)) (fun (i : Nat) => sdS s (p + 1) (i : Int)) k j
    rw [← hat, ← Int.toNat_natCast j] at hK
    rw [Int.toNat_natCast j] at hK
    clear hat hS
    generalize kP (nxS s (p + 1)) (fun (i : Nat) => sdS s (p + 1) (i : Int)) k j = M at *
    generalize nxS s (p + 1) j = Y at *
    generalize kyS s (p + 1) j = X at *
    rw [show M.getD j default = M.getD (j : Int).toNat default from rfl] at hK
    repeat' (first | refine wC ?_ | (exfalso; omega) | refine wK ?_ | ((with_reducible refine va ?_); refine vr rfl rfl rfl rfl rfl rfl rfl rfl ?_ ?_) | ((with_reducible refine xm ?_); refine xx rfl rfl rfl rfl rfl rfl ?_ ?_ ?_) | ((with_reducible refine zj ?_); refine yH rfl rfl rfl rfl rfl rfl rfl ?_ ?_ ?_) | ((with_reducible refine zk ?_); first | refine wL hK ?_ | refine wL hD ?_) | refine zo rfl ?_ ?_ <;> intro hc | fail)
    all_goals try (simp only [List.length_map]; omega)
    all_goals try omega
    all_goals first | rfl | exact zD (n' := k - (j + 1)) (by omega) (za [3, 13, 14, 15] [.loc 900] rfl rfl) ⟨j + 1, by omega, rfl, by rw [wj]; rfl, by rw [← hset, List.map_set]; rfl⟩
  · obtain rfl : j = k := by omega
    repeat' (first | refine wC ?_ | (exfalso; omega) | refine wK ?_ | refine zo rfl ?_ ?_ <;> intro hc | fail)
    refine ye (zz (id := .loc 900) rfl rfl rfl) ?_
    exact y4 (zE (xd rfl (AVLE.refl _)) (by simp))
set_option maxHeartbeats 2000000 in
theorem zbV (s : ByteArray) (hs : s.size ≤ 9223372036854775807) : Spec Tryz.prog 58 [.t (.str s)] [] (.tup [.t (.str (vW s).1), .t (.int .i64 (vW s).2)]) [] := by
  refine wI Tryz.func58 ?_
  repeat' (first | refine wC ?_ | refine wK ?_ | refine zo rfl ?_ ?_ <;> intro hc | refine yL rfl ?_ ?_ <;> intro hc | fail)
  case' refine_1 =>
    refine zE (yd rfl rfl rfl ?_ ?_) (by simp) <;> simp [vW, hc]
  case' refine_2.refine_2 =>
    refine zE (yd rfl rfl rfl ?_ ?_) (by simp) <;> simp [vW, *]
  have q3 : (s.size : Int).tmod 3 = ((s.size % 3 : Nat) : Int) := rfl
  rw [q3] at hc
  have q0 : 3 * (s.size / 3) = s.size := by omega
  refine zc (za [0, 2, 3, 4, 5] [] rfl rfl) ?_
  refine zc (yI 4 (.loc 1000) 5 1 rfl rfl rfl) ?_
  refine zc (za [0, 2, 3, 4, 5] [.loc 1000] rfl rfl) ?_
  refine zi (fun n env st => ∃ (k j : Nat) (es : List T), j + k = s.size / 3 ∧ n = k ∧ IsU8 es ∧ es.length = 4 * j ∧ es ++ zjo k j s = zjo (s.size / 3) 0 s ∧
      env = EnvL.get [(0, .t (.str s)), (2, .t (.str ⟨#[]⟩)), (3, .t (.int .i64 0)), (4, .row (.loc 1000)), (5, .t (.int .i64 ((3 * j : Nat) : Int)))] ∧ st = StO.get [(.loc 1000, some (.slt 5 1 es))]) ?_ (n := s.size / 3) ⟨s.size / 3, 0, _, by omega, rfl, ?_, ?_, ?_, rfl, rfl⟩
  · rintro n env st ⟨k, j, es, hr, rfl, hu, hl, he, rfl, rfl⟩
    repeat' (first | refine wC ?_ | refine wK ?_ | ((with_reducible refine yu ?_); refine zQ rfl rfl rfl rfl rfl rfl ?_ ?_ ?_) | ((with_reducible refine zY ?_); refine zF rfl rfl rfl rfl rfl rfl ?_ ?_) | ((with_reducible refine zR ?_); refine zt rfl rfl rfl rfl rfl rfl rfl rfl rfl rfl ?_ ?_ ?_) | refine zo rfl ?_ ?_ <;> intro hc | fail)
    all_goals try rw [zl (n := ((3 * j : Nat) : Int) + 1) (by omega) (by omega)]
    all_goals try rw [zl (n := ((3 * j : Nat) : Int) + 2) (by omega) (by omega)]
    all_goals try first | omega | exact hu | exact (qj (qJ (vb _ _) (vb _ _) (vb _ _))).1 | exact (qj (qJ (vb _ _) (vb _ _) (vb _ _))).2 | exact (kZ _).1 | exact (kZ _).2 | (simp only [List.length_cons, List.length_nil]; omega)
    · obtain ⟨m, rfl⟩ : ∃ m, n = m + 1 := ⟨n - 1, by omega⟩
      refine zD (n' := m) (by omega) ((za [0, 2, 3, 4, 5] [.loc 56] rfl rfl).trans (zq (.loc 56) (.loc 1000) rfl rfl rfl rfl)) ⟨m, j + 1, _, ?_, rfl, ?_, ?_, ?_, ?_, rfl⟩
      · omega
      · exact hu.append (zfw _)
      · simp; omega
      · rw [List.append_assoc]; exact he
      · rw [zl (by omega) (by omega)]; rfl
    · have hn : n = 0 := by omega
      subst hn
      simp [zjo] at he
      subst he
      refine zE (yd rfl rfl rfl ?_ ?_) (by simp) <;> simp [vW, *]
  · intro e he; simp at he
  · simp
  · simp
theorem zcY (s : ByteArray) (a i : Nat) (h : a + i < s.size) : bAt (s.extract a s.size) (i : Int) = bAt s ((a + i : Nat) : Int) := by
  have e : s.extract a s.size = ofL (s.data.toList.drop a) := by
    have := yE s.data.toList a s.size
    rw [wE] at this
    rw [this, List.take_of_length_le (by rw [List.length_drop, Array.length_toList]; exact Nat.le_refl _)]
  rw [e]
  unfold bAt
  simp only [Int.toNat_natCast, xn]
  rw [List.getD_eq_getElem?_getD, List.getD_eq_getElem?_getD, List.getElem?_drop]
theorem zfx : ∀ (k j : Nat) (s : ByteArray), s.size = 3 * (j + k) → zjo k j s = zeP k (s.extract (3 * j) s.size)
  | 0, _, _, _ => rfl
  | k + 1, j, s, h => by
    rw [zjo, zeP, zfx k (j + 1) s (by omega)]
    have a0 := zcY s (3 * j) 0 (by omega)
    have a1 := zcY s (3 * j) 1 (by omega)
    have a2 := zcY s (3 * j) 2 (by omega)
    rw [Nat.add_zero] at a0
    rw [← a0, ← a1, ← a2]
    have e : (s.extract (3 * j) s.size).extract 3 (s.extract (3 * j) s.size).size = s.extract (3 * (j + 1)) s.size := by
      rw [ByteArray.size_extract, ByteArray.extract_extract]
      congr 1
      omega
    rw [e]; rfl
theorem zcx (s : ByteArray) (hs : s.size = 33) : Spec Tryz.prog 58 [.t (.str s)] [] (.tup [.t (.str (y6 s).1), .t (.int .i64 0)]) [] := by
  have h := zbV s (by omega)
  have h3 : (s.size : Int).tmod 3 = 0 := by rw [hs]; decide
  have e : vW s = ((y6 s).1, 0) := by
    unfold vW y6
    rw [if_neg (by omega), if_neg (by rw [h3]; decide), if_neg (by omega), if_neg (by rw [h3]; decide), zfx _ 0 s (by rw [hs]), Nat.mul_zero, ByteArray.extract_zero_size]
  rw [e] at h
  exact h
set_option maxHeartbeats 2000000 in
theorem zan : Spec Tryz.prog 56 [.t (.int .i64 1)] [] (.t (.int .i64 32)) [] := by
  refine wI Tryz.func56 ?_
  repeat' (first | refine wC ?_ | refine yS (es := [0, 32, 32, 32, 32, 16, 2, 626, 6].map (T.int .i64)) rfl rfl rfl rfl rfl rfl ?_ | refine wK ?_ | ((with_reducible refine zj ?_); refine zg rfl rfl rfl rfl rfl rfl ?_ ?_ ?_) | fail)
  all_goals first | decide | rfl | exact zE (zh rfl rfl rfl) (by simp)
set_option maxHeartbeats 2000000 in
theorem zdb : Spec Tryz.prog 57 [.t (.int .i64 1)] [] (.t (.int .i64 1)) [] := by
  have hR := zan
  refine wI Tryz.func57 ?_
  repeat' (first | refine wC ?_ | refine wK ?_ | ((with_reducible refine zk ?_); refine wL hR ?_) | fail)
  all_goals first | decide | rfl | exact zE (zh rfl rfl (congrArg (T.int .i64) (by decide))) (by simp)
theorem zh0 (x : Int) (c r : ByteArray) (hx : zjy x = c) (hl : (ldS (kF x)).toNat = 1) (hr : r.size = 32) : vc x r = c ++ (y6 (⟨#[0]⟩ ++ r)).1.extract 1 44 := by
  have hz : ((⟨#[0]⟩ : ByteArray) ++ r).size = 33 := by rw [ByteArray.size_append, hr]; rfl
  have h2 := (zcA ((⟨#[0]⟩ : ByteArray) ++ r) (by omega) (by omega)).2
  rw [hz] at h2
  unfold vc
  rw [hx, hl, show zcL 1 = ⟨#[0]⟩ from rfl, h2]
set_option maxHeartbeats 4000000 in
theorem za5 (r : ByteArray) (hr : r.size = 32) : Spec Tryz.prog 33 [.t (.agg [.int .i64 1, .str r])] [] (.tup [.t (.str (vc 1 r)), .t (.int .i64 0)]) [] := by
  have hR := zan
  have hL := zdb
  have hC := jN
  have hz : ((⟨#[0]⟩ : ByteArray) ++ r).size = 33 := by rw [ByteArray.size_append, hr]; rfl
  have hE := zcx ((⟨#[0]⟩ : ByteArray) ++ r) hz
  have h2 := (zcA ((⟨#[0]⟩ : ByteArray) ++ r) (by omega) (by omega)).2
  rw [hz] at h2
  rw [zh0 1 ⟨#[69]⟩ r (by decide) (by decide) hr]
  generalize (y6 ((⟨#[0]⟩ : ByteArray) ++ r)).1 = Y at *
  have e44 : Y.size = 44 := h2
  rw [show Y.extract 1 44 = Y.extract 1 Y.size from by rw [e44]]
  refine wI Tryz.func33 ?_
  have hEx : ∀ a b, (Y.extract a b).size ≤ 44 := fun a b => by rw [ByteArray.size_extract]; omega
  repeat' (first | refine wC ?_ | (exfalso; omega) | refine wK ?_ | ((with_reducible refine zU ?_); refine zL rfl rfl rfl rfl rfl rfl ?_ ?_) | ((with_reducible refine yA ?_); first | refine zy rfl rfl rfl ⟨_, rfl⟩ rfl rfl rfl ?_ ?_ ?_ ?_ | refine zy rfl rfl ⟨_, rfl⟩ rfl rfl rfl rfl ?_ ?_ ?_ ?_) | ((with_reducible refine zk ?_); first | refine wL hR ?_ | refine wL hL ?_ | refine wL hC ?_ | refine wL hE ?_) | refine yL rfl ?_ ?_ <;> intro hc | fail)
  all_goals try omega
  all_goals first | decide | (rw [hr]; decide) | (have := hEx (Int.toNat 1) (Y.size : Int).toNat; show 1 + _ ≤ _; omega) | exact zE (yd rfl rfl rfl rfl rfl) (by simp)
set_option maxHeartbeats 2000000 in
theorem zdD (r : ByteArray) (hr : r.size = 32) : Spec Tryz.prog 20 [.t (.int .i64 1), .t (.str r)] [] (.t (.str (vc 1 r))) [] := by
  have hE := za5 r hr
  generalize vc 1 r = Y at *
  refine wI Tryz.func20 ?_
  repeat' (first | refine wC ?_ | refine wK ?_ | ((with_reducible refine zk ?_); refine wL hE ?_) | fail)
  exact zE (zh rfl rfl rfl) (by simp)
set_option maxHeartbeats 4000000 in
theorem zaD (r : ByteArray) (hr : r.size = 32) : Spec Tryz.prog 33 [.t (.agg [.int .i64 2, .str r])] [] (.tup [.t (.str (vc 2 r)), .t (.int .i64 0)]) [] := by
  have hR := jT
  have hL := qZ
  have hC := vU
  have hz : ((⟨#[0]⟩ : ByteArray) ++ r).size = 33 := by rw [ByteArray.size_append, hr]; rfl
  have hE := zcx ((⟨#[0]⟩ : ByteArray) ++ r) hz
  have h2 := (zcA ((⟨#[0]⟩ : ByteArray) ++ r) (by omega) (by omega)).2
  rw [hz] at h2
  rw [zh0 2 ⟨#[68]⟩ r (by decide) (by decide) hr]
  generalize (y6 ((⟨#[0]⟩ : ByteArray) ++ r)).1 = Y at *
  have e44 : Y.size = 44 := h2
  rw [show Y.extract 1 44 = Y.extract 1 Y.size from by rw [e44]]
  refine wI Tryz.func33 ?_
  have hEx : ∀ a b, (Y.extract a b).size ≤ 44 := fun a b => by rw [ByteArray.size_extract]; omega
  repeat' (first | refine wC ?_ | (exfalso; omega) | refine wK ?_ | ((with_reducible refine zU ?_); refine zL rfl rfl rfl rfl rfl rfl ?_ ?_) | ((with_reducible refine yA ?_); first | refine zy rfl rfl rfl ⟨_, rfl⟩ rfl rfl rfl ?_ ?_ ?_ ?_ | refine zy rfl rfl ⟨_, rfl⟩ rfl rfl rfl rfl ?_ ?_ ?_ ?_) | ((with_reducible refine zk ?_); first | refine wL hR ?_ | refine wL hL ?_ | refine wL hC ?_ | refine wL hE ?_) | refine yL rfl ?_ ?_ <;> intro hc | fail)
  all_goals try omega
  all_goals first | decide | (rw [hr]; decide) | (have := hEx (Int.toNat 1) (Y.size : Int).toNat; show 1 + _ ≤ _; omega) | exact zE (yd rfl rfl rfl rfl rfl) (by simp)
set_option maxHeartbeats 2000000 in
theorem zdH (r : ByteArray) (hr : r.size = 32) : Spec Tryz.prog 20 [.t (.int .i64 2), .t (.str r)] [] (.t (.str (vc 2 r))) [] := by
  have hE := zaD r hr
  generalize vc 2 r = Y at *
  refine wI Tryz.func20 ?_
  repeat' (first | refine wC ?_ | refine wK ?_ | ((with_reducible refine zk ?_); refine wL hE ?_) | fail)
  exact zE (zh rfl rfl rfl) (by simp)
set_option maxHeartbeats 2000000 in
theorem zbM (s : ByteArray) (hs : s.size ≤ 900000) : Spec Tryz.prog 10 [.t (.str s)] [] (.t (.str (dgS s))) [] := by
  have hP := wF s (by omega)
  have hM := zdD (sha s) (xw s)
  unfold dgS
  generalize vc 1 (sha s) = Z at *
  generalize sha s = Y at *
  refine wI Tryz.func10 ?_
  repeat' (first | refine wC ?_ | refine wK ?_ | ((with_reducible refine zk ?_); first | refine wL hP ?_ | refine wL hM ?_) | fail)
  exact zE (zh rfl rfl rfl) (by simp)
set_option maxHeartbeats 2000000 in
theorem zhn (r : ByteArray) (hr : r.size = 32) : Spec Tryz.prog 11 [.t (.int .i64 2), .t (.str (vc 2 r))] [] (.t (.bool true)) [] := by
  have hO := j9 r hr
  generalize vc 2 r = Z at *
  refine wI Tryz.func11 ?_
  repeat' (first | refine wC ?_ | refine wK ?_ | ((with_reducible refine zk ?_); refine wL hO ?_) | fail)
  all_goals exact zE (zh rfl rfl rfl) (by simp)
set_option maxHeartbeats 2000000 in
theorem zb0 (s : ByteArray) (u : Int) (hs : s.size ≤ 900000) : Spec Tryz.prog 81 [.t (.str s), .t (.int .i64 u)] [] (.t (.str (xU s u))) [] := by
  have hz := qm u
  have hS := wF (s ++ byS u) (by rw [ByteArray.size_append, hz]; omega)
  rw [← zh8] at hS
  unfold xU
  rw [← zh8]
  generalize sha (s ++ vL [T.int .u8 (IntKind.u8.wrap u)]) = Y at *
  unfold byS at hz
  refine wI Tryz.func81 ?_
  repeat' (first | refine wC ?_ | refine wK ?_ | ((with_reducible refine zU ?_); refine zL rfl rfl rfl rfl rfl rfl ?_ ?_) | ((with_reducible refine zY ?_); refine zF rfl rfl rfl rfl rfl rfl ?_ ?_) | ((with_reducible refine zk ?_); refine wL hS ?_) | fail)
  all_goals try exact kW _
  all_goals try omega
  exact zE (zh rfl rfl rfl) (by simp)
set_option maxHeartbeats 2000000 in
theorem zeR (s : ByteArray) (u : Nat) (hs : s.size ≤ 900000) : Spec Tryz.prog 63 [.t (.str s), .t (.int .i64 (u : Int))] [] (.t (.str (ktL s 0 u))) [] := by
  have hS := zb0 s (u : Int) hs
  have hz := qG s (u : Int)
  have hP := zcl (xU s (u : Int)) (by omega)
  have hz2 : (vJ (xU s (u : Int))).size = 16 := yC _
  have hT := yV (⟨#[0]⟩ ++ vJ (xU s (u : Int))) (by rw [ByteArray.size_append, hz2]; decide)
  rw [show ktL s 0 u = zO (⟨#[0]⟩ ++ vJ (xU s (u : Int))) from by rw [ktL]; rfl]
  generalize zO (⟨#[0]⟩ ++ vJ (xU s (u : Int))) = Y at *
  generalize vJ (xU s (u : Int)) = Z at *
  generalize xU s (u : Int) = X at *
  refine wI Tryz.func63 ?_
  have z0 : (⟨#[0]⟩ : ByteArray).size = 1 := rfl
  repeat' (first | refine wC ?_ | refine wK ?_ | ((with_reducible refine zU ?_); refine zL rfl rfl rfl rfl rfl rfl ?_ ?_) | ((with_reducible refine zk ?_); first | refine wL hS ?_ | refine wL hP ?_ | refine wL hT ?_) | fail)
  all_goals try omega
  exact zE (zh rfl rfl rfl) (by simp)
set_option maxHeartbeats 16000000 in
theorem zdf (s : ByteArray) (hs : s.size ≤ 900000) : Spec Tryz.prog 39 [.t (.str s)] [] (.t (.sl 1 [.sl 1 ((zC s 0 8).map .str), .sl 1 ((zC s 1 4).map .str), .sl 1 ((zC s 2 2).map .str), .sl 1 ((zC s 3 1).map .str)])) [] := by
  have l0 := zV s 0 8
  have l1 := zV s 1 4
  have l2 := zV s 2 2
  have l3 := zV s 3 1
  refine wIG Tryz.func39 ?_
  repeat' (first | refine wC ?_ | refine wK ?_ | fail)
  refine zc (yI 3 (.loc 900) 9 1 rfl rfl rfl) ?_
  refine zc (za [0, 3, 8] [.loc 900] rfl rfl) ?_
  refine zi (fun q env st => ∃ (j : Nat), j ≤ 8 ∧ q = 8 - j ∧ env = EnvL.get [(0, .t (.str s)), (3, .row (.loc 900)), (8, .t (.int .i64 (j : Int)))] ∧ st = StO.get [(.loc 900, some (.slt 9 1 ((zC s 0 j).map .str)))])
    ?_ (n := 8) ⟨0, by omega, rfl, rfl, rfl⟩
  rintro q env st ⟨j, hj, rfl, rfl, rfl⟩
  have wj : IntKind.i64.wrap ((j : Int) + 1) = ((j + 1 : Nat) : Int) := by rw [zl (by omega) (by omega)]; omega
  by_cases hlt : j < 8
  · have hL := zeR s j hs
    have hsuc := yZ s 0 j
    have hln := zV s 0 j
    generalize ktL s 0 j = Y at *
    repeat' (first | refine wC ?_ | (exfalso; omega) | refine wK ?_ | ((with_reducible refine zR ?_); refine zt rfl rfl rfl rfl rfl rfl rfl rfl rfl rfl ?_ ?_ ?_) | ((with_reducible refine zk ?_); refine wL hL ?_) | refine zo rfl ?_ ?_ <;> intro hc | fail)
    all_goals try (simp only [List.length_map, List.length_cons, List.length_nil]; omega)
    all_goals try omega
    all_goals exact zD (n' := 8 - (j + 1)) (by omega) ((za [0, 3, 8] [.loc 16] rfl rfl).trans (zq (.loc 16) (.loc 900) rfl rfl rfl rfl)) ⟨j + 1, by omega, rfl, by rw [wj]; rfl, by rw [hsuc, List.map_append, List.map_singleton]; rfl⟩
  · obtain rfl : j = 8 := by omega
    refine zc (zz (id := .loc 900) rfl rfl rfl) ?_
    repeat' (first | refine wC ?_ | refine wK ?_ | fail)
    refine zc ((za [0, 3, 5] [.loc 19] rfl rfl).trans (zq (.loc 19) (.loc 902) rfl rfl rfl rfl)) ?_
    refine zi (fun q env st => (q = 3 ∧ env = EnvL.get [(0, .t (.str s)), (3, .t (.sl 1 ((zC s 0 8).map .str))), (5, .row (.loc 902))] ∧ st = StO.get [(.loc 902, some (.slt 29 1 [.sl 1 ((zC s 0 8).map .str)]))]) ∨ (q = 2 ∧ env = EnvL.get [(0, .t (.str s)), (3, .t (.sl 1 ((zC s 1 4).map .str))), (5, .row (.loc 902))] ∧ st = StO.get [(.loc 902, some (.slt 29 1 [.sl 1 ((zC s 0 8).map .str), .sl 1 ((zC s 1 4).map .str)]))]) ∨ (q = 1 ∧ env = EnvL.get [(0, .t (.str s)), (3, .t (.sl 1 ((zC s 2 2).map .str))), (5, .row (.loc 902))] ∧ st = StO.get [(.loc 902, some (.slt 29 1 [.sl 1 ((zC s 0 8).map .str), .sl 1 ((zC s 1 4).map .str), .sl 1 ((zC s 2 2).map .str)]))]) ∨ (q = 0 ∧ env = EnvL.get [(0, .t (.str s)), (3, .t (.sl 1 ((zC s 3 1).map .str))), (5, .row (.loc 902))] ∧ st = StO.get [(.loc 902, some (.slt 29 1 [.sl 1 ((zC s 0 8).map .str), .sl 1 ((zC s 1 4).map .str), .sl 1 ((zC s 2 2).map .str), .sl 1 ((zC s 3 1).map .str)]))]))
      ?_ (n := 3) (.inl ⟨rfl, rfl, rfl⟩)
    rintro q env st (⟨rfl, rfl, rfl⟩ | ⟨rfl, rfl, rfl⟩ | ⟨rfl, rfl, rfl⟩ | ⟨rfl, rfl, rfl⟩)
    · repeat' (first | refine wC ?_ | refine wK ?_ | fail)
      refine zc (yI 6 (.loc 901) 9 1 rfl rfl rfl) ?_
      refine zc (za [0, 3, 5, 6, 7] [.loc 902, .loc 901] rfl rfl) ?_
      refine zi (fun q env st => ∃ (m : Nat), m ≤ 4 ∧ q = 4 - m ∧ env = EnvL.get [(0, .t (.str s)), (3, .t (.sl 1 ((zC s 0 8).map .str))), (5, .row (.loc 902)), (6, .row (.loc 901)), (7, .t (.int .i64 ((2 * m : Nat) : Int)))] ∧ st = StO.get [(.loc 902, some (.slt 29 1 [.sl 1 ((zC s 0 8).map .str)])), (.loc 901, some (.slt 9 1 ((zC s 1 m).map .str)))])
        ?_ (n := 4) ⟨0, by omega, rfl, rfl, rfl⟩
      rintro q env st ⟨m, hm, rfl, rfl, rfl⟩
      have wm : IntKind.i64.wrap (((2 * m : Nat) : Int) + 2) = ((2 * (m + 1) : Nat) : Int) := by rw [zl (by omega) (by omega)]; omega
      have wm1 : IntKind.i64.wrap (((2 * m : Nat) : Int) + 1) = ((2 * m + 1 : Nat) : Int) := by rw [zl (by omega) (by omega)]; omega
      by_cases hlm : m < 4
      · have hI := yN (ktL s 0 (2 * m)) (ktL s 0 (2 * m + 1)) (by rw [zJ]; omega) (by rw [zJ]; omega)
        have hsuc := yZ s 1 m
        have hln := zV s 1 m
        rw [show ktL s 1 m = qE (ktL s 0 (2 * m)) (ktL s 0 (2 * m + 1)) from rfl] at hsuc
        rw [← xD s 0 8 (i := ((2 * m : Nat) : Int)) rfl (by omega), ← xD s 0 8 wm1 (by omega)] at hI hsuc
        generalize qE ((zC s 0 8).getD ((2 * m : Nat) : Int).toNat default) ((zC s 0 8).getD (IntKind.i64.wrap (((2 * m : Nat) : Int) + 1)).toNat default) = Y at *
        repeat' (first | refine wC ?_ | (exfalso; omega) | refine wK ?_ | ((with_reducible refine zj ?_); refine zg rfl rfl rfl rfl rfl rfl ?_ ?_ ?_) | ((with_reducible refine zR ?_); refine zt rfl rfl rfl rfl rfl rfl rfl rfl rfl rfl ?_ ?_ ?_) | ((with_reducible refine zk ?_); refine wL hI ?_) | refine zo rfl ?_ ?_ <;> intro hc | fail)
        all_goals try (simp only [List.length_map, List.length_cons, List.length_nil]; omega)
        all_goals try omega
        all_goals first | decide | skip
        all_goals exact zD (n' := 4 - (m + 1)) (by omega) ((za [0, 3, 5, 6, 7] [.loc 902, .loc 41] rfl rfl).trans (zq (.loc 41) (.loc 901) rfl rfl rfl rfl)) ⟨m + 1, by omega, rfl, by rw [wm]; rfl, by rw [hsuc, List.map_append, List.map_singleton]; rfl⟩
      · obtain rfl : m = 4 := by omega
        refine zc (zz (id := .loc 901) rfl rfl rfl) ?_
        repeat' (first | refine wC ?_ | refine wK ?_ | ((with_reducible refine zR ?_); refine zt rfl rfl rfl rfl rfl rfl rfl rfl rfl rfl ?_ ?_ ?_) | fail)
        all_goals try (simp only [List.length_map, List.length_cons, List.length_nil]; omega)
        all_goals try omega
        all_goals exact zD (n' := 2) (by omega) ((za [0, 3, 5] [.loc 45] rfl rfl).trans (zq (.loc 45) (.loc 902) rfl rfl rfl rfl)) (.inr (.inl ⟨rfl, rfl, rfl⟩))
    · repeat' (first | refine wC ?_ | refine wK ?_ | fail)
      refine zc (yI 6 (.loc 901) 9 1 rfl rfl rfl) ?_
      refine zc (za [0, 3, 5, 6, 7] [.loc 902, .loc 901] rfl rfl) ?_
      refine zi (fun q env st => ∃ (m : Nat), m ≤ 2 ∧ q = 2 - m ∧ env = EnvL.get [(0, .t (.str s)), (3, .t (.sl 1 ((zC s 1 4).map .str))), (5, .row (.loc 902)), (6, .row (.loc 901)), (7, .t (.int .i64 ((2 * m : Nat) : Int)))] ∧ st = StO.get [(.loc 902, some (.slt 29 1 [.sl 1 ((zC s 0 8).map .str), .sl 1 ((zC s 1 4).map .str)])), (.loc 901, some (.slt 9 1 ((zC s 2 m).map .str)))])
        ?_ (n := 2) ⟨0, by omega, rfl, rfl, rfl⟩
      rintro q env st ⟨m, hm, rfl, rfl, rfl⟩
      have wm : IntKind.i64.wrap (((2 * m : Nat) : Int) + 2) = ((2 * (m + 1) : Nat) : Int) := by rw [zl (by omega) (by omega)]; omega
      have wm1 : IntKind.i64.wrap (((2 * m : Nat) : Int) + 1) = ((2 * m + 1 : Nat) : Int) := by rw [zl (by omega) (by omega)]; omega
      by_cases hlm : m < 2
      · have hI := yN (ktL s 1 (2 * m)) (ktL s 1 (2 * m + 1)) (by rw [zJ]; omega) (by rw [zJ]; omega)
        have hsuc := yZ s 2 m
        have hln := zV s 2 m
        rw [show ktL s 2 m = qE (ktL s 1 (2 * m)) (ktL s 1 (2 * m + 1)) from rfl] at hsuc
        rw [← xD s 1 4 (i := ((2 * m : Nat) : Int)) rfl (by omega), ← xD s 1 4 wm1 (by omega)] at hI hsuc
        generalize qE ((zC s 1 4).getD ((2 * m : Nat) : Int).toNat default) ((zC s 1 4).getD (IntKind.i64.wrap (((2 * m : Nat) : Int) + 1)).toNat default) = Y at *
        repeat' (first | refine wC ?_ | (exfalso; omega) | refine wK ?_ | ((with_reducible refine zj ?_); refine zg rfl rfl rfl rfl rfl rfl ?_ ?_ ?_) | ((with_reducible refine zR ?_); refine zt rfl rfl rfl rfl rfl rfl rfl rfl rfl rfl ?_ ?_ ?_) | ((with_reducible refine zk ?_); refine wL hI ?_) | refine zo rfl ?_ ?_ <;> intro hc | fail)
        all_goals try (simp only [List.length_map, List.length_cons, List.length_nil]; omega)
        all_goals try omega
        all_goals first | decide | skip
        all_goals exact zD (n' := 2 - (m + 1)) (by omega) ((za [0, 3, 5, 6, 7] [.loc 902, .loc 41] rfl rfl).trans (zq (.loc 41) (.loc 901) rfl rfl rfl rfl)) ⟨m + 1, by omega, rfl, by rw [wm]; rfl, by rw [hsuc, List.map_append, List.map_singleton]; rfl⟩
      · obtain rfl : m = 2 := by omega
        refine zc (zz (id := .loc 901) rfl rfl rfl) ?_
        repeat' (first | refine wC ?_ | refine wK ?_ | ((with_reducible refine zR ?_); refine zt rfl rfl rfl rfl rfl rfl rfl rfl rfl rfl ?_ ?_ ?_) | fail)
        all_goals try (simp only [List.length_map, List.length_cons, List.length_nil]; omega)
        all_goals try omega
        all_goals exact zD (n' := 1) (by omega) ((za [0, 3, 5] [.loc 45] rfl rfl).trans (zq (.loc 45) (.loc 902) rfl rfl rfl rfl)) (.inr (.inr (.inl ⟨rfl, rfl, rfl⟩)))
    · repeat' (first | refine wC ?_ | refine wK ?_ | fail)
      refine zc (yI 6 (.loc 901) 9 1 rfl rfl rfl) ?_
      refine zc (za [0, 3, 5, 6, 7] [.loc 902, .loc 901] rfl rfl) ?_
      refine zi (fun q env st => ∃ (m : Nat), m ≤ 1 ∧ q = 1 - m ∧ env = EnvL.get [(0, .t (.str s)), (3, .t (.sl 1 ((zC s 2 2).map .str))), (5, .row (.loc 902)), (6, .row (.loc 901)), (7, .t (.int .i64 ((2 * m : Nat) : Int)))] ∧ st = StO.get [(.loc 902, some (.slt 29 1 [.sl 1 ((zC s 0 8).map .str), .sl 1 ((zC s 1 4).map .str), .sl 1 ((zC s 2 2).map .str)])), (.loc 901, some (.slt 9 1 ((zC s 3 m).map .str)))])
        ?_ (n := 1) ⟨0, by omega, rfl, rfl, rfl⟩
      rintro q env st ⟨m, hm, rfl, rfl, rfl⟩
      have wm : IntKind.i64.wrap (((2 * m : Nat) : Int) + 2) = ((2 * (m + 1) : Nat) : Int) := by rw [zl (by omega) (by omega)]; omega
      have wm1 : IntKind.i64.wrap (((2 * m : Nat) : Int) + 1) = ((2 * m + 1 : Nat) : Int) := by rw [zl (by omega) (by omega)]; omega
      by_cases hlm : m < 1
      · have hI := yN (ktL s 2 (2 * m)) (ktL s 2 (2 * m + 1)) (by rw [zJ]; omega) (by rw [zJ]; omega)
        have hsuc := yZ s 3 m
        have hln := zV s 3 m
        rw [show ktL s 3 m = qE (ktL s 2 (2 * m)) (ktL s 2 (2 * m + 1)) from rfl] at hsuc
        rw [← xD s 2 2 (i := ((2 * m : Nat) : Int)) rfl (by omega), ← xD s 2 2 wm1 (by omega)] at hI hsuc
        generalize qE ((zC s 2 2).getD ((2 * m : Nat) : Int).toNat default) ((zC s 2 2).getD (IntKind.i64.wrap (((2 * m : Nat) : Int) + 1)).toNat default) = Y at *
        repeat' (first | refine wC ?_ | (exfalso; omega) | refine wK ?_ | ((with_reducible refine zj ?_); refine zg rfl rfl rfl rfl rfl rfl ?_ ?_ ?_) | ((with_reducible refine zR ?_); refine zt rfl rfl rfl rfl rfl rfl rfl rfl rfl rfl ?_ ?_ ?_) | ((with_reducible refine zk ?_); refine wL hI ?_) | refine zo rfl ?_ ?_ <;> intro hc | fail)
        all_goals try (simp only [List.length_map, List.length_cons, List.length_nil]; omega)
        all_goals try omega
        all_goals first | decide | skip
        all_goals exact zD (n' := 1 - (m + 1)) (by omega) ((za [0, 3, 5, 6, 7] [.loc 902, .loc 41] rfl rfl).trans (zq (.loc 41) (.loc 901) rfl rfl rfl rfl)) ⟨m + 1, by omega, rfl, by rw [wm]; rfl, by rw [hsuc, List.map_append, List.map_singleton]; rfl⟩
      · obtain rfl : m = 1 := by omega
        refine zc (zz (id := .loc 901) rfl rfl rfl) ?_
        repeat' (first | refine wC ?_ | refine wK ?_ | ((with_reducible refine zR ?_); refine zt rfl rfl rfl rfl rfl rfl rfl rfl rfl rfl ?_ ?_ ?_) | fail)
        all_goals try (simp only [List.length_map, List.length_cons, List.length_nil]; omega)
        all_goals try omega
        all_goals exact zD (n' := 0) (by omega) ((za [0, 3, 5] [.loc 45] rfl rfl).trans (zq (.loc 45) (.loc 902) rfl rfl rfl rfl)) (.inr (.inr (.inr ⟨rfl, rfl, rfl⟩)))
    · repeat' (first | refine wC ?_ | refine wK ?_ | fail)
      refine ye (zz (id := .loc 902) rfl rfl rfl) ?_
      exact y4 (zE (xd rfl (AVLE.refl _)) (by simp))
set_option maxHeartbeats 4000000 in
theorem zb2 (s : ByteArray) (hs : s.size ≤ 900000) : Spec Tryz.prog 23 [.t (.str s)] [] (.t (.str (ktP s))) [] := by
  have hT := zdf s hs
  have hR := zd0 s 3 1 (i := 0) (by decide)
  have hl := zV s 3 1
  have hz := zJ s 3 0
  have hS := wF (⟨#[2]⟩ ++ ktL s 3 0) (by rw [ByteArray.size_append, hz]; decide)
  rw [show ktP s = sha (⟨#[2]⟩ ++ ktL s 3 0) from rfl]
  rw [← hR] at hS hz ⊢
  have z0 : (⟨#[2]⟩ : ByteArray).size = 1 := rfl
  have hz2 : ((zC s 3 1).getD (0 : Int).toNat default).size = 16 := hz
  generalize zC s 3 1 = R3 at *
  generalize zC s 0 8 = R0 at *
  generalize zC s 1 4 = R1 at *
  generalize zC s 2 2 = R2 at *
  generalize sha (⟨#[2]⟩ ++ R3.getD 0 default) = Y at *
  refine wI Tryz.func23 ?_
  repeat' (first | refine wC ?_ | refine wK ?_ | ((with_reducible refine zU ?_); refine zL rfl rfl rfl rfl rfl rfl ?_ ?_) | ((with_reducible refine zj ?_); first | refine zg rfl rfl rfl rfl rfl rfl ?_ ?_ ?_ | refine xM rfl rfl rfl rfl rfl rfl ?_ ?_ ?_) | ((with_reducible refine zk ?_); first | refine wL hT ?_ | refine wL hS ?_) | fail)
  all_goals try omega
  all_goals try (simp only [List.length_cons, List.length_nil]; decide)
  all_goals try decide
  exact zE (zh rfl rfl rfl) (by simp)
set_option maxHeartbeats 2000000 in
theorem zgK (s : ByteArray) (hs : s.size ≤ 900000) : Spec Tryz.prog 12 [.t (.str s)] [] (.t (.str (vc 2 (ktP s)))) [] := by
  have hP := zb2 s hs
  have hM := zdH (ktP s) (wX s)
  generalize vc 2 (ktP s) = Z at *
  generalize ktP s = Y at *
  refine wI Tryz.func12 ?_
  repeat' (first | refine wC ?_ | refine wK ?_ | ((with_reducible refine zk ?_); first | refine wL hP ?_ | refine wL hM ?_) | fail)
  exact zE (zh rfl rfl rfl) (by simp)
end Go.AL
namespace Go.AL
open Go Go.RowKit
def vN (f : Nat → Nat) : Nat → Nat
  | 0 => 0
  | n + 1 => 2 ^ (64 * n) * f n + vN f n
theorem zb {f g : Nat → Nat} : ∀ n, (∀ i, i < n → f i = g i) → vN f n = vN g n
  | 0, _ => rfl
  | n + 1, h => by rw [vN, vN, h n (by omega), zb n (fun i hi => h i (by omega))]
theorem zgY {f : Nat → Nat} : ∀ n, (∀ i, i < n → f i < 2 ^ 64) → vN f n < 2 ^ (64 * n)
  | 0, _ => by simp [vN]
  | n + 1, h => by
    have h1 := zgY n (fun i hi => h i (by omega))
    have h2 := h n (by omega)
    rw [vN, show 64 * (n + 1) = 64 * n + 64 by omega, Nat.pow_add]
    calc 2 ^ (64 * n) * f n + vN f n < 2 ^ (64 * n) * f n + 2 ^ (64 * n) := by omega
      _ = 2 ^ (64 * n) * (f n + 1) := by rw [Nat.mul_add, Nat.mul_one]
      _ ≤ 2 ^ (64 * n) * 2 ^ 64 := Nat.mul_le_mul_left _ h2
theorem yf (f g : Nat → Nat) : ∀ n, vN f n + vN g n = vN (fun i => f i + g i) n
  | 0 => rfl
  | n + 1 => by rw [vN, vN, vN, ← yf f g n, Nat.mul_add]; omega
theorem yP (f : Nat → Nat) (c : Nat) : ∀ n, vN f n * c = vN (fun i => f i * c) n
  | 0 => by simp [vN]
  | n + 1 => by rw [vN, vN, ← yP f c n, Nat.add_mul, Nat.mul_assoc]
theorem jl {f : Nat → Nat} : ∀ n, (∀ i, i < n → f i < 2 ^ 64) → ∀ b, (vN f n).testBit b = (decide (b < 64 * n) && (f (b / 64)).testBit (b % 64))
  | 0, _, b => by simp [vN]
  | n + 1, h, b => by
    have h1 := zgY n (fun i hi => h i (by omega))
    rw [vN, Nat.testBit_two_pow_mul_add _ h1]
    by_cases hb : b < 64 * n
    · rw [if_pos hb, jl n (fun i hi => h i (by omega)), decide_eq_true hb, decide_eq_true (by omega : b < 64 * (n + 1))]
    · rw [if_neg hb]
      by_cases hc : b < 64 * (n + 1)
      · rw [decide_eq_true hc, Bool.true_and, show b / 64 = n by omega, show b % 64 = b - 64 * n by omega]
      · rw [decide_eq_false hc, Bool.false_and]
        exact Nat.testBit_lt_two_pow (Nat.lt_of_lt_of_le (h n (by omega)) (Nat.pow_le_pow_right (by decide) (by omega)))
def Lo (X : Nat) (g : Nat → Nat) (n : Nat) : Prop := ∀ i, i < n → ∀ b, b < 32 → X.testBit (64 * i + b) = (g i).testBit b
theorem zg9 {f : Nat → Nat} {n : Nat} (h : ∀ i, i < n → f i < 2 ^ 64) : Lo (vN f n) f n := by
  intro i hi b hb
  rw [jl n h, decide_eq_true (by omega), Bool.true_and, show (64 * i + b) / 64 = i by omega, show (64 * i + b) % 64 = b by omega]
theorem jI {f : Nat → Nat} {n : Nat} (h : ∀ i, i < n → f i < 2 ^ 64) {k : Nat} (hk : k ≤ 32) : Lo (vN f n >>> k) (fun i => f i >>> k) n := by
  intro i hi b hb
  rw [Nat.testBit_shiftRight, jl n h, Nat.testBit_shiftRight, decide_eq_true (by omega), Bool.true_and, show (k + (64 * i + b)) / 64 = i by omega, show (k + (64 * i + b)) % 64 = k + b by omega]
theorem zdV {X Y : Nat} {g h : Nat → Nat} {n : Nat} (hx : Lo X g n) (hy : Lo Y h n) : Lo (X ^^^ Y) (fun i => g i ^^^ h i) n := by
  intro i hi b hb
  rw [Nat.testBit_xor, Nat.testBit_xor, hx i hi b hb, hy i hi b hb]
def vM (n : Nat) : Nat := vN (fun _ => 4294967295) n
theorem zh5 (b : Nat) : (4294967295 : Nat).testBit b = decide (b < 32) := by
  rw [show (4294967295 : Nat) = 2 ^ 32 - 1 from rfl, Nat.testBit_two_pow_sub_one]
theorem v6 {X : Nat} {g : Nat → Nat} {n : Nat} (h : Lo X g n) : X &&& vM n = vN (fun i => g i % 4294967296) n := by
  apply Nat.eq_of_testBit_eq
  intro b
  have e : ∀ i, i < n → g i % 4294967296 < 2 ^ 64 := fun i _ => Nat.lt_of_lt_of_le (Nat.mod_lt _ (by decide)) (by decide)
  rw [Nat.testBit_and, vM, jl n (fun _ _ => by decide), jl n e, zh5]
  by_cases hb : b < 64 * n
  · rw [decide_eq_true hb, Bool.true_and, Bool.true_and, show (4294967296 : Nat) = 2 ^ 32 from rfl, Nat.testBit_mod_two_pow]
    by_cases hc : b % 64 < 32
    · have := h (b / 64) (by omega) (b % 64) hc
      rw [show 64 * (b / 64) + b % 64 = b by omega] at this
      rw [this, Bool.and_comm]
    · rw [decide_eq_false hc, Bool.and_false, Bool.false_and]
  · rw [decide_eq_false hb, Bool.false_and, Bool.and_false, Bool.false_and]
theorem kr {f g : Nat → Nat} {n : Nat} (hf : ∀ i, i < n → f i < 2 ^ 64) (hg : ∀ i, i < n → g i < 2 ^ 64) :
    (vN f n ^^^ vN g n = vN (fun i => f i ^^^ g i) n) ∧ (vN f n &&& vN g n = vN (fun i => f i &&& g i) n) := by
  constructor
  · apply Nat.eq_of_testBit_eq; intro b
    rw [Nat.testBit_xor, jl n hf, jl n hg, jl n (fun i hi => Nat.xor_lt_two_pow (hf i hi) (hg i hi)), Nat.testBit_xor]
    cases decide (b < 64 * n) <;> simp
  · apply Nat.eq_of_testBit_eq; intro b
    rw [Nat.testBit_and, jl n hf, jl n hg, jl n (fun i hi => Nat.lt_of_le_of_lt Nat.and_le_left (hf i hi)), Nat.testBit_and]
    cases decide (b < 64 * n) <;> simp
theorem qe (x : Nat) : IntKind.u32.wrap (x : Int) = ((x % 4294967296 : Nat) : Int) := by
  simp only [IntKind.wrap, IntKind.bits, IntKind.signed, Bool.false_and, Bool.false_eq_true, if_false]
  omega
theorem zac (x : Nat) : (BitVec.ofInt 32 (x : Int)).toNat = x % 4294967296 := by
  simp
theorem ko {x y : Nat} (hx : x < 4294967296) (hy : y < 4294967296) : wx (x : Int) (y : Int) = ((x ^^^ y : Nat) : Int) := by
  unfold wx
  rw [BitVec.toNat_xor, zac, zac, Nat.mod_eq_of_lt hx, Nat.mod_eq_of_lt hy, qe, Nat.mod_eq_of_lt (Nat.xor_lt_two_pow (n := 32) hx hy)]
theorem zbz {x y : Nat} (hx : x < 4294967296) (hy : y < 4294967296) : wa (x : Int) (y : Int) = ((x &&& y : Nat) : Int) := by
  unfold wa
  rw [BitVec.toNat_and, zac, zac, Nat.mod_eq_of_lt hx, Nat.mod_eq_of_lt hy, qe, Nat.mod_eq_of_lt (Nat.lt_of_le_of_lt Nat.and_le_left hx)]
theorem zec {x y : Nat} (hx : x < 4294967296) (hy : y < 4294967296) : wo (x : Int) (y : Int) = ((x ||| y : Nat) : Int) := by
  unfold wo
  rw [BitVec.toNat_or, zac, zac, Nat.mod_eq_of_lt hx, Nat.mod_eq_of_lt hy, qe, Nat.mod_eq_of_lt (Nat.or_lt_two_pow (n := 32) hx hy)]
theorem zkq {x : Nat} (hx : x < 4294967296) : wn (x : Int) = ((4294967295 ^^^ x : Nat) : Int) := by
  have := ko (x := 4294967295) (y := x) (by decide) hx
  exact this
theorem zb5 (x y : Nat) : wp (x : Int) (y : Int) = (((x + y) % 4294967296 : Nat) : Int) := by
  unfold wp; rw [← Int.natCast_add, qe]
theorem zh7 (x n : Nat) : wr (x : Int) n = ((x >>> n : Nat) : Int) := by
  unfold wr; rw [Nat.shiftRight_eq_div_pow, Int.natCast_ediv]; simp
theorem zd8 (x n : Nat) : wl (x : Int) n = ((x * 2 ^ n % 4294967296 : Nat) : Int) := by
  unfold wl
  have : (x : Int) * 2 ^ n = ((x * 2 ^ n : Nat) : Int) := by simp
  rw [this, qe]
theorem zcz {x n : Nat} (hx : x < 4294967296) (h0 : 0 < n) (hn : n < 32) : rr (x : Int) n = (((x * 4294967297) >>> n % 4294967296 : Nat) : Int) := by
  unfold rr
  rw [zh7, zd8, zec (Nat.lt_of_le_of_lt (Nat.shiftRight_le x n) hx) (Nat.mod_lt _ (by decide))]
  congr 1
  apply Nat.eq_of_testBit_eq; intro b
  rw [Nat.testBit_or, Nat.testBit_shiftRight, show (4294967296 : Nat) = 2 ^ 32 from rfl, Nat.testBit_mod_two_pow, Nat.testBit_mod_two_pow, Nat.testBit_shiftRight (x := x * 4294967297),
    show x * 4294967297 = 2 ^ 32 * x + x by omega, Nat.testBit_two_pow_mul_add _ (show x < 2 ^ 32 from hx), Nat.testBit_mul_two_pow]
  by_cases hb : b < 32
  · by_cases hc : n + b < 32
    · rw [if_pos hc]
      have : ¬ (32 - n ≤ b) := by omega
      simp [hb, this]
    · rw [if_neg hc]
      have h1 : 32 - n ≤ b := by omega
      have h2 : x.testBit (n + b) = false := Nat.testBit_lt_two_pow (Nat.lt_of_lt_of_le (show x < 2 ^ 32 from hx) (Nat.pow_le_pow_right (by decide) (by omega)))
      rw [h2]; simp [hb, h1, show n + b - 32 = b - (32 - n) by omega]
  · have h2 : x.testBit (n + b) = false := Nat.testBit_lt_two_pow (Nat.lt_of_lt_of_le (show x < 2 ^ 32 from hx) (Nat.pow_le_pow_right (by decide) (by omega)))
    simp [hb, h2]
def frc (x : Nat) (k : Bool) : Bool := cond (Nat.beq x x) k k
theorem zgi (x : Nat) (k : Bool) : frc x k = k := by
  unfold frc; cases Nat.beq x x <;> rfl
def sT2 (M a b c Y : Nat) : Nat := Nat.land (Nat.xor (Nat.xor (Nat.shiftRight Y a) (Nat.shiftRight Y b)) (Nat.shiftRight Y c)) M
def sT (M a b c X : Nat) : Nat := sT2 M a b c (Nat.mul X 4294967297)
def sU2 (M a b c Y X : Nat) : Nat := Nat.land (Nat.xor (Nat.xor (Nat.shiftRight Y a) (Nat.shiftRight Y b)) (Nat.shiftRight X c)) M
def sU (M a b c X : Nat) : Nat := sU2 M a b c (Nat.mul X 4294967297) X
def nT (a b c x : Nat) : Nat := ((x * 4294967297) >>> a ^^^ (x * 4294967297) >>> b ^^^ (x * 4294967297) >>> c) % 4294967296
def nU (a b c x : Nat) : Nat := ((x * 4294967297) >>> a ^^^ (x * 4294967297) >>> b ^^^ x >>> c) % 4294967296
theorem zkf (a b c x : Nat) : nT a b c x < 4294967296 := Nat.mod_lt _ (by decide)
theorem zjK (a b c x : Nat) : nU a b c x < 4294967296 := Nat.mod_lt _ (by decide)
theorem zky {f : Nat → Nat} {n : Nat} (h : ∀ i, i < n → f i < 4294967296) {a b c : Nat} (ha : a ≤ 32) (hb : b ≤ 32) (hc : c ≤ 32) :
    sT (vM n) a b c (vN f n) = vN (fun i => nT a b c (f i)) n := by
  have e : Nat.mul (vN f n) 4294967297 = vN (fun i => f i * 4294967297) n := yP f _ n
  have hy : ∀ i, i < n → f i * 4294967297 < 2 ^ 64 := fun i hi => by have := h i hi; omega
  unfold sT sT2; rw [e]
  exact v6 (zdV (zdV (jI hy ha) (jI hy hb)) (jI hy hc))
theorem zki {f : Nat → Nat} {n : Nat} (h : ∀ i, i < n → f i < 4294967296) {a b c : Nat} (ha : a ≤ 32) (hb : b ≤ 32) (hc : c ≤ 32) :
    sU (vM n) a b c (vN f n) = vN (fun i => nU a b c (f i)) n := by
  have e : Nat.mul (vN f n) 4294967297 = vN (fun i => f i * 4294967297) n := yP f _ n
  have hy : ∀ i, i < n → f i * 4294967297 < 2 ^ 64 := fun i hi => by have := h i hi; omega
  have hx : ∀ i, i < n → f i < 2 ^ 64 := fun i hi => by have := h i hi; omega
  unfold sU sU2; rw [e]
  exact v6 (zdV (zdV (jI hy ha) (jI hy hb)) (jI hx hc))
theorem zhU {x a b c : Nat} (hx : x < 4294967296) (a0 : 0 < a) (ha : a < 32) (b0 : 0 < b) (hb : b < 32) (c0 : 0 < c) (hc : c < 32) :
    wx (wx (rr (x : Int) a) (rr (x : Int) b)) (rr (x : Int) c) = ((nT a b c x : Nat) : Int) := by
  have m : ∀ y : Nat, y % 4294967296 < 4294967296 := fun y => Nat.mod_lt _ (by decide)
  rw [zcz hx a0 ha, zcz hx b0 hb, zcz hx c0 hc, ko (m _) (m _), ko (Nat.xor_lt_two_pow (n := 32) (m _) (m _)) (m _)]
  unfold nT
  rw [show (4294967296 : Nat) = 2 ^ 32 from rfl, Nat.xor_mod_two_pow, Nat.xor_mod_two_pow]
theorem zhZ {x a b c : Nat} (hx : x < 4294967296) (a0 : 0 < a) (ha : a < 32) (b0 : 0 < b) (hb : b < 32) :
    wx (wx (rr (x : Int) a) (rr (x : Int) b)) (wr (x : Int) c) = ((nU a b c x : Nat) : Int) := by
  have m : ∀ y : Nat, y % 4294967296 < 4294967296 := fun y => Nat.mod_lt _ (by decide)
  have hs : x >>> c < 4294967296 := Nat.lt_of_le_of_lt (Nat.shiftRight_le x c) hx
  rw [zcz hx a0 ha, zcz hx b0 hb, zh7, ko (m _) (m _), ko (Nat.xor_lt_two_pow (n := 32) (m _) (m _)) hs]
  unfold nU
  rw [show (4294967296 : Nat) = 2 ^ 32 from rfl, Nat.xor_mod_two_pow, Nat.xor_mod_two_pow, Nat.mod_eq_of_lt (show x >>> c < 2 ^ 32 from hs)]
def sW (M x y u v : Nat) : Nat := Nat.land (Nat.add (Nat.add (Nat.add (sU M 17 19 10 y) u) (sU M 7 18 3 x)) v) M
def nW (x y u v : Nat) : Nat := (nU 17 19 10 y + u + nU 7 18 3 x + v) % 4294967296
theorem zkI {f g u v : Nat → Nat} {n : Nat} (hf : ∀ i, i < n → f i < 4294967296) (hg : ∀ i, i < n → g i < 4294967296) (hu : ∀ i, i < n → u i < 4294967296) (hv : ∀ i, i < n → v i < 4294967296) :
    sW (vM n) (vN f n) (vN g n) (vN u n) (vN v n) = vN (fun i => nW (f i) (g i) (u i) (v i)) n := by
  unfold sW
  rw [zki hf (by decide) (by decide) (by decide), zki hg (by decide) (by decide) (by decide)]
  have e1 : Nat.add (Nat.add (Nat.add (vN (fun i => nU 17 19 10 (g i)) n) (vN u n)) (vN (fun i => nU 7 18 3 (f i)) n)) (vN v n) = vN (fun i => nU 17 19 10 (g i) + u i + nU 7 18 3 (f i) + v i) n := by
    show vN _ n + vN u n + vN _ n + vN v n = _
    rw [yf, yf, yf]
  rw [e1]
  exact v6 (zg9 fun i hi => by
    have := hu i hi; have := hv i hi; have := zjK 17 19 10 (g i); have := zjK 7 18 3 (f i); omega)
theorem zhy {x y u v : Nat} (hx : x < 4294967296) (hy : y < 4294967296) (hu : u < 4294967296) (hv : v < 4294967296) : zkH (x : Int) (y : Int) (u : Int) (v : Int) = ((nW x y u v : Nat) : Int) := by
  unfold zkH
  rw [zhZ hy (by decide) (by decide) (by decide) (by decide), zhZ hx (by decide) (by decide) (by decide) (by decide), zb5, zb5, zb5]
  unfold nW
  congr 1; omega
structure N8 where
  a : Nat
  b : Nat
  c : Nat
  d : Nat
  e : Nat
  f : Nat
  g : Nat
  h : Nat
def N8.In (v : N8) : Prop := v.a < 4294967296 ∧ v.b < 4294967296 ∧ v.c < 4294967296 ∧ v.d < 4294967296 ∧ v.e < 4294967296 ∧ v.f < 4294967296 ∧ v.g < 4294967296 ∧ v.h < 4294967296
def N8.i (v : N8) : H8 := ⟨v.a, v.b, v.c, v.d, v.e, v.f, v.g, v.h⟩
def nt1 (k w e f g h : Nat) : Nat := h + nT 6 11 25 e + (g ^^^ (e &&& (f ^^^ g))) + k + w
def nt2 (a b c : Nat) : Nat := nT 2 13 22 a + (a &&& b ^^^ (c &&& (a ^^^ b)))
def zcM (k w : Nat) (v : N8) : N8 := ⟨(nt1 k w v.e v.f v.g v.h + nt2 v.a v.b v.c) % 4294967296, v.a, v.b, v.c, (v.d + nt1 k w v.e v.f v.g v.h) % 4294967296, v.e, v.f, v.g⟩
theorem zc4 {k w : Nat} {v : N8} (h : v.In) : (zcM k w v).In := by
  obtain ⟨h1, h2, h3, h4, h5, h6, h7, h8⟩ := h
  exact ⟨Nat.mod_lt _ (by decide), h1, h2, h3, Nat.mod_lt _ (by decide), h5, h6, h7⟩
theorem zde {x y : Nat} (hx : x < 4294967296) (hy : y < 4294967296) : x ^^^ y < 4294967296 := Nat.xor_lt_two_pow (n := 32) hx hy
theorem qO {x y : Nat} (hx : x < 4294967296) : x &&& y < 4294967296 := Nat.lt_of_le_of_lt Nat.and_le_left hx
theorem zj1 {e f g : Nat} (he : e < 4294967296) (hf : f < 4294967296) (hg : g < 4294967296) : wx (wa (e : Int) (f : Int)) (wa (wn (e : Int)) (g : Int)) = ((g ^^^ (e &&& (f ^^^ g)) : Nat) : Int) := by
  rw [zkq he, zbz he hf, zbz (zde (by decide) he) hg, ko (qO he) (qO (zde (by decide) he))]
  congr 1
  apply Nat.eq_of_testBit_eq; intro b
  simp only [Nat.testBit_xor, Nat.testBit_and, zh5]
  by_cases hb : b < 32
  · rw [decide_eq_true hb]; cases e.testBit b <;> cases f.testBit b <;> cases g.testBit b <;> rfl
  · have h2 : g.testBit b = false := Nat.testBit_lt_two_pow (Nat.lt_of_lt_of_le (show g < 2 ^ 32 from hg) (Nat.pow_le_pow_right (by decide) (by omega)))
    have h3 : e.testBit b = false := Nat.testBit_lt_two_pow (Nat.lt_of_lt_of_le (show e < 2 ^ 32 from he) (Nat.pow_le_pow_right (by decide) (by omega)))
    rw [h2, h3]; simp
theorem ziV {a b c : Nat} (ha : a < 4294967296) (hb : b < 4294967296) (hc : c < 4294967296) : wx (wx (wa (a : Int) (b : Int)) (wa (a : Int) (c : Int))) (wa (b : Int) (c : Int)) = ((a &&& b ^^^ (c &&& (a ^^^ b)) : Nat) : Int) := by
  rw [zbz ha hb, zbz ha hc, zbz hb hc, ko (qO ha) (qO ha), ko (zde (qO ha) (qO ha)) (qO hb)]
  congr 1
  apply Nat.eq_of_testBit_eq; intro i
  simp only [Nat.testBit_xor, Nat.testBit_and]
  cases a.testBit i <;> cases b.testBit i <;> cases c.testBit i <;> rfl
theorem ziA {k w : Nat} {v : N8} (h : v.In) : rnd (k : Int) (w : Int) v.i = (zcM k w v).i := by
  obtain ⟨h1, h2, h3, h4, h5, h6, h7, h8⟩ := h
  unfold rnd N8.i zcM
  simp only
  rw [zhU h5 (by decide) (by decide) (by decide) (by decide) (by decide) (by decide), zhU h1 (by decide) (by decide) (by decide) (by decide) (by decide) (by decide), zj1 h5 h6 h7, ziV h1 h2 h3]
  simp only [zb5]
  unfold nt1 nt2
  congr 2 <;> omega
def sR3 (na b c d ne f g h : Nat) (k : Nat → Nat → Nat → Nat → Nat → Nat → Nat → Nat → Bool) : Bool := frc na (frc ne (k na b c d ne f g h))
def sR2 (M t1 t2 a b c d e f g : Nat) (k : Nat → Nat → Nat → Nat → Nat → Nat → Nat → Nat → Bool) : Bool := sR3 (Nat.land (Nat.add t1 t2) M) a b c (Nat.land (Nat.add d t1) M) e f g k
def sR (M O kt a b c d e f g h w : Nat) (k : Nat → Nat → Nat → Nat → Nat → Nat → Nat → Nat → Bool) : Bool :=
  sR2 M (Nat.add (Nat.add (Nat.add (Nat.add h (sT M 6 11 25 e)) (Nat.xor g (Nat.land e (Nat.xor f g)))) (Nat.mul O kt)) w) (Nat.add (sT M 2 13 22 a) (Nat.xor (Nat.land a b) (Nat.land c (Nat.xor a b)))) a b c d e f g k
def vO (n : Nat) : Nat := vN (fun _ => 1) n
theorem zkP {n kt : Nat} {v : Nat → N8} {w : Nat → Nat} (hv : ∀ i, i < n → (v i).In) (hw : ∀ i, i < n → w i < 4294967296) (hk : kt < 4294967296) (k : Nat → Nat → Nat → Nat → Nat → Nat → Nat → Nat → Bool) :
    sR (vM n) (vO n) kt (vN (fun i => (v i).a) n) (vN (fun i => (v i).b) n) (vN (fun i => (v i).c) n) (vN (fun i => (v i).d) n) (vN (fun i => (v i).e) n) (vN (fun i => (v i).f) n) (vN (fun i => (v i).g) n) (vN (fun i => (v i).h) n) (vN w n) k =
    k (vN (fun i => (zcM kt (w i) (v i)).a) n) (vN (fun i => (zcM kt (w i) (v i)).b) n) (vN (fun i => (zcM kt (w i) (v i)).c) n) (vN (fun i => (zcM kt (w i) (v i)).d) n) (vN (fun i => (zcM kt (w i) (v i)).e) n) (vN (fun i => (zcM kt (w i) (v i)).f) n) (vN (fun i => (zcM kt (w i) (v i)).g) n) (vN (fun i => (zcM kt (w i) (v i)).h) n) := by
  have up : ∀ {x : Nat}, x < 4294967296 → x < 2 ^ 64 := fun h => by omega
  have ha : ∀ i, i < n → (v i).a < 4294967296 := fun i hi => (hv i hi).1
  have hb : ∀ i, i < n → (v i).b < 4294967296 := fun i hi => (hv i hi).2.1
  have hc : ∀ i, i < n → (v i).c < 4294967296 := fun i hi => (hv i hi).2.2.1
  have hd : ∀ i, i < n → (v i).d < 4294967296 := fun i hi => (hv i hi).2.2.2.1
  have he : ∀ i, i < n → (v i).e < 4294967296 := fun i hi => (hv i hi).2.2.2.2.1
  have hf : ∀ i, i < n → (v i).f < 4294967296 := fun i hi => (hv i hi).2.2.2.2.2.1
  have hg : ∀ i, i < n → (v i).g < 4294967296 := fun i hi => (hv i hi).2.2.2.2.2.2.1
  have hh : ∀ i, i < n → (v i).h < 4294967296 := fun i hi => (hv i hi).2.2.2.2.2.2.2
  unfold sR
  rw [zky he (by decide) (by decide) (by decide), zky ha (by decide) (by decide) (by decide)]
  have e1 : Nat.xor (vN (fun i => (v i).f) n) (vN (fun i => (v i).g) n) = vN (fun i => (v i).f ^^^ (v i).g) n := (kr (fun i hi => up (hf i hi)) (fun i hi => up (hg i hi))).1
  have e2 : Nat.land (vN (fun i => (v i).e) n) (vN (fun i => (v i).f ^^^ (v i).g) n) = vN (fun i => (v i).e &&& ((v i).f ^^^ (v i).g)) n := (kr (fun i hi => up (he i hi)) (fun i hi => up (zde (hf i hi) (hg i hi)))).2
  have e3 : Nat.xor (vN (fun i => (v i).g) n) (vN (fun i => (v i).e &&& ((v i).f ^^^ (v i).g)) n) = vN (fun i => (v i).g ^^^ ((v i).e &&& ((v i).f ^^^ (v i).g))) n := (kr (fun i hi => up (hg i hi)) (fun i hi => up (qO (he i hi)))).1
  have e4 : Nat.xor (vN (fun i => (v i).a) n) (vN (fun i => (v i).b) n) = vN (fun i => (v i).a ^^^ (v i).b) n := (kr (fun i hi => up (ha i hi)) (fun i hi => up (hb i hi))).1
  have e5 : Nat.land (vN (fun i => (v i).a) n) (vN (fun i => (v i).b) n) = vN (fun i => (v i).a &&& (v i).b) n := (kr (fun i hi => up (ha i hi)) (fun i hi => up (hb i hi))).2
  have e6 : Nat.land (vN (fun i => (v i).c) n) (vN (fun i => (v i).a ^^^ (v i).b) n) = vN (fun i => (v i).c &&& ((v i).a ^^^ (v i).b)) n := (kr (fun i hi => up (hc i hi)) (fun i hi => up (zde (ha i hi) (hb i hi)))).2
  have e7 : Nat.xor (vN (fun i => (v i).a &&& (v i).b) n) (vN (fun i => (v i).c &&& ((v i).a ^^^ (v i).b)) n) = vN (fun i => (v i).a &&& (v i).b ^^^ ((v i).c &&& ((v i).a ^^^ (v i).b))) n := (kr (fun i hi => up (qO (ha i hi))) (fun i hi => up (qO (hc i hi)))).1
  have e8 : Nat.mul (vO n) kt = vN (fun _ => kt) n := by
    show vN _ n * kt = _
    rw [yP]; exact zb n (fun _ _ => Nat.one_mul _)
  rw [e1, e2, e3, e4, e5, e6, e7, e8]
  have e9 : Nat.add (Nat.add (Nat.add (Nat.add (vN (fun i => (v i).h) n) (vN (fun i => nT 6 11 25 (v i).e) n)) (vN (fun i => (v i).g ^^^ ((v i).e &&& ((v i).f ^^^ (v i).g))) n)) (vN (fun _ => kt) n)) (vN w n) = vN (fun i => nt1 kt (w i) (v i).e (v i).f (v i).g (v i).h) n := by
    show vN _ n + vN _ n + vN _ n + vN _ n + vN w n = _
    rw [yf, yf, yf, yf]; rfl
  have e10 : Nat.add (vN (fun i => nT 2 13 22 (v i).a) n) (vN (fun i => (v i).a &&& (v i).b ^^^ ((v i).c &&& ((v i).a ^^^ (v i).b))) n) = vN (fun i => nt2 (v i).a (v i).b (v i).c) n := by
    show vN _ n + vN _ n = _
    rw [yf]; rfl
  rw [e9, e10]
  have b1 : ∀ i, i < n → nt1 kt (w i) (v i).e (v i).f (v i).g (v i).h < 21474836480 := fun i hi => by
    have := hh i hi; have := zkf 6 11 25 (v i).e; have := zde (hg i hi) (qO (y := (v i).f ^^^ (v i).g) (he i hi)); have := hw i hi
    unfold nt1; omega
  have b2 : ∀ i, i < n → nt2 (v i).a (v i).b (v i).c < 8589934592 := fun i hi => by
    have := zkf 2 13 22 (v i).a; have := zde (qO (y := (v i).b) (ha i hi)) (qO (y := (v i).a ^^^ (v i).b) (hc i hi))
    unfold nt2; omega
  unfold sR2 sR3
  rw [zgi, zgi]
  have e11 : Nat.land (Nat.add (vN (fun i => nt1 kt (w i) (v i).e (v i).f (v i).g (v i).h) n) (vN (fun i => nt2 (v i).a (v i).b (v i).c) n)) (vM n) = vN (fun i => (zcM kt (w i) (v i)).a) n := by
    show (vN _ n + vN _ n) &&& vM n = _
    rw [yf]
    exact v6 (zg9 fun i hi => by have := b1 i hi; have := b2 i hi; omega)
  have e12 : Nat.land (Nat.add (vN (fun i => (v i).d) n) (vN (fun i => nt1 kt (w i) (v i).e (v i).f (v i).g (v i).h) n)) (vM n) = vN (fun i => (zcM kt (w i) (v i)).e) n := by
    show (vN _ n + vN _ n) &&& vM n = _
    rw [yf]
    exact v6 (zg9 fun i hi => by have := b1 i hi; have := hd i hi; omega)
  rw [e11, e12]
  rfl
def sRs (M O : Nat) : List Nat → (Nat → Nat → Nat → Nat → Nat → Nat → Nat → Nat → Bool) → (a b c d e f g h w0 w1 w2 w3 w4 w5 w6 w7 w8 w9 w10 w11 w12 w13 w14 w15 : Nat) → Bool
  | [], k, a, b, c, d, e, f, g, h, _, _, _, _, _, _, _, _, _, _, _, _, _, _, _, _ => k a b c d e f g h
  | kt :: ks, k, a, b, c, d, e, f, g, h, w0, w1, w2, w3, w4, w5, w6, w7, w8, w9, w10, w11, w12, w13, w14, w15 => sR M O kt a b c d e f g h w0 (fun a b c d e f g h => sRs M O ks k a b c d e f g h w1 w2 w3 w4 w5 w6 w7 w8 w9 w10 w11 w12 w13 w14 w15 (sW M w1 w14 w9 w0))
def vw : List Nat := zbw.map Int.toNat
def sC2 (M O : Nat) (k : Nat → Nat → Nat → Nat → Nat → Nat → Nat → Nat → Bool) (A B C D E F G H a b c d e f g h : Nat) : Bool :=
  k (Nat.land (Nat.add A a) M) (Nat.land (Nat.add B b) M) (Nat.land (Nat.add C c) M) (Nat.land (Nat.add D d) M) (Nat.land (Nat.add E e) M) (Nat.land (Nat.add F f) M) (Nat.land (Nat.add G g) M) (Nat.land (Nat.add H h) M)
def sC3 (k : Nat → Nat → Nat → Nat → Nat → Nat → Nat → Nat → Bool) (a b c d e f g h : Nat) : Bool := frc a (frc b (frc c (frc d (frc e (frc f (frc g (frc h (k a b c d e f g h))))))))
def sC (M O : Nat) (k : Nat → Nat → Nat → Nat → Nat → Nat → Nat → Nat → Bool) (a b c d e f g h w0 w1 w2 w3 w4 w5 w6 w7 w8 w9 w10 w11 w12 w13 w14 w15 : Nat) : Bool :=
  sRs M O vw (sC2 M O (sC3 k) a b c d e f g h) a b c d e f g h w0 w1 w2 w3 w4 w5 w6 w7 w8 w9 w10 w11 w12 w13 w14 w15
def wsS (w : Nat → Nat) : Nat → Nat → Nat
  | 0, j => w j
  | t + 1, j => if j = t + 16 then nW (wsS w t (t + 1)) (wsS w t (t + 14)) (wsS w t (t + 9)) (wsS w t t) else wsS w t j
theorem zkR (x y u v : Nat) : nW x y u v < 4294967296 := by unfold nW; exact Nat.mod_lt _ (by decide)
theorem zbf (w : Nat → Nat) (t j : Nat) (h : j < t + 16) : ∀ d, wsS w (t + d) j = wsS w t j
  | 0 => rfl
  | d + 1 => by rw [← Nat.add_assoc, wsS, if_neg (by omega), zbf w t j h d]
def yy (w : Nat → Nat) (t : Nat) : Nat := wsS w t t
theorem zbc (w : Nat → Nat) (t : Nat) (h : t < 16) : yy w t = w t := by
  have := zbf w 0 t (by omega) t
  rw [Nat.zero_add] at this
  exact this
theorem zdQ (w : Nat → Nat) (t j : Nat) (h1 : t ≤ j) (h2 : j < t + 16) : wsS w t j = yy w j := by
  have := zbf w t j h2 (j - t)
  rw [show t + (j - t) = j by omega] at this
  exact this.symm
theorem zaW (w : Nat → Nat) (t : Nat) : yy w (t + 16) = nW (yy w (t + 1)) (yy w (t + 14)) (yy w (t + 9)) (yy w t) := by
  have h := zbf w (t + 1) (t + 16) (by omega) 15
  have e : wsS w (t + 1) (t + 16) = nW (wsS w t (t + 1)) (wsS w t (t + 14)) (wsS w t (t + 9)) (wsS w t t) := by rw [wsS, if_pos rfl]
  rw [show t + 1 + 15 = t + 16 by omega, e, zdQ w t (t + 1) (by omega) (by omega), zdQ w t (t + 14) (by omega) (by omega), zdQ w t (t + 9) (by omega) (by omega), zdQ w t t (by omega) (by omega)] at h
  exact h
theorem qA (w : Nat → Nat) (hw : ∀ t, t < 16 → w t < 4294967296) (t : Nat) : yy w t < 4294967296 := by
  by_cases h : t < 16
  · rw [zbc w t h]; exact hw t h
  · obtain ⟨u, rfl⟩ : ∃ u, t = u + 16 := ⟨t - 16, by omega⟩
    rw [zaW]; exact zkR _ _ _ _
def lfo {α β : Type} (f : α → Nat → β → β) : List α → Nat → β → β
  | [], _, b => b
  | a :: l, t, b => lfo f l (t + 1) (f a t b)
def nrs (w : Nat → Nat) (ks : List Nat) (t : Nat) (v : N8) : N8 := lfo (fun kt t v => zcM kt (yy w t) v) ks t v
theorem jC (w : Nat → Nat) (t : Nat) (v : N8) : nrs w [] t v = v := by unfold nrs; rw [lfo]
theorem qn (w : Nat → Nat) (kt : Nat) (ks : List Nat) (t : Nat) (v : N8) : nrs w (kt :: ks) t v = nrs w ks (t + 1) (zcM kt (yy w t) v) := by
  unfold nrs; rw [lfo]
theorem zhV (w : Nat → Nat) : ∀ (ks : List Nat) (t : Nat) (v : N8), v.In → (nrs w ks t v).In
  | [], _, _, h => by rw [jC]; exact h
  | _ :: ks, t, _, h => by rw [qn]; exact zhV w ks (t + 1) _ (zc4 h)
theorem zhX {n : Nat} {W : Nat → Nat → Nat} (hW : ∀ i, i < n → ∀ t, t < 16 → W i t < 4294967296) (k : Nat → Nat → Nat → Nat → Nat → Nat → Nat → Nat → Bool) : ∀ (ks : List Nat) (t : Nat) (v : Nat → N8), (∀ x ∈ ks, x < 4294967296) → (∀ i, i < n → (v i).In) →
    sRs (vM n) (vO n) ks k (vN (fun i => (v i).a) n) (vN (fun i => (v i).b) n) (vN (fun i => (v i).c) n) (vN (fun i => (v i).d) n) (vN (fun i => (v i).e) n) (vN (fun i => (v i).f) n) (vN (fun i => (v i).g) n) (vN (fun i => (v i).h) n) (vN (fun i => yy (W i) (t + 0)) n) (vN (fun i => yy (W i) (t + 1)) n) (vN (fun i => yy (W i) (t + 2)) n) (vN (fun i => yy (W i) (t + 3)) n) (vN (fun i => yy (W i) (t + 4)) n) (vN (fun i => yy (W i) (t + 5)) n) (vN (fun i => yy (W i) (t + 6)) n) (vN (fun i => yy (W i) (t + 7)) n) (vN (fun i => yy (W i) (t + 8)) n) (vN (fun i => yy (W i) (t + 9)) n) (vN (fun i => yy (W i) (t + 10)) n) (vN (fun i => yy (W i) (t + 11)) n) (vN (fun i => yy (W i) (t + 12)) n) (vN (fun i => yy (W i) (t + 13)) n) (vN (fun i => yy (W i) (t + 14)) n) (vN (fun i => yy (W i) (t + 15)) n) =
    k (vN (fun i => (nrs (W i) ks t (v i)).a) n) (vN (fun i => (nrs (W i) ks t (v i)).b) n) (vN (fun i => (nrs (W i) ks t (v i)).c) n) (vN (fun i => (nrs (W i) ks t (v i)).d) n) (vN (fun i => (nrs (W i) ks t (v i)).e) n) (vN (fun i => (nrs (W i) ks t (v i)).f) n) (vN (fun i => (nrs (W i) ks t (v i)).g) n) (vN (fun i => (nrs (W i) ks t (v i)).h) n)
  | [], _, _, _, _ => by simp only [sRs, jC]
  | kt :: ks, t, v, hk, hv => by
    have b : ∀ j i, i < n → yy (W i) (t + j) < 4294967296 := fun j i hi => qA _ (hW i hi) _
    rw [sRs, zkP hv (b 0) (hk kt (List.mem_cons_self ..)), zkI (b 1) (b 14) (b 9) (b 0)]
    have ih := zhX hW k ks (t + 1) (fun i => zcM kt (yy (W i) (t + 0)) (v i)) (fun x hx => hk x (List.mem_cons_of_mem _ hx)) (fun i hi => zc4 (hv i hi))
    simp only [Nat.add_assoc, Nat.reduceAdd] at ih
    have e : ∀ i, nW (yy (W i) (t + 1)) (yy (W i) (t + 14)) (yy (W i) (t + 9)) (yy (W i) (t + 0)) = yy (W i) (t + 16) := fun i => (zaW (W i) t).symm
    simp only [e, qn]
    exact ih
def xr (h : N8) (w : Nat → Nat) : N8 :=
  ⟨(h.a + (nrs w vw 0 h).a) % 4294967296, (h.b + (nrs w vw 0 h).b) % 4294967296, (h.c + (nrs w vw 0 h).c) % 4294967296, (h.d + (nrs w vw 0 h).d) % 4294967296, (h.e + (nrs w vw 0 h).e) % 4294967296, (h.f + (nrs w vw 0 h).f) % 4294967296, (h.g + (nrs w vw 0 h).g) % 4294967296, (h.h + (nrs w vw 0 h).h) % 4294967296⟩
theorem zbm (h : N8) (w : Nat → Nat) : (xr h w).In := ⟨Nat.mod_lt _ (by decide), Nat.mod_lt _ (by decide), Nat.mod_lt _ (by decide), Nat.mod_lt _ (by decide), Nat.mod_lt _ (by decide), Nat.mod_lt _ (by decide), Nat.mod_lt _ (by decide), Nat.mod_lt _ (by decide)⟩
theorem zhm : ∀ x ∈ vw, x < 4294967296 := by decide
theorem kf {n : Nat} {f g : Nat → Nat} (hf : ∀ i, i < n → f i < 4294967296) (hg : ∀ i, i < n → g i < 4294967296) : Nat.land (Nat.add (vN f n) (vN g n)) (vM n) = vN (fun i => (f i + g i) % 4294967296) n := by
  show (vN f n + vN g n) &&& vM n = _
  rw [yf]
  exact v6 (zg9 fun i hi => by have := hf i hi; have := hg i hi; omega)
theorem zfN {n : Nat} {W : Nat → Nat → Nat} {h : Nat → N8} (hh : ∀ i, i < n → (h i).In) (hW : ∀ i, i < n → ∀ t, t < 16 → W i t < 4294967296) (k : Nat → Nat → Nat → Nat → Nat → Nat → Nat → Nat → Bool) :
    sC (vM n) (vO n) k (vN (fun i => (h i).a) n) (vN (fun i => (h i).b) n) (vN (fun i => (h i).c) n) (vN (fun i => (h i).d) n) (vN (fun i => (h i).e) n) (vN (fun i => (h i).f) n) (vN (fun i => (h i).g) n) (vN (fun i => (h i).h) n) (vN (fun i => W i 0) n) (vN (fun i => W i 1) n) (vN (fun i => W i 2) n) (vN (fun i => W i 3) n) (vN (fun i => W i 4) n) (vN (fun i => W i 5) n) (vN (fun i => W i 6) n) (vN (fun i => W i 7) n) (vN (fun i => W i 8) n) (vN (fun i => W i 9) n) (vN (fun i => W i 10) n) (vN (fun i => W i 11) n) (vN (fun i => W i 12) n) (vN (fun i => W i 13) n) (vN (fun i => W i 14) n) (vN (fun i => W i 15) n) =
    k (vN (fun i => (xr (h i) (W i)).a) n) (vN (fun i => (xr (h i) (W i)).b) n) (vN (fun i => (xr (h i) (W i)).c) n) (vN (fun i => (xr (h i) (W i)).d) n) (vN (fun i => (xr (h i) (W i)).e) n) (vN (fun i => (xr (h i) (W i)).f) n) (vN (fun i => (xr (h i) (W i)).g) n) (vN (fun i => (xr (h i) (W i)).h) n) := by
  have e : ∀ j, j < 16 → (fun i => W i j) = (fun i => yy (W i) (0 + j)) := fun j hj => funext fun i => by rw [Nat.zero_add, zbc _ _ hj]
  unfold sC
  rw [e 0 (by decide), e 1 (by decide), e 2 (by decide), e 3 (by decide), e 4 (by decide), e 5 (by decide), e 6 (by decide), e 7 (by decide), e 8 (by decide), e 9 (by decide), e 10 (by decide), e 11 (by decide), e 12 (by decide), e 13 (by decide), e 14 (by decide), e 15 (by decide), zhX hW _ vw 0 h zhm hh]
  have q : ∀ i, i < n → (nrs (W i) vw 0 (h i)).In := fun i hi => zhV _ _ _ _ (hh i hi)
  unfold sC2
  rw [kf (fun i hi => (hh i hi).1) (fun i hi => (q i hi).1), kf (fun i hi => (hh i hi).2.1) (fun i hi => (q i hi).2.1), kf (fun i hi => (hh i hi).2.2.1) (fun i hi => (q i hi).2.2.1), kf (fun i hi => (hh i hi).2.2.2.1) (fun i hi => (q i hi).2.2.2.1), kf (fun i hi => (hh i hi).2.2.2.2.1) (fun i hi => (q i hi).2.2.2.2.1), kf (fun i hi => (hh i hi).2.2.2.2.2.1) (fun i hi => (q i hi).2.2.2.2.2.1), kf (fun i hi => (hh i hi).2.2.2.2.2.2.1) (fun i hi => (q i hi).2.2.2.2.2.2.1), kf (fun i hi => (hh i hi).2.2.2.2.2.2.2) (fun i hi => (q i hi).2.2.2.2.2.2.2)]
  unfold sC3
  simp only [zgi]
  rfl
def wJ (a b c d : Nat) : Nat := a * 16777216 + b * 65536 + c * 256 + d
theorem zhP {a b c d : Nat} (ha : a < 256) (hb : b < 256) (hc : c < 256) (hd : d < 256) : wJ a b c d < 4294967296 := by unfold wJ; omega
theorem zaK {x y i c : Nat} (hc : c = 2 ^ i) (h : y < c) : x * c ||| y = x * c + y := by
  subst hc
  have := Nat.shiftLeft_add_eq_or_of_lt h x
  rw [Nat.shiftLeft_eq] at this
  exact this.symm
theorem zhr {a b c d : Nat} (ha : a < 256) (hb : b < 256) (hc : c < 256) (hd : d < 256) :
    wo (wo (wo (wl (a : Int) 24) (wl (b : Int) 16)) (wl (c : Int) 8)) (d : Int) = ((wJ a b c d : Nat) : Int) := by
  have e1 : wl (a : Int) 24 = ((a * 16777216 : Nat) : Int) := by rw [zd8]; congr 1; omega
  have e2 : wl (b : Int) 16 = ((b * 65536 : Nat) : Int) := by rw [zd8]; congr 1; omega
  have e3 : wl (c : Int) 8 = ((c * 256 : Nat) : Int) := by rw [zd8]; congr 1; omega
  have o1 : a * 16777216 ||| b * 65536 = (a * 256 + b) * 65536 := by
    rw [zaK (i := 24) (by decide) (by omega)]; omega
  have o2 : (a * 256 + b) * 65536 ||| c * 256 = (a * 65536 + b * 256 + c) * 256 := by
    rw [zaK (i := 16) (by decide) (by omega)]; omega
  have o3 : (a * 65536 + b * 256 + c) * 256 ||| d = wJ a b c d := by
    rw [zaK (i := 8) (by decide) (by omega)]; unfold wJ; omega
  rw [e1, e2, e3, zec (by omega) (by omega), o1, zec (by omega) (by omega), o2, zec (by omega) (by omega), o3]
def bN (p : List UInt8) (i : Nat) : Nat := (p.getD i 0).toNat
theorem qM (p : List UInt8) (i : Nat) : bN p i < 256 := UInt8.toNat_lt _
def wdL (p : List UInt8) (t : Nat) : Nat := wJ (bN p (4 * t)) (bN p (4 * t + 1)) (bN p (4 * t + 2)) (bN p (4 * t + 3))
theorem jy (p : List UInt8) (t : Nat) : wdL p t < 4294967296 := zhP (qM _ _) (qM _ _) (qM _ _) (qM _ _)
theorem zge (p : List UInt8) (t : Nat) : wg p t = ((wdL p t : Nat) : Int) := zhr (qM _ _) (qM _ _) (qM _ _) (qM _ _)
theorem zbi {x y : List UInt8} {i : Nat} (h : i < x.length) : bN (x ++ y) i = bN x i := by
  unfold bN
  rw [List.getD_eq_getElem?_getD, List.getD_eq_getElem?_getD, List.getElem?_append_left h]
theorem kJ {x y : List UInt8} {i : Nat} (h : x.length ≤ i) : bN (x ++ y) i = bN y (i - x.length) := by
  unfold bN
  rw [List.getD_eq_getElem?_getD, List.getD_eq_getElem?_getD, List.getElem?_append_right h]
theorem zn {x y : List UInt8} {t : Nat} (h : 4 * t + 4 ≤ x.length) : wdL (x ++ y) t = wdL x t := by
  unfold wdL; rw [zbi (by omega), zbi (by omega), zbi (by omega), zbi (by omega)]
theorem zd {x y : List UInt8} {t k : Nat} (hx : x.length = 4 * k) (h : k ≤ t) : wdL (x ++ y) t = wdL y (t - k) := by
  unfold wdL
  rw [kJ (by omega), kJ (by omega), kJ (by omega), kJ (by omega), hx, show 4 * t - 4 * k = 4 * (t - k) by omega, show 4 * t + 1 - 4 * k = 4 * (t - k) + 1 by omega, show 4 * t + 2 - 4 * k = 4 * (t - k) + 2 by omega, show 4 * t + 3 - 4 * k = 4 * (t - k) + 3 by omega]
theorem zx (b : UInt8) (p : List UInt8) (t : Nat) : wdL (b :: p) (t + 1) = wdL p t % 256 * 16777216 + wdL p (t + 1) / 256 := by
  have e : ∀ i, bN (b :: p) (i + 1) = bN p i := fun i => by unfold bN; rw [List.getD_cons_succ]
  unfold wdL wJ
  rw [show 4 * (t + 1) + 1 = 4 * (t + 1) + 0 + 1 by omega, show 4 * (t + 1) = 4 * t + 3 + 1 by omega, e, e, e, e]
  have := qM p (4 * t + 3 + 1 + 3); have := qM p (4 * t + 3); have := qM p (4 * t + 3 + 1 + 1); have := qM p (4 * t + 3 + 1 + 2)
  simp only [Nat.add_assoc, Nat.reduceAdd, Nat.add_zero] at *
  omega
theorem k9 (b : UInt8) (p : List UInt8) : wdL (b :: p) 0 = b.toNat * 16777216 + wdL p 0 / 256 := by
  have e : ∀ i, bN (b :: p) (i + 1) = bN p i := fun i => by unfold bN; rw [List.getD_cons_succ]
  have e0 : bN (b :: p) 0 = b.toNat := rfl
  unfold wdL wJ
  rw [show 4 * 0 + 1 = 0 + 1 by rfl, show 4 * 0 + 2 = 1 + 1 by rfl, show 4 * 0 + 3 = 2 + 1 by rfl, e, e, e, show 4 * 0 = 0 from rfl, e0]
  have := qM p 3
  show _ = _ + (bN p 0 * 16777216 + bN p 1 * 65536 + bN p 2 * 256 + bN p 3) / 256
  omega
theorem zeo (p : List UInt8) : ∀ c t (w : List Int), w.length = 64 → t + c ≤ 16 → (∀ j, j < t → w.getD j 0 = wg p j) → (xf (fun t w => w.set t (wg p t)) c t w).length = 64 ∧ ∀ j, j < t + c → (xf (fun t w => w.set t (wg p t)) c t w).getD j 0 = wg p j
  | 0, t, w, hl, _, h => ⟨hl, h⟩
  | c + 1, t, w, hl, hc, h => by
    rw [xf]
    have := zeo p c (t + 1) (w.set t (wg p t)) (by rw [List.length_set]; exact hl) (by omega) (fun j hj => by
      rw [List.getD_eq_getElem?_getD, List.getElem?_set]
      by_cases e : t = j
      · subst e; rw [if_pos rfl, if_pos (by omega)]; rfl
      · rw [if_neg e, ← List.getD_eq_getElem?_getD]; exact h j (by omega))
    rw [show t + 1 + c = t + (c + 1) by omega] at this
    exact this
theorem zdT (W : Nat → Nat) (hW : ∀ t, t < 16 → W t < 4294967296) : ∀ c t (w : List Int), w.length = 64 → t + 16 + c ≤ 64 → (∀ j, j < t + 16 → w.getD j 0 = ((yy W j : Nat) : Int)) → ∀ j, j < t + 16 + c → (xf yR c (t + 16) w).getD j 0 = ((yy W j : Nat) : Int)
  | 0, t, w, hl, _, h => h
  | c + 1, t, w, hl, hc, h => by
    rw [xf]
    have := zdT W hW c (t + 1) (yR (t + 16) w) (by unfold yR; rw [List.length_set]; exact hl) (by omega) (fun j hj => by
      unfold yR
      rw [List.getD_eq_getElem?_getD, List.getElem?_set]
      by_cases e : t + 16 = j
      · subst e
        rw [if_pos rfl, if_pos (by omega), show t + 16 - 15 = t + 1 by omega, show t + 16 - 2 = t + 14 by omega, show t + 16 - 7 = t + 9 by omega, Nat.add_sub_cancel, h _ (by omega), h _ (by omega), h _ (by omega), h _ (by omega),
          zhy (qA W hW _) (qA W hW _) (qA W hW _) (qA W hW _), zaW]; rfl
      · rw [if_neg e, ← List.getD_eq_getElem?_getD]; exact h j (by omega))
    rw [show t + 1 + 16 = t + 16 + 1 by omega, show t + 16 + 1 + c = t + 16 + (c + 1) by omega] at this
    exact this
theorem zhk (p : List UInt8) (t : Nat) (ht : t < 64) : (jW (vf p)).getD t 0 = ((yy (wdL p) t : Nat) : Int) := by
  have h1 := zeo p 16 0 w0L (by simp [w0L]) (by decide) (fun j hj => by omega)
  exact zdT (wdL p) (fun _ _ => jy _ _) 48 0 (vf p) h1.1 (by decide) (fun j hj => by
    rw [show vf p = xf (fun t w => w.set t (wg p t)) 16 0 w0L from rfl, h1.2 j (by omega), zge, zbc _ _ (by omega)]) t (by omega)
theorem zbx (W : Nat → Nat) (w : List Int) (hw : ∀ t, t < 64 → w.getD t 0 = ((yy W t : Nat) : Int)) : ∀ (ks : List Nat) (t : Nat) (v : N8), t + ks.length ≤ 64 → (∀ j, j < ks.length → zbw.getD (t + j) 0 = ((ks.getD j 0 : Nat) : Int)) → v.In →
    xf (fun t v => rnd (zbw.getD t 0) (w.getD t 0) v) ks.length t v.i = (nrs W ks t v).i
  | [], t, v, _, _, _ => by rw [jC]; rfl
  | k :: ks, t, v, hl, hk, hv => by
    rw [List.length_cons] at hl
    rw [List.length_cons, xf, qn]
    have h0 := hk 0 (by simp)
    rw [Nat.add_zero, List.getD_cons_zero] at h0
    rw [h0, hw t (by omega), ziA hv]
    exact zbx W w hw ks (t + 1) _ (by omega) (fun j hj => by
      have := hk (j + 1) (by rw [List.length_cons]; omega)
      rw [List.getD_cons_succ] at this
      rw [show t + 1 + j = t + (j + 1) by omega]; exact this) (zc4 hv)
theorem wq {w w' : Nat → Nat} (h : ∀ t, t < 16 → w t = w' t) : ∀ t j, j < t + 16 → wsS w t j = wsS w' t j
  | 0, j, hj => h j (by omega)
  | t + 1, j, hj => by
    rw [wsS, wsS]
    by_cases e : j = t + 16
    · rw [if_pos e, if_pos e, wq h t _ (by omega), wq h t _ (by omega), wq h t _ (by omega), wq h t _ (by omega)]
    · rw [if_neg e, if_neg e, wq h t _ (by omega)]
theorem zcp {w w' : Nat → Nat} (h : ∀ t, t < 16 → w t = w' t) : ∀ (ks : List Nat) (t : Nat) (v : N8), nrs w ks t v = nrs w' ks t v
  | [], _, _ => by rw [jC, jC]
  | k :: ks, t, v => by
    have e : yy w t = yy w' t := wq h t t (by omega)
    rw [qn, qn, zcp h ks, e]
theorem zfc (v : N8) {w w' : Nat → Nat} (h : ∀ t, t < 16 → w t = w' t) : xr v w = xr v w' := by
  unfold xr
  rw [zcp h]
theorem zhB : ∀ j, j < vw.length → zbw.getD (0 + j) 0 = ((vw.getD j 0 : Nat) : Int) := by decide
theorem zhK {h : N8} (hh : h.In) (p : List UInt8) : zeh h.i p = (xr h (wdL p)).i := by
  have h1 := zbx (wdL p) (jW (vf p)) (zhk p) vw 0 h (by decide) zhB hh
  have e : zat (jW (vf p)) h.i = (nrs (wdL p) vw 0 h).i := h1
  unfold zeh xr
  rw [e]
  generalize nrs (wdL p) vw 0 h = q
  unfold kH N8.i
  simp only [zb5]
def hN : N8 := ⟨0x6a09e667, 0xbb67ae85, 0x3c6ef372, 0xa54ff53a, 0x510e527f, 0x9b05688c, 0x1f83d9ab, 0x5be0cd19⟩
theorem zlm : hN.i = zdZ := rfl
theorem zgy : hN.In := by unfold hN N8.In; decide
def nGo : Nat → N8 → List UInt8 → N8
  | 0, h, _ => h
  | n + 1, h, p => nGo n (xr h (wdL p)) (p.drop 64)
theorem xW (n : Nat) (h : N8) (p : List UInt8) : nGo (n + 1) h p = nGo n (xr h (wdL p)) (p.drop 64) := by rw [nGo]
theorem wM (h : N8) (p : List UInt8) : nGo 0 h p = h := by rw [nGo]
theorem zbL : ∀ (n : Nat) (h : N8) (p : List UInt8), h.In → xJ n h.i p = (nGo n h p).i ∧ (nGo n h p).In
  | 0, h, p, hh => by rw [wM]; exact ⟨rfl, hh⟩
  | n + 1, h, p, hh => by
    rw [xJ, zhK hh, xW]
    exact zbL n _ _ (zbm _ _)
theorem qU (b : Nat) (y : List UInt8) : ∀ (a : Nat) (h : N8) (x : List UInt8), x.length = 64 * a → nGo (a + b) h (x ++ y) = nGo b (nGo a h x) y
  | 0, h, x, hx => by
    obtain rfl := List.eq_nil_of_length_eq_zero (by omega : x.length = 0)
    rw [Nat.zero_add, wM, List.nil_append]
  | a + 1, h, x, hx => by
    have e : xr h (wdL (x ++ y)) = xr h (wdL x) := zfc h fun t ht => zn (by omega)
    rw [show a + 1 + b = (a + b) + 1 by omega, xW, xW, List.drop_append_of_le_length (by omega), e]
    exact qU b y a _ _ (by rw [List.length_drop]; omega)
def wd (s : ByteArray) (t : Nat) : Nat := wdL s.data.toList t
theorem yx (s : ByteArray) (t : Nat) : wd s t < 4294967296 := jy _ _
def N8.l (v : N8) : List Nat := [v.a, v.b, v.c, v.d, v.e, v.f, v.g, v.h]
theorem vn (x : Nat) (hx : x < 4294967296) (y : List UInt8) : wdL (w4 (x : Int) ++ y) 0 = x := by
  have e : w4 (x : Int) = [UInt8.ofNat (x / 256 ^ 3), UInt8.ofNat (x / 256 ^ 2), UInt8.ofNat (x / 256 ^ 1), UInt8.ofNat (x / 256 ^ 0)] := rfl
  rw [e]
  show wJ (UInt8.ofNat (x / 256 ^ 3)).toNat (UInt8.ofNat (x / 256 ^ 2)).toNat (UInt8.ofNat (x / 256 ^ 1)).toNat (UInt8.ofNat (x / 256 ^ 0)).toNat = x
  simp only [UInt8.toNat_ofNat']
  unfold wJ
  omega
theorem zhC (v : N8) (hv : v.In) : ∀ j, j < 8 → wdL v.i.out j = v.l.getD j 0 := by
  obtain ⟨h1, h2, h3, h4, h5, h6, h7, h8⟩ := hv
  have e : v.i.out = w4 (v.a : Int) ++ (w4 (v.b : Int) ++ (w4 (v.c : Int) ++ (w4 (v.d : Int) ++ (w4 (v.e : Int) ++ (w4 (v.f : Int) ++ (w4 (v.g : Int) ++ (w4 (v.h : Int) ++ []))))))) := by
    show w4 (v.a : Int) ++ w4 (v.b : Int) ++ w4 (v.c : Int) ++ w4 (v.d : Int) ++ w4 (v.e : Int) ++ w4 (v.f : Int) ++ w4 (v.g : Int) ++ w4 (v.h : Int) = _
    simp only [List.append_assoc, List.append_nil]
  have r : ∀ (x : Int) (y : List UInt8) (t : Nat), wdL (w4 x ++ y) (t + 1) = wdL y t := fun x y t => by
    rw [zd (k := 1) (zh2 x) (by omega), Nat.add_sub_cancel]
  intro j hj
  rw [e]
  have : j = 0 ∨ j = 1 ∨ j = 2 ∨ j = 3 ∨ j = 4 ∨ j = 5 ∨ j = 6 ∨ j = 7 := by omega
  rcases this with rfl | rfl | rfl | rfl | rfl | rfl | rfl | rfl
  · rw [vn _ h1]; rfl
  · rw [r, vn _ h2]; rfl
  · rw [r, r, vn _ h3]; rfl
  · rw [r, r, r, vn _ h4]; rfl
  · rw [r, r, r, r, vn _ h5]; rfl
  · rw [r, r, r, r, r, vn _ h6]; rfl
  · rw [r, r, r, r, r, r, vn _ h7]; rfl
  · rw [r, r, r, r, r, r, r, vn _ h8]; rfl
theorem zf9 (s : ByteArray) (n : Nat) (hn : (zN s.data.toList).length = 64 * n) (j : Nat) (hj : j < 8) : wd (sha s) j = (nGo n hN (zN s.data.toList)).l.getD j 0 := by
  obtain ⟨h1, h2⟩ := zbL n hN (zN s.data.toList) zgy
  unfold wd sha
  rw [xn, zia, hn, Nat.mul_div_cancel_left _ (by decide), ← zlm, h1]
  exact zhC _ h2 j hj
theorem yz (c n : Nat) : Nat.mul (vO n) c = vN (fun _ => c) n := by
  show vN _ n * c = _
  rw [yP]; exact zb n (fun _ _ => Nat.one_mul _)
theorem zw : ∀ n, vN (fun _ => 0) n = 0
  | 0 => rfl
  | n + 1 => by rw [vN, zw n]; simp
theorem qh (a b : ByteArray) : (a ++ b).data.toList = a.data.toList ++ b.data.toList := by simp
theorem ze (a : ByteArray) : a.data.toList.length = a.size := Array.length_toList
theorem zda (X Y : List UInt8) (k m b : Nat) (hX : X.length = 4 * k) (hm : (119 - (4 * k + Y.length) % 64) % 64 = m) (hb : 8 * (4 * k + Y.length) = b) : zN (X ++ Y) = X ++ (Y ++ 128 :: (List.replicate m 0 ++ xu 8 b)) := by
  unfold zN ws
  rw [List.length_append, hX, hm, hb, List.append_assoc]
theorem zem (X : List UInt8) (a c : UInt8) (k m b : Nat) (hX : X.length = 4 * k) (hm : (119 - (4 * k + 2) % 64) % 64 = m + 1) (hb : 8 * (4 * k + 2) = b) : zN (X ++ [a, c]) = X ++ ([a, c, 128, 0] ++ (List.replicate m 0 ++ xu 8 b)) :=
  zda X [a, c] k (m + 1) b hX hm hb
theorem zhu (X : List UInt8) (a : UInt8) (k m b : Nat) (hX : X.length = 4 * k) (hm : (119 - (4 * k + 1) % 64) % 64 = m + 2) (hb : 8 * (4 * k + 1) = b) : zN (X ++ [a]) = X ++ ([a, 128, 0, 0] ++ (List.replicate m 0 ++ xu 8 b)) :=
  zda X [a] k (m + 2) b hX hm hb
theorem zf (a b c d : UInt8) (y : List UInt8) (t : Nat) : wdL ([a, b, c, d] ++ y) (t + 1) = wdL y t := by
  rw [zd (k := 1) rfl (by omega), Nat.add_sub_cancel]
theorem yK (a b c d : UInt8) (y : List UInt8) : wdL ([a, b, c, d] ++ y) 0 = wJ a.toNat b.toNat c.toNat d.toNat := rfl
theorem zaX (b : UInt8) (X : List UInt8) (k m n : Nat) (hX : X.length = 4 * k) (hm : (119 - (4 * k + 1) % 64) % 64 = m) (hn : 8 * (4 * k + 1) = n) : zN (b :: X) = b :: (X ++ 128 :: (List.replicate m 0 ++ xu 8 n)) := by
  unfold zN ws
  rw [List.length_cons, hX, hm, hn, List.cons_append]
theorem zkJ (v : N8) : v.l.getD 0 0 = v.a := rfl
theorem zkT (v : N8) : v.l.getD 1 0 = v.b := rfl
theorem zld (v : N8) : v.l.getD 2 0 = v.c := rfl
theorem zkL (v : N8) : v.l.getD 3 0 = v.d := rfl
theorem zli (v : N8) : v.l.getD 4 0 = v.e := rfl
theorem zll (v : N8) : v.l.getD 5 0 = v.f := rfl
theorem zlk (v : N8) : v.l.getD 6 0 = v.g := rfl
theorem zlj (v : N8) : v.l.getD 7 0 = v.h := rfl
theorem zgo (c p : Nat) (hc : c < 256) (hp : p < 256) : (zM (c : Int) (p : Int)).data.toList = [UInt8.ofNat c, UInt8.ofNat p] := by
  have e : ∀ x : Nat, x < 256 → (IntKind.u8.wrap (x : Int)).toNat = x := fun x hx => by
    simp only [IntKind.wrap, IntKind.bits, IntKind.signed, Bool.false_and, Bool.false_eq_true, if_false]; omega
  unfold zM vL
  rw [strOfNums_data]
  simp [T.num, e c hc, e p hp]
theorem zbK (c p : Nat) (hc : c < 256) (hp : p < 256) (y : List UInt8) : wdL ([UInt8.ofNat c, UInt8.ofNat p, 128, 0] ++ y) 0 = c * 16777216 + p * 65536 + 32768 := by
  rw [yK, UInt8.toNat_ofNat', UInt8.toNat_ofNat', show (128 : UInt8).toNat = 128 from rfl, show (0 : UInt8).toNat = 0 from rfl]
  unfold wJ; omega
theorem zkU (c : Nat) (hc : c < 256) : (byS (c : Int)).data.toList = [UInt8.ofNat c] := by
  have e : ∀ x : Nat, x < 256 → (IntKind.u8.wrap (x : Int)).toNat = x := fun x hx => by
    simp only [IntKind.wrap, IntKind.bits, IntKind.signed, Bool.false_and, Bool.false_eq_true, if_false]; omega
  unfold byS vL
  rw [strOfNums_data]
  simp [T.num, e c hc]
theorem zi3 (c : Nat) (hc : c < 256) (y : List UInt8) : wdL ([UInt8.ofNat c, 128, 0, 0] ++ y) 0 = c * 16777216 + 8388608 := by
  rw [yK, UInt8.toNat_ofNat', show (128 : UInt8).toNat = 128 from rfl, show (0 : UInt8).toNat = 0 from rfl]
  unfold wJ; omega
theorem xG {n : Nat} {f : Nat → Nat} (h : ∀ i, i < n → f i < 4294967296) : Nat.land (Nat.shiftRight (vN f n) 8) (vM n) = vN (fun i => f i / 256) n := by
  have := v6 (jI (n := n) (f := f) (fun i hi => by have := h i hi; omega) (show 8 ≤ 32 by decide))
  refine Eq.trans this (zb n fun i hi => ?_)
  have := h i hi
  show (f i >>> 8) % 4294967296 = f i / 256
  rw [Nat.shiftRight_eq_div_pow]; omega
theorem xH {n : Nat} {f : Nat → Nat} (h : ∀ i, i < n → f i < 4294967296) : Nat.land (vN f n) (Nat.mul (vO n) 255) = vN (fun i => f i % 256) n := by
  rw [yz]
  have := (kr (n := n) (f := f) (g := fun _ => 255) (fun i hi => by have := h i hi; omega) (fun _ _ => by decide)).2
  refine Eq.trans this (zb n fun i hi => ?_)
  exact Nat.and_two_pow_sub_one_eq_mod (f i) 8
def sC0 (M O : Nat) (k : Nat → Nat → Nat → Nat → Nat → Nat → Nat → Nat → Bool) (w0 w1 w2 w3 w4 w5 w6 w7 w8 w9 w10 w11 w12 w13 w14 w15 : Nat) : Bool := sC M O k (Nat.mul O hN.a) (Nat.mul O hN.b) (Nat.mul O hN.c) (Nat.mul O hN.d) (Nat.mul O hN.e) (Nat.mul O hN.f) (Nat.mul O hN.g) (Nat.mul O hN.h) w0 w1 w2 w3 w4 w5 w6 w7 w8 w9 w10 w11 w12 w13 w14 w15
theorem qK {n : Nat} (s : Nat → ByteArray) (hs : ∀ i, i < n → (zN (s i).data.toList).length = 64) (k : Nat → Nat → Nat → Nat → Nat → Nat → Nat → Nat → Bool) :
    sC0 (vM n) (vO n) k (vN (fun i => wdL (zN (s i).data.toList) 0) n) (vN (fun i => wdL (zN (s i).data.toList) 1) n) (vN (fun i => wdL (zN (s i).data.toList) 2) n) (vN (fun i => wdL (zN (s i).data.toList) 3) n) (vN (fun i => wdL (zN (s i).data.toList) 4) n) (vN (fun i => wdL (zN (s i).data.toList) 5) n) (vN (fun i => wdL (zN (s i).data.toList) 6) n) (vN (fun i => wdL (zN (s i).data.toList) 7) n) (vN (fun i => wdL (zN (s i).data.toList) 8) n) (vN (fun i => wdL (zN (s i).data.toList) 9) n) (vN (fun i => wdL (zN (s i).data.toList) 10) n) (vN (fun i => wdL (zN (s i).data.toList) 11) n) (vN (fun i => wdL (zN (s i).data.toList) 12) n) (vN (fun i => wdL (zN (s i).data.toList) 13) n) (vN (fun i => wdL (zN (s i).data.toList) 14) n) (vN (fun i => wdL (zN (s i).data.toList) 15) n) =
    k (vN (fun i => wd (sha (s i)) 0) n) (vN (fun i => wd (sha (s i)) 1) n) (vN (fun i => wd (sha (s i)) 2) n) (vN (fun i => wd (sha (s i)) 3) n) (vN (fun i => wd (sha (s i)) 4) n) (vN (fun i => wd (sha (s i)) 5) n) (vN (fun i => wd (sha (s i)) 6) n) (vN (fun i => wd (sha (s i)) 7) n) := by
  have e : ∀ j, j < 8 → ∀ i, i < n → wd (sha (s i)) j = (xr hN (wdL (zN (s i).data.toList))).l.getD j 0 := fun j hj i hi => by
    rw [zf9 (s i) 1 (by rw [hs i hi]) j hj, xW, wM]
  have e0 : vN (fun i => wd (sha (s i)) 0) n = vN (fun i => (xr hN (wdL (zN (s i).data.toList))).a) n := zb n fun i hi => (e 0 (by decide) i hi).trans (zkJ _)
  have e1 : vN (fun i => wd (sha (s i)) 1) n = vN (fun i => (xr hN (wdL (zN (s i).data.toList))).b) n := zb n fun i hi => (e 1 (by decide) i hi).trans (zkT _)
  have e2 : vN (fun i => wd (sha (s i)) 2) n = vN (fun i => (xr hN (wdL (zN (s i).data.toList))).c) n := zb n fun i hi => (e 2 (by decide) i hi).trans (zld _)
  have e3 : vN (fun i => wd (sha (s i)) 3) n = vN (fun i => (xr hN (wdL (zN (s i).data.toList))).d) n := zb n fun i hi => (e 3 (by decide) i hi).trans (zkL _)
  have e4 : vN (fun i => wd (sha (s i)) 4) n = vN (fun i => (xr hN (wdL (zN (s i).data.toList))).e) n := zb n fun i hi => (e 4 (by decide) i hi).trans (zli _)
  have e5 : vN (fun i => wd (sha (s i)) 5) n = vN (fun i => (xr hN (wdL (zN (s i).data.toList))).f) n := zb n fun i hi => (e 5 (by decide) i hi).trans (zll _)
  have e6 : vN (fun i => wd (sha (s i)) 6) n = vN (fun i => (xr hN (wdL (zN (s i).data.toList))).g) n := zb n fun i hi => (e 6 (by decide) i hi).trans (zlk _)
  have e7 : vN (fun i => wd (sha (s i)) 7) n = vN (fun i => (xr hN (wdL (zN (s i).data.toList))).h) n := zb n fun i hi => (e 7 (by decide) i hi).trans (zlj _)
  rw [e0, e1, e2, e3, e4, e5, e6, e7]
  unfold sC0
  simp only [yz]
  exact zfN (h := fun _ => hN) (W := fun i t => wdL (zN (s i).data.toList) t) (fun _ _ => zgy) (fun _ _ _ _ => jy _ _) k
theorem yn (s : ByteArray) (j : Nat) (hj : j < 4) : wd (zO s) j = wd (sha s) j := by
  have h : (sha s).data.toList = (zO s).data.toList ++ (sha s).data.toList.drop 16 := by
    unfold zO
    have := yE (sha s).data.toList 0 16
    rw [wE] at this
    rw [this, xn, List.drop_zero, List.take_append_drop]
  unfold wd
  rw [h, zn (by rw [ze, yC]; omega)]
def zf0 (M O c p : Nat) (k : Nat → Nat → Nat → Nat → Bool) (x0 x1 x2 x3 : Nat) : Bool := sC0 M O (fun y0 y1 y2 y3 _ _ _ _ => k y0 y1 y2 y3) x0 x1 x2 x3 (Nat.mul O (c * 16777216 + p * 65536 + 32768)) 0 0 0 0 0 0 0 0 0 0 (Nat.mul O (144))
theorem zaH {n : Nat} (c p : Nat) (hc : c < 256) (hp : p < 256) {g : Nat → ByteArray} (hg : ∀ i, i < n → (g i).size = 16) (k : Nat → Nat → Nat → Nat → Bool) :
    zf0 (vM n) (vO n) c p k (vN (fun i => wd (g i) 0) n) (vN (fun i => wd (g i) 1) n) (vN (fun i => wd (g i) 2) n) (vN (fun i => wd (g i) 3) n) = k (vN (fun i => wd (qa (g i) (c : Int) (p : Int)) 0) n) (vN (fun i => wd (qa (g i) (c : Int) (p : Int)) 1) n) (vN (fun i => wd (qa (g i) (c : Int) (p : Int)) 2) n) (vN (fun i => wd (qa (g i) (c : Int) (p : Int)) 3) n) := by
  have pd : ∀ i, i < n → zN ((g i ++ zM (c : Int) (p : Int)).data.toList) = (g i).data.toList ++ ([UInt8.ofNat c, UInt8.ofNat p, 128, 0] ++ (List.replicate 36 0 ++ xu 8 144)) := fun i hi => by
    rw [qh, zgo c p hc hp]; exact zem _ _ _ 4 36 144 (by rw [ze, hg i hi]) rfl rfl
  have h := qK (n := n) (fun i => g i ++ zM (c : Int) (p : Int)) (fun i hi => by rw [pd i hi]; simp [hg i hi, xI]) (fun y0 y1 y2 y3 _ _ _ _ => k y0 y1 y2 y3)
  have e0 : vN (fun i => wdL (zN (g i ++ zM (c : Int) (p : Int)).data.toList) 0) n = (vN (fun i => wd (g i) 0) n) := by
    refine zb n fun i hi => ?_
    rw [pd i hi, zn (by rw [ze, hg i hi]; omega)]; rfl
  have e1 : vN (fun i => wdL (zN (g i ++ zM (c : Int) (p : Int)).data.toList) 1) n = (vN (fun i => wd (g i) 1) n) := by
    refine zb n fun i hi => ?_
    rw [pd i hi, zn (by rw [ze, hg i hi]; omega)]; rfl
  have e2 : vN (fun i => wdL (zN (g i ++ zM (c : Int) (p : Int)).data.toList) 2) n = (vN (fun i => wd (g i) 2) n) := by
    refine zb n fun i hi => ?_
    rw [pd i hi, zn (by rw [ze, hg i hi]; omega)]; rfl
  have e3 : vN (fun i => wdL (zN (g i ++ zM (c : Int) (p : Int)).data.toList) 3) n = (vN (fun i => wd (g i) 3) n) := by
    refine zb n fun i hi => ?_
    rw [pd i hi, zn (by rw [ze, hg i hi]; omega)]; rfl
  have e4 : vN (fun i => wdL (zN (g i ++ zM (c : Int) (p : Int)).data.toList) 4) n = Nat.mul (vO n) (c * 16777216 + p * 65536 + 32768) := by
    rw [yz]; refine zb n fun i hi => ?_
    rw [pd i hi]
    rw [zd (k := 4) (by rw [ze, hg i hi]) (by decide)]; exact zbK c p hc hp _
  have e5 : vN (fun i => wdL (zN (g i ++ zM (c : Int) (p : Int)).data.toList) 5) n = 0 := by
    rw [← zw n]; refine zb n fun i hi => ?_
    rw [pd i hi]
    rw [zd (k := 4) (by rw [ze, hg i hi]) (by decide)]; exact (zf _ _ _ _ _ 0).trans (by decide +kernel)
  have e6 : vN (fun i => wdL (zN (g i ++ zM (c : Int) (p : Int)).data.toList) 6) n = 0 := by
    rw [← zw n]; refine zb n fun i hi => ?_
    rw [pd i hi]
    rw [zd (k := 4) (by rw [ze, hg i hi]) (by decide)]; exact (zf _ _ _ _ _ 1).trans (by decide +kernel)
  have e7 : vN (fun i => wdL (zN (g i ++ zM (c : Int) (p : Int)).data.toList) 7) n = 0 := by
    rw [← zw n]; refine zb n fun i hi => ?_
    rw [pd i hi]
    rw [zd (k := 4) (by rw [ze, hg i hi]) (by decide)]; exact (zf _ _ _ _ _ 2).trans (by decide +kernel)
  have e8 : vN (fun i => wdL (zN (g i ++ zM (c : Int) (p : Int)).data.toList) 8) n = 0 := by
    rw [← zw n]; refine zb n fun i hi => ?_
    rw [pd i hi]
    rw [zd (k := 4) (by rw [ze, hg i hi]) (by decide)]; exact (zf _ _ _ _ _ 3).trans (by decide +kernel)
  have e9 : vN (fun i => wdL (zN (g i ++ zM (c : Int) (p : Int)).data.toList) 9) n = 0 := by
    rw [← zw n]; refine zb n fun i hi => ?_
    rw [pd i hi]
    rw [zd (k := 4) (by rw [ze, hg i hi]) (by decide)]; exact (zf _ _ _ _ _ 4).trans (by decide +kernel)
  have e10 : vN (fun i => wdL (zN (g i ++ zM (c : Int) (p : Int)).data.toList) 10) n = 0 := by
    rw [← zw n]; refine zb n fun i hi => ?_
    rw [pd i hi]
    rw [zd (k := 4) (by rw [ze, hg i hi]) (by decide)]; exact (zf _ _ _ _ _ 5).trans (by decide +kernel)
  have e11 : vN (fun i => wdL (zN (g i ++ zM (c : Int) (p : Int)).data.toList) 11) n = 0 := by
    rw [← zw n]; refine zb n fun i hi => ?_
    rw [pd i hi]
    rw [zd (k := 4) (by rw [ze, hg i hi]) (by decide)]; exact (zf _ _ _ _ _ 6).trans (by decide +kernel)
  have e12 : vN (fun i => wdL (zN (g i ++ zM (c : Int) (p : Int)).data.toList) 12) n = 0 := by
    rw [← zw n]; refine zb n fun i hi => ?_
    rw [pd i hi]
    rw [zd (k := 4) (by rw [ze, hg i hi]) (by decide)]; exact (zf _ _ _ _ _ 7).trans (by decide +kernel)
  have e13 : vN (fun i => wdL (zN (g i ++ zM (c : Int) (p : Int)).data.toList) 13) n = 0 := by
    rw [← zw n]; refine zb n fun i hi => ?_
    rw [pd i hi]
    rw [zd (k := 4) (by rw [ze, hg i hi]) (by decide)]; exact (zf _ _ _ _ _ 8).trans (by decide +kernel)
  have e14 : vN (fun i => wdL (zN (g i ++ zM (c : Int) (p : Int)).data.toList) 14) n = 0 := by
    rw [← zw n]; refine zb n fun i hi => ?_
    rw [pd i hi]
    rw [zd (k := 4) (by rw [ze, hg i hi]) (by decide)]; exact (zf _ _ _ _ _ 9).trans (by decide +kernel)
  have e15 : vN (fun i => wdL (zN (g i ++ zM (c : Int) (p : Int)).data.toList) 15) n = Nat.mul (vO n) (144) := by
    rw [yz]; refine zb n fun i hi => ?_
    rw [pd i hi]
    rw [zd (k := 4) (by rw [ze, hg i hi]) (by decide)]; exact (zf _ _ _ _ _ 10).trans (by decide +kernel)
  rw [e0, e1, e2, e3, e4, e5, e6, e7, e8, e9, e10, e11, e12, e13, e14, e15] at h
  unfold zf0
  rw [h]
  rw [(zb n fun i _ => (yn (g i ++ zM (c : Int) (p : Int)) 0 (by decide)).symm : vN (fun i => wd (sha (g i ++ zM (c : Int) (p : Int))) 0) n = vN (fun i => wd (zO (g i ++ zM (c : Int) (p : Int))) 0) n), (zb n fun i _ => (yn (g i ++ zM (c : Int) (p : Int)) 1 (by decide)).symm : vN (fun i => wd (sha (g i ++ zM (c : Int) (p : Int))) 1) n = vN (fun i => wd (zO (g i ++ zM (c : Int) (p : Int))) 1) n), (zb n fun i _ => (yn (g i ++ zM (c : Int) (p : Int)) 2 (by decide)).symm : vN (fun i => wd (sha (g i ++ zM (c : Int) (p : Int))) 2) n = vN (fun i => wd (zO (g i ++ zM (c : Int) (p : Int))) 2) n), (zb n fun i _ => (yn (g i ++ zM (c : Int) (p : Int)) 3 (by decide)).symm : vN (fun i => wd (sha (g i ++ zM (c : Int) (p : Int))) 3) n = vN (fun i => wd (zO (g i ++ zM (c : Int) (p : Int))) 3) n)]
  all_goals rfl
def zk6 (M O c : Nat) (k : Nat → Nat → Nat → Nat → Bool) (x0 x1 x2 x3 x4 x5 x6 x7 : Nat) : Bool := sC0 M O (fun y0 y1 y2 y3 _ _ _ _ => k y0 y1 y2 y3) x0 x1 x2 x3 x4 x5 x6 x7 (Nat.mul O (2147483648 + c * 65536 + 32768)) 0 0 0 0 0 0 (Nat.mul O (272))
theorem zi5 {n : Nat} (c : Nat) (hc : c < 256) {g : Nat → ByteArray} (hg : ∀ i, i < n → (g i).size = 32) (k : Nat → Nat → Nat → Nat → Bool) :
    zk6 (vM n) (vO n) c k (vN (fun i => wd (g i) 0) n) (vN (fun i => wd (g i) 1) n) (vN (fun i => wd (g i) 2) n) (vN (fun i => wd (g i) 3) n) (vN (fun i => wd (g i) 4) n) (vN (fun i => wd (g i) 5) n) (vN (fun i => wd (g i) 6) n) (vN (fun i => wd (g i) 7) n) = k (vN (fun i => wd (zbJ (g i) (c : Int)) 0) n) (vN (fun i => wd (zbJ (g i) (c : Int)) 1) n) (vN (fun i => wd (zbJ (g i) (c : Int)) 2) n) (vN (fun i => wd (zbJ (g i) (c : Int)) 3) n) := by
  have pd : ∀ i, i < n → zN ((g i ++ zM 128 (c : Int)).data.toList) = (g i).data.toList ++ ([UInt8.ofNat 128, UInt8.ofNat c, 128, 0] ++ (List.replicate 20 0 ++ xu 8 272)) := fun i hi => by
    rw [qh, show (128 : Int) = ((128 : Nat) : Int) from rfl, zgo 128 c (by decide) hc]; exact zem _ _ _ 8 20 272 (by rw [ze, hg i hi]) rfl rfl
  have h := qK (n := n) (fun i => g i ++ zM 128 (c : Int)) (fun i hi => by rw [pd i hi]; simp [hg i hi, xI]) (fun y0 y1 y2 y3 _ _ _ _ => k y0 y1 y2 y3)
  have e0 : vN (fun i => wdL (zN (g i ++ zM 128 (c : Int)).data.toList) 0) n = (vN (fun i => wd (g i) 0) n) := by
    refine zb n fun i hi => ?_
    rw [pd i hi, zn (by rw [ze, hg i hi]; omega)]; rfl
  have e1 : vN (fun i => wdL (zN (g i ++ zM 128 (c : Int)).data.toList) 1) n = (vN (fun i => wd (g i) 1) n) := by
    refine zb n fun i hi => ?_
    rw [pd i hi, zn (by rw [ze, hg i hi]; omega)]; rfl
  have e2 : vN (fun i => wdL (zN (g i ++ zM 128 (c : Int)).data.toList) 2) n = (vN (fun i => wd (g i) 2) n) := by
    refine zb n fun i hi => ?_
    rw [pd i hi, zn (by rw [ze, hg i hi]; omega)]; rfl
  have e3 : vN (fun i => wdL (zN (g i ++ zM 128 (c : Int)).data.toList) 3) n = (vN (fun i => wd (g i) 3) n) := by
    refine zb n fun i hi => ?_
    rw [pd i hi, zn (by rw [ze, hg i hi]; omega)]; rfl
  have e4 : vN (fun i => wdL (zN (g i ++ zM 128 (c : Int)).data.toList) 4) n = (vN (fun i => wd (g i) 4) n) := by
    refine zb n fun i hi => ?_
    rw [pd i hi, zn (by rw [ze, hg i hi]; omega)]; rfl
  have e5 : vN (fun i => wdL (zN (g i ++ zM 128 (c : Int)).data.toList) 5) n = (vN (fun i => wd (g i) 5) n) := by
    refine zb n fun i hi => ?_
    rw [pd i hi, zn (by rw [ze, hg i hi]; omega)]; rfl
  have e6 : vN (fun i => wdL (zN (g i ++ zM 128 (c : Int)).data.toList) 6) n = (vN (fun i => wd (g i) 6) n) := by
    refine zb n fun i hi => ?_
    rw [pd i hi, zn (by rw [ze, hg i hi]; omega)]; rfl
  have e7 : vN (fun i => wdL (zN (g i ++ zM 128 (c : Int)).data.toList) 7) n = (vN (fun i => wd (g i) 7) n) := by
    refine zb n fun i hi => ?_
    rw [pd i hi, zn (by rw [ze, hg i hi]; omega)]; rfl
  have e8 : vN (fun i => wdL (zN (g i ++ zM 128 (c : Int)).data.toList) 8) n = Nat.mul (vO n) (2147483648 + c * 65536 + 32768) := by
    rw [yz]; refine zb n fun i hi => ?_
    rw [pd i hi]
    rw [zd (k := 8) (by rw [ze, hg i hi]) (by decide)]; exact (zbK 128 c (by decide) hc _).trans (by omega)
  have e9 : vN (fun i => wdL (zN (g i ++ zM 128 (c : Int)).data.toList) 9) n = 0 := by
    rw [← zw n]; refine zb n fun i hi => ?_
    rw [pd i hi]
    rw [zd (k := 8) (by rw [ze, hg i hi]) (by decide)]; exact (zf _ _ _ _ _ 0).trans (by decide +kernel)
  have e10 : vN (fun i => wdL (zN (g i ++ zM 128 (c : Int)).data.toList) 10) n = 0 := by
    rw [← zw n]; refine zb n fun i hi => ?_
    rw [pd i hi]
    rw [zd (k := 8) (by rw [ze, hg i hi]) (by decide)]; exact (zf _ _ _ _ _ 1).trans (by decide +kernel)
  have e11 : vN (fun i => wdL (zN (g i ++ zM 128 (c : Int)).data.toList) 11) n = 0 := by
    rw [← zw n]; refine zb n fun i hi => ?_
    rw [pd i hi]
    rw [zd (k := 8) (by rw [ze, hg i hi]) (by decide)]; exact (zf _ _ _ _ _ 2).trans (by decide +kernel)
  have e12 : vN (fun i => wdL (zN (g i ++ zM 128 (c : Int)).data.toList) 12) n = 0 := by
    rw [← zw n]; refine zb n fun i hi => ?_
    rw [pd i hi]
    rw [zd (k := 8) (by rw [ze, hg i hi]) (by decide)]; exact (zf _ _ _ _ _ 3).trans (by decide +kernel)
  have e13 : vN (fun i => wdL (zN (g i ++ zM 128 (c : Int)).data.toList) 13) n = 0 := by
    rw [← zw n]; refine zb n fun i hi => ?_
    rw [pd i hi]
    rw [zd (k := 8) (by rw [ze, hg i hi]) (by decide)]; exact (zf _ _ _ _ _ 4).trans (by decide +kernel)
  have e14 : vN (fun i => wdL (zN (g i ++ zM 128 (c : Int)).data.toList) 14) n = 0 := by
    rw [← zw n]; refine zb n fun i hi => ?_
    rw [pd i hi]
    rw [zd (k := 8) (by rw [ze, hg i hi]) (by decide)]; exact (zf _ _ _ _ _ 5).trans (by decide +kernel)
  have e15 : vN (fun i => wdL (zN (g i ++ zM 128 (c : Int)).data.toList) 15) n = Nat.mul (vO n) (272) := by
    rw [yz]; refine zb n fun i hi => ?_
    rw [pd i hi]
    rw [zd (k := 8) (by rw [ze, hg i hi]) (by decide)]; exact (zf _ _ _ _ _ 6).trans (by decide +kernel)
  rw [e0, e1, e2, e3, e4, e5, e6, e7, e8, e9, e10, e11, e12, e13, e14, e15] at h
  unfold zk6
  rw [h]
  rw [(zb n fun i _ => (yn (g i ++ zM 128 (c : Int)) 0 (by decide)).symm : vN (fun i => wd (sha (g i ++ zM 128 (c : Int))) 0) n = vN (fun i => wd (zO (g i ++ zM 128 (c : Int))) 0) n), (zb n fun i _ => (yn (g i ++ zM 128 (c : Int)) 1 (by decide)).symm : vN (fun i => wd (sha (g i ++ zM 128 (c : Int))) 1) n = vN (fun i => wd (zO (g i ++ zM 128 (c : Int))) 1) n), (zb n fun i _ => (yn (g i ++ zM 128 (c : Int)) 2 (by decide)).symm : vN (fun i => wd (sha (g i ++ zM 128 (c : Int))) 2) n = vN (fun i => wd (zO (g i ++ zM 128 (c : Int))) 2) n), (zb n fun i _ => (yn (g i ++ zM 128 (c : Int)) 3 (by decide)).symm : vN (fun i => wd (sha (g i ++ zM 128 (c : Int))) 3) n = vN (fun i => wd (zO (g i ++ zM 128 (c : Int))) 3) n)]
  all_goals rfl
def fLf (M O  : Nat) (k : Nat → Nat → Nat → Nat → Bool) (x0 x1 x2 x3 : Nat) : Bool := sC0 M O (fun y0 y1 y2 y3 _ _ _ _ => k y0 y1 y2 y3) (Nat.add (Nat.mul O (0)) (Nat.land (Nat.shiftRight x0 8) M)) (Nat.add (Nat.mul (Nat.land x0 (Nat.mul O 255)) 16777216) (Nat.land (Nat.shiftRight x1 8) M)) (Nat.add (Nat.mul (Nat.land x1 (Nat.mul O 255)) 16777216) (Nat.land (Nat.shiftRight x2 8) M)) (Nat.add (Nat.mul (Nat.land x2 (Nat.mul O 255)) 16777216) (Nat.land (Nat.shiftRight x3 8) M)) (Nat.add (Nat.mul (Nat.land x3 (Nat.mul O 255)) 16777216) (Nat.mul O 8388608)) 0 0 0 0 0 0 0 0 0 0 (Nat.mul O (136))
theorem zkw {n : Nat} {g : Nat → ByteArray} (hg : ∀ i, i < n → (g i).size = 16) (k : Nat → Nat → Nat → Nat → Bool) :
    fLf (vM n) (vO n)  k (vN (fun i => wd (g i) 0) n) (vN (fun i => wd (g i) 1) n) (vN (fun i => wd (g i) 2) n) (vN (fun i => wd (g i) 3) n) = k (vN (fun i => wd (zhl (g i)) 0) n) (vN (fun i => wd (zhl (g i)) 1) n) (vN (fun i => wd (zhl (g i)) 2) n) (vN (fun i => wd (zhl (g i)) 3) n) := by
  have pd : ∀ i, i < n → zN (((⟨#[0]⟩ : ByteArray) ++ g i).data.toList) = 0 :: ((g i).data.toList ++ 128 :: (List.replicate 38 0 ++ xu 8 136)) := fun i hi => by
    rw [qh]; show zN (0 :: (g i).data.toList) = _; exact zaX 0 _ 4 38 136 (by rw [ze, hg i hi]) rfl rfl
  have h := qK (n := n) (fun i => (⟨#[0]⟩ : ByteArray) ++ g i) (fun i hi => by rw [pd i hi]; simp [hg i hi, xI]) (fun y0 y1 y2 y3 _ _ _ _ => k y0 y1 y2 y3)
  have e0 : vN (fun i => wdL (zN ((⟨#[0]⟩ : ByteArray) ++ g i).data.toList) 0) n = Nat.add (Nat.mul (vO n) (0)) (Nat.land (Nat.shiftRight (vN (fun i => wd (g i) 0) n) 8) (vM n)) := by
    rw [xG (fun i hi => yx _ _), yz]
    show _ = vN _ n + vN _ n
    rw [yf]
    refine zb n fun i hi => ?_
    rw [pd i hi, k9, zn (t := 0) (by rw [ze, hg i hi]; omega)]; rfl
  have e1 : vN (fun i => wdL (zN ((⟨#[0]⟩ : ByteArray) ++ g i).data.toList) 1) n = Nat.add (Nat.mul (Nat.land (vN (fun i => wd (g i) 0) n) (Nat.mul (vO n) 255)) 16777216) (Nat.land (Nat.shiftRight (vN (fun i => wd (g i) 1) n) 8) (vM n)) := by
    rw [xG (fun i hi => yx _ _), xH (fun i hi => yx _ _)]
    show _ = vN _ n * 16777216 + vN _ n
    rw [yP, yf]
    refine zb n fun i hi => ?_
    rw [pd i hi, zx, zn (t := 0) (by rw [ze, hg i hi]; omega), zn (t := 1) (by rw [ze, hg i hi]; omega)]; rfl
  have e2 : vN (fun i => wdL (zN ((⟨#[0]⟩ : ByteArray) ++ g i).data.toList) 2) n = Nat.add (Nat.mul (Nat.land (vN (fun i => wd (g i) 1) n) (Nat.mul (vO n) 255)) 16777216) (Nat.land (Nat.shiftRight (vN (fun i => wd (g i) 2) n) 8) (vM n)) := by
    rw [xG (fun i hi => yx _ _), xH (fun i hi => yx _ _)]
    show _ = vN _ n * 16777216 + vN _ n
    rw [yP, yf]
    refine zb n fun i hi => ?_
    rw [pd i hi, zx, zn (t := 1) (by rw [ze, hg i hi]; omega), zn (t := 2) (by rw [ze, hg i hi]; omega)]; rfl
  have e3 : vN (fun i => wdL (zN ((⟨#[0]⟩ : ByteArray) ++ g i).data.toList) 3) n = Nat.add (Nat.mul (Nat.land (vN (fun i => wd (g i) 2) n) (Nat.mul (vO n) 255)) 16777216) (Nat.land (Nat.shiftRight (vN (fun i => wd (g i) 3) n) 8) (vM n)) := by
    rw [xG (fun i hi => yx _ _), xH (fun i hi => yx _ _)]
    show _ = vN _ n * 16777216 + vN _ n
    rw [yP, yf]
    refine zb n fun i hi => ?_
    rw [pd i hi, zx, zn (t := 2) (by rw [ze, hg i hi]; omega), zn (t := 3) (by rw [ze, hg i hi]; omega)]; rfl
  have e4 : vN (fun i => wdL (zN ((⟨#[0]⟩ : ByteArray) ++ g i).data.toList) 4) n = Nat.add (Nat.mul (Nat.land (vN (fun i => wd (g i) 3) n) (Nat.mul (vO n) 255)) 16777216) (Nat.mul (vO n) 8388608) := by
    rw [xH (fun i hi => yx _ _), yz]
    show _ = vN _ n * 16777216 + vN _ n
    rw [yP, yf]
    refine zb n fun i hi => ?_
    rw [pd i hi, zx, zn (t := 3) (by rw [ze, hg i hi]; omega), zd (k := 4) (t := 4) (by rw [ze, hg i hi]) (by decide)]; rfl
  have e5 : vN (fun i => wdL (zN ((⟨#[0]⟩ : ByteArray) ++ g i).data.toList) 5) n = 0 := by
    rw [← zw n]; refine zb n fun i hi => ?_
    rw [pd i hi]
    rw [zx, zd (k := 4) (t := 4) (by rw [ze, hg i hi]) (by decide), zd (k := 4) (t := 5) (by rw [ze, hg i hi]) (by decide)]; decide +kernel
  have e6 : vN (fun i => wdL (zN ((⟨#[0]⟩ : ByteArray) ++ g i).data.toList) 6) n = 0 := by
    rw [← zw n]; refine zb n fun i hi => ?_
    rw [pd i hi]
    rw [zx, zd (k := 4) (t := 5) (by rw [ze, hg i hi]) (by decide), zd (k := 4) (t := 6) (by rw [ze, hg i hi]) (by decide)]; decide +kernel
  have e7 : vN (fun i => wdL (zN ((⟨#[0]⟩ : ByteArray) ++ g i).data.toList) 7) n = 0 := by
    rw [← zw n]; refine zb n fun i hi => ?_
    rw [pd i hi]
    rw [zx, zd (k := 4) (t := 6) (by rw [ze, hg i hi]) (by decide), zd (k := 4) (t := 7) (by rw [ze, hg i hi]) (by decide)]; decide +kernel
  have e8 : vN (fun i => wdL (zN ((⟨#[0]⟩ : ByteArray) ++ g i).data.toList) 8) n = 0 := by
    rw [← zw n]; refine zb n fun i hi => ?_
    rw [pd i hi]
    rw [zx, zd (k := 4) (t := 7) (by rw [ze, hg i hi]) (by decide), zd (k := 4) (t := 8) (by rw [ze, hg i hi]) (by decide)]; decide +kernel
  have e9 : vN (fun i => wdL (zN ((⟨#[0]⟩ : ByteArray) ++ g i).data.toList) 9) n = 0 := by
    rw [← zw n]; refine zb n fun i hi => ?_
    rw [pd i hi]
    rw [zx, zd (k := 4) (t := 8) (by rw [ze, hg i hi]) (by decide), zd (k := 4) (t := 9) (by rw [ze, hg i hi]) (by decide)]; decide +kernel
  have e10 : vN (fun i => wdL (zN ((⟨#[0]⟩ : ByteArray) ++ g i).data.toList) 10) n = 0 := by
    rw [← zw n]; refine zb n fun i hi => ?_
    rw [pd i hi]
    rw [zx, zd (k := 4) (t := 9) (by rw [ze, hg i hi]) (by decide), zd (k := 4) (t := 10) (by rw [ze, hg i hi]) (by decide)]; decide +kernel
  have e11 : vN (fun i => wdL (zN ((⟨#[0]⟩ : ByteArray) ++ g i).data.toList) 11) n = 0 := by
    rw [← zw n]; refine zb n fun i hi => ?_
    rw [pd i hi]
    rw [zx, zd (k := 4) (t := 10) (by rw [ze, hg i hi]) (by decide), zd (k := 4) (t := 11) (by rw [ze, hg i hi]) (by decide)]; decide +kernel
  have e12 : vN (fun i => wdL (zN ((⟨#[0]⟩ : ByteArray) ++ g i).data.toList) 12) n = 0 := by
    rw [← zw n]; refine zb n fun i hi => ?_
    rw [pd i hi]
    rw [zx, zd (k := 4) (t := 11) (by rw [ze, hg i hi]) (by decide), zd (k := 4) (t := 12) (by rw [ze, hg i hi]) (by decide)]; decide +kernel
  have e13 : vN (fun i => wdL (zN ((⟨#[0]⟩ : ByteArray) ++ g i).data.toList) 13) n = 0 := by
    rw [← zw n]; refine zb n fun i hi => ?_
    rw [pd i hi]
    rw [zx, zd (k := 4) (t := 12) (by rw [ze, hg i hi]) (by decide), zd (k := 4) (t := 13) (by rw [ze, hg i hi]) (by decide)]; decide +kernel
  have e14 : vN (fun i => wdL (zN ((⟨#[0]⟩ : ByteArray) ++ g i).data.toList) 14) n = 0 := by
    rw [← zw n]; refine zb n fun i hi => ?_
    rw [pd i hi]
    rw [zx, zd (k := 4) (t := 13) (by rw [ze, hg i hi]) (by decide), zd (k := 4) (t := 14) (by rw [ze, hg i hi]) (by decide)]; decide +kernel
  have e15 : vN (fun i => wdL (zN ((⟨#[0]⟩ : ByteArray) ++ g i).data.toList) 15) n = Nat.mul (vO n) (136) := by
    rw [yz]; refine zb n fun i hi => ?_
    rw [pd i hi]
    rw [zx, zd (k := 4) (t := 14) (by rw [ze, hg i hi]) (by decide), zd (k := 4) (t := 15) (by rw [ze, hg i hi]) (by decide)]; decide +kernel
  rw [e0, e1, e2, e3, e4, e5, e6, e7, e8, e9, e10, e11, e12, e13, e14, e15] at h
  unfold fLf
  rw [h]
  rw [(zb n fun i _ => (yn ((⟨#[0]⟩ : ByteArray) ++ g i) 0 (by decide)).symm : vN (fun i => wd (sha ((⟨#[0]⟩ : ByteArray) ++ g i)) 0) n = vN (fun i => wd (zO ((⟨#[0]⟩ : ByteArray) ++ g i)) 0) n), (zb n fun i _ => (yn ((⟨#[0]⟩ : ByteArray) ++ g i) 1 (by decide)).symm : vN (fun i => wd (sha ((⟨#[0]⟩ : ByteArray) ++ g i)) 1) n = vN (fun i => wd (zO ((⟨#[0]⟩ : ByteArray) ++ g i)) 1) n), (zb n fun i _ => (yn ((⟨#[0]⟩ : ByteArray) ++ g i) 2 (by decide)).symm : vN (fun i => wd (sha ((⟨#[0]⟩ : ByteArray) ++ g i)) 2) n = vN (fun i => wd (zO ((⟨#[0]⟩ : ByteArray) ++ g i)) 2) n), (zb n fun i _ => (yn ((⟨#[0]⟩ : ByteArray) ++ g i) 3 (by decide)).symm : vN (fun i => wd (sha ((⟨#[0]⟩ : ByteArray) ++ g i)) 3) n = vN (fun i => wd (zO ((⟨#[0]⟩ : ByteArray) ++ g i)) 3) n)]
  all_goals rfl
def fRt (M O  : Nat) (k : Nat → Nat → Nat → Nat → Nat → Nat → Nat → Nat → Bool) (x0 x1 x2 x3 : Nat) : Bool := sC0 M O k (Nat.add (Nat.mul O (33554432)) (Nat.land (Nat.shiftRight x0 8) M)) (Nat.add (Nat.mul (Nat.land x0 (Nat.mul O 255)) 16777216) (Nat.land (Nat.shiftRight x1 8) M)) (Nat.add (Nat.mul (Nat.land x1 (Nat.mul O 255)) 16777216) (Nat.land (Nat.shiftRight x2 8) M)) (Nat.add (Nat.mul (Nat.land x2 (Nat.mul O 255)) 16777216) (Nat.land (Nat.shiftRight x3 8) M)) (Nat.add (Nat.mul (Nat.land x3 (Nat.mul O 255)) 16777216) (Nat.mul O 8388608)) 0 0 0 0 0 0 0 0 0 0 (Nat.mul O (136))
theorem zko {n : Nat} {g : Nat → ByteArray} (hg : ∀ i, i < n → (g i).size = 16) (k : Nat → Nat → Nat → Nat → Nat → Nat → Nat → Nat → Bool) :
    fRt (vM n) (vO n)  k (vN (fun i => wd (g i) 0) n) (vN (fun i => wd (g i) 1) n) (vN (fun i => wd (g i) 2) n) (vN (fun i => wd (g i) 3) n) = k (vN (fun i => wd (zfr (g i)) 0) n) (vN (fun i => wd (zfr (g i)) 1) n) (vN (fun i => wd (zfr (g i)) 2) n) (vN (fun i => wd (zfr (g i)) 3) n) (vN (fun i => wd (zfr (g i)) 4) n) (vN (fun i => wd (zfr (g i)) 5) n) (vN (fun i => wd (zfr (g i)) 6) n) (vN (fun i => wd (zfr (g i)) 7) n) := by
  have pd : ∀ i, i < n → zN (((⟨#[2]⟩ : ByteArray) ++ g i).data.toList) = 2 :: ((g i).data.toList ++ 128 :: (List.replicate 38 0 ++ xu 8 136)) := fun i hi => by
    rw [qh]; show zN (2 :: (g i).data.toList) = _; exact zaX 2 _ 4 38 136 (by rw [ze, hg i hi]) rfl rfl
  have h := qK (n := n) (fun i => (⟨#[2]⟩ : ByteArray) ++ g i) (fun i hi => by rw [pd i hi]; simp [hg i hi, xI]) k
  have e0 : vN (fun i => wdL (zN ((⟨#[2]⟩ : ByteArray) ++ g i).data.toList) 0) n = Nat.add (Nat.mul (vO n) (33554432)) (Nat.land (Nat.shiftRight (vN (fun i => wd (g i) 0) n) 8) (vM n)) := by
    rw [xG (fun i hi => yx _ _), yz]
    show _ = vN _ n + vN _ n
    rw [yf]
    refine zb n fun i hi => ?_
    rw [pd i hi, k9, zn (t := 0) (by rw [ze, hg i hi]; omega)]; rfl
  have e1 : vN (fun i => wdL (zN ((⟨#[2]⟩ : ByteArray) ++ g i).data.toList) 1) n = Nat.add (Nat.mul (Nat.land (vN (fun i => wd (g i) 0) n) (Nat.mul (vO n) 255)) 16777216) (Nat.land (Nat.shiftRight (vN (fun i => wd (g i) 1) n) 8) (vM n)) := by
    rw [xG (fun i hi => yx _ _), xH (fun i hi => yx _ _)]
    show _ = vN _ n * 16777216 + vN _ n
    rw [yP, yf]
    refine zb n fun i hi => ?_
    rw [pd i hi, zx, zn (t := 0) (by rw [ze, hg i hi]; omega), zn (t := 1) (by rw [ze, hg i hi]; omega)]; rfl
  have e2 : vN (fun i => wdL (zN ((⟨#[2]⟩ : ByteArray) ++ g i).data.toList) 2) n = Nat.add (Nat.mul (Nat.land (vN (fun i => wd (g i) 1) n) (Nat.mul (vO n) 255)) 16777216) (Nat.land (Nat.shiftRight (vN (fun i => wd (g i) 2) n) 8) (vM n)) := by
    rw [xG (fun i hi => yx _ _), xH (fun i hi => yx _ _)]
    show _ = vN _ n * 16777216 + vN _ n
    rw [yP, yf]
    refine zb n fun i hi => ?_
    rw [pd i hi, zx, zn (t := 1) (by rw [ze, hg i hi]; omega), zn (t := 2) (by rw [ze, hg i hi]; omega)]; rfl
  have e3 : vN (fun i => wdL (zN ((⟨#[2]⟩ : ByteArray) ++ g i).data.toList) 3) n = Nat.add (Nat.mul (Nat.land (vN (fun i => wd (g i) 2) n) (Nat.mul (vO n) 255)) 16777216) (Nat.land (Nat.shiftRight (vN (fun i => wd (g i) 3) n) 8) (vM n)) := by
    rw [xG (fun i hi => yx _ _), xH (fun i hi => yx _ _)]
    show _ = vN _ n * 16777216 + vN _ n
    rw [yP, yf]
    refine zb n fun i hi => ?_
    rw [pd i hi, zx, zn (t := 2) (by rw [ze, hg i hi]; omega), zn (t := 3) (by rw [ze, hg i hi]; omega)]; rfl
  have e4 : vN (fun i => wdL (zN ((⟨#[2]⟩ : ByteArray) ++ g i).data.toList) 4) n = Nat.add (Nat.mul (Nat.land (vN (fun i => wd (g i) 3) n) (Nat.mul (vO n) 255)) 16777216) (Nat.mul (vO n) 8388608) := by
    rw [xH (fun i hi => yx _ _), yz]
    show _ = vN _ n * 16777216 + vN _ n
    rw [yP, yf]
    refine zb n fun i hi => ?_
    rw [pd i hi, zx, zn (t := 3) (by rw [ze, hg i hi]; omega), zd (k := 4) (t := 4) (by rw [ze, hg i hi]) (by decide)]; rfl
  have e5 : vN (fun i => wdL (zN ((⟨#[2]⟩ : ByteArray) ++ g i).data.toList) 5) n = 0 := by
    rw [← zw n]; refine zb n fun i hi => ?_
    rw [pd i hi]
    rw [zx, zd (k := 4) (t := 4) (by rw [ze, hg i hi]) (by decide), zd (k := 4) (t := 5) (by rw [ze, hg i hi]) (by decide)]; decide +kernel
  have e6 : vN (fun i => wdL (zN ((⟨#[2]⟩ : ByteArray) ++ g i).data.toList) 6) n = 0 := by
    rw [← zw n]; refine zb n fun i hi => ?_
    rw [pd i hi]
    rw [zx, zd (k := 4) (t := 5) (by rw [ze, hg i hi]) (by decide), zd (k := 4) (t := 6) (by rw [ze, hg i hi]) (by decide)]; decide +kernel
  have e7 : vN (fun i => wdL (zN ((⟨#[2]⟩ : ByteArray) ++ g i).data.toList) 7) n = 0 := by
    rw [← zw n]; refine zb n fun i hi => ?_
    rw [pd i hi]
    rw [zx, zd (k := 4) (t := 6) (by rw [ze, hg i hi]) (by decide), zd (k := 4) (t := 7) (by rw [ze, hg i hi]) (by decide)]; decide +kernel
  have e8 : vN (fun i => wdL (zN ((⟨#[2]⟩ : ByteArray) ++ g i).data.toList) 8) n = 0 := by
    rw [← zw n]; refine zb n fun i hi => ?_
    rw [pd i hi]
    rw [zx, zd (k := 4) (t := 7) (by rw [ze, hg i hi]) (by decide), zd (k := 4) (t := 8) (by rw [ze, hg i hi]) (by decide)]; decide +kernel
  have e9 : vN (fun i => wdL (zN ((⟨#[2]⟩ : ByteArray) ++ g i).data.toList) 9) n = 0 := by
    rw [← zw n]; refine zb n fun i hi => ?_
    rw [pd i hi]
    rw [zx, zd (k := 4) (t := 8) (by rw [ze, hg i hi]) (by decide), zd (k := 4) (t := 9) (by rw [ze, hg i hi]) (by decide)]; decide +kernel
  have e10 : vN (fun i => wdL (zN ((⟨#[2]⟩ : ByteArray) ++ g i).data.toList) 10) n = 0 := by
    rw [← zw n]; refine zb n fun i hi => ?_
    rw [pd i hi]
    rw [zx, zd (k := 4) (t := 9) (by rw [ze, hg i hi]) (by decide), zd (k := 4) (t := 10) (by rw [ze, hg i hi]) (by decide)]; decide +kernel
  have e11 : vN (fun i => wdL (zN ((⟨#[2]⟩ : ByteArray) ++ g i).data.toList) 11) n = 0 := by
    rw [← zw n]; refine zb n fun i hi => ?_
    rw [pd i hi]
    rw [zx, zd (k := 4) (t := 10) (by rw [ze, hg i hi]) (by decide), zd (k := 4) (t := 11) (by rw [ze, hg i hi]) (by decide)]; decide +kernel
  have e12 : vN (fun i => wdL (zN ((⟨#[2]⟩ : ByteArray) ++ g i).data.toList) 12) n = 0 := by
    rw [← zw n]; refine zb n fun i hi => ?_
    rw [pd i hi]
    rw [zx, zd (k := 4) (t := 11) (by rw [ze, hg i hi]) (by decide), zd (k := 4) (t := 12) (by rw [ze, hg i hi]) (by decide)]; decide +kernel
  have e13 : vN (fun i => wdL (zN ((⟨#[2]⟩ : ByteArray) ++ g i).data.toList) 13) n = 0 := by
    rw [← zw n]; refine zb n fun i hi => ?_
    rw [pd i hi]
    rw [zx, zd (k := 4) (t := 12) (by rw [ze, hg i hi]) (by decide), zd (k := 4) (t := 13) (by rw [ze, hg i hi]) (by decide)]; decide +kernel
  have e14 : vN (fun i => wdL (zN ((⟨#[2]⟩ : ByteArray) ++ g i).data.toList) 14) n = 0 := by
    rw [← zw n]; refine zb n fun i hi => ?_
    rw [pd i hi]
    rw [zx, zd (k := 4) (t := 13) (by rw [ze, hg i hi]) (by decide), zd (k := 4) (t := 14) (by rw [ze, hg i hi]) (by decide)]; decide +kernel
  have e15 : vN (fun i => wdL (zN ((⟨#[2]⟩ : ByteArray) ++ g i).data.toList) 15) n = Nat.mul (vO n) (136) := by
    rw [yz]; refine zb n fun i hi => ?_
    rw [pd i hi]
    rw [zx, zd (k := 4) (t := 14) (by rw [ze, hg i hi]) (by decide), zd (k := 4) (t := 15) (by rw [ze, hg i hi]) (by decide)]; decide +kernel
  rw [e0, e1, e2, e3, e4, e5, e6, e7, e8, e9, e10, e11, e12, e13, e14, e15] at h
  unfold fRt
  exact h
def zk3 (M O  : Nat) (k : Nat → Nat → Nat → Nat → Bool) (x0 x1 x2 x3 x4 x5 x6 x7 : Nat) : Bool := sC0 M O (fun y0 y1 y2 y3 _ _ _ _ => k y0 y1 y2 y3) (Nat.add (Nat.mul O (16777216)) (Nat.land (Nat.shiftRight x0 8) M)) (Nat.add (Nat.mul (Nat.land x0 (Nat.mul O 255)) 16777216) (Nat.land (Nat.shiftRight x1 8) M)) (Nat.add (Nat.mul (Nat.land x1 (Nat.mul O 255)) 16777216) (Nat.land (Nat.shiftRight x2 8) M)) (Nat.add (Nat.mul (Nat.land x2 (Nat.mul O 255)) 16777216) (Nat.land (Nat.shiftRight x3 8) M)) (Nat.add (Nat.mul (Nat.land x3 (Nat.mul O 255)) 16777216) (Nat.land (Nat.shiftRight x4 8) M)) (Nat.add (Nat.mul (Nat.land x4 (Nat.mul O 255)) 16777216) (Nat.land (Nat.shiftRight x5 8) M)) (Nat.add (Nat.mul (Nat.land x5 (Nat.mul O 255)) 16777216) (Nat.land (Nat.shiftRight x6 8) M)) (Nat.add (Nat.mul (Nat.land x6 (Nat.mul O 255)) 16777216) (Nat.land (Nat.shiftRight x7 8) M)) (Nat.add (Nat.mul (Nat.land x7 (Nat.mul O 255)) 16777216) (Nat.mul O 8388608)) 0 0 0 0 0 0 (Nat.mul O (264))
theorem zjs {n : Nat} {g : Nat → ByteArray} (hg : ∀ i, i < n → (g i).size = 32) (k : Nat → Nat → Nat → Nat → Bool) :
    zk3 (vM n) (vO n)  k (vN (fun i => wd (g i) 0) n) (vN (fun i => wd (g i) 1) n) (vN (fun i => wd (g i) 2) n) (vN (fun i => wd (g i) 3) n) (vN (fun i => wd (g i) 4) n) (vN (fun i => wd (g i) 5) n) (vN (fun i => wd (g i) 6) n) (vN (fun i => wd (g i) 7) n) = k (vN (fun i => wd (zO ((⟨#[1]⟩ : ByteArray) ++ g i)) 0) n) (vN (fun i => wd (zO ((⟨#[1]⟩ : ByteArray) ++ g i)) 1) n) (vN (fun i => wd (zO ((⟨#[1]⟩ : ByteArray) ++ g i)) 2) n) (vN (fun i => wd (zO ((⟨#[1]⟩ : ByteArray) ++ g i)) 3) n) := by
  have pd : ∀ i, i < n → zN (((⟨#[1]⟩ : ByteArray) ++ g i).data.toList) = 1 :: ((g i).data.toList ++ 128 :: (List.replicate 22 0 ++ xu 8 264)) := fun i hi => by
    rw [qh]; show zN (1 :: (g i).data.toList) = _; exact zaX 1 _ 8 22 264 (by rw [ze, hg i hi]) rfl rfl
  have h := qK (n := n) (fun i => (⟨#[1]⟩ : ByteArray) ++ g i) (fun i hi => by rw [pd i hi]; simp [hg i hi, xI]) (fun y0 y1 y2 y3 _ _ _ _ => k y0 y1 y2 y3)
  have e0 : vN (fun i => wdL (zN ((⟨#[1]⟩ : ByteArray) ++ g i).data.toList) 0) n = Nat.add (Nat.mul (vO n) (16777216)) (Nat.land (Nat.shiftRight (vN (fun i => wd (g i) 0) n) 8) (vM n)) := by
    rw [xG (fun i hi => yx _ _), yz]
    show _ = vN _ n + vN _ n
    rw [yf]
    refine zb n fun i hi => ?_
    rw [pd i hi, k9, zn (t := 0) (by rw [ze, hg i hi]; omega)]; rfl
  have e1 : vN (fun i => wdL (zN ((⟨#[1]⟩ : ByteArray) ++ g i).data.toList) 1) n = Nat.add (Nat.mul (Nat.land (vN (fun i => wd (g i) 0) n) (Nat.mul (vO n) 255)) 16777216) (Nat.land (Nat.shiftRight (vN (fun i => wd (g i) 1) n) 8) (vM n)) := by
    rw [xG (fun i hi => yx _ _), xH (fun i hi => yx _ _)]
    show _ = vN _ n * 16777216 + vN _ n
    rw [yP, yf]
    refine zb n fun i hi => ?_
    rw [pd i hi, zx, zn (t := 0) (by rw [ze, hg i hi]; omega), zn (t := 1) (by rw [ze, hg i hi]; omega)]; rfl
  have e2 : vN (fun i => wdL (zN ((⟨#[1]⟩ : ByteArray) ++ g i).data.toList) 2) n = Nat.add (Nat.mul (Nat.land (vN (fun i => wd (g i) 1) n) (Nat.mul (vO n) 255)) 16777216) (Nat.land (Nat.shiftRight (vN (fun i => wd (g i) 2) n) 8) (vM n)) := by
    rw [xG (fun i hi => yx _ _), xH (fun i hi => yx _ _)]
    show _ = vN _ n * 16777216 + vN _ n
    rw [yP, yf]
    refine zb n fun i hi => ?_
    rw [pd i hi, zx, zn (t := 1) (by rw [ze, hg i hi]; omega), zn (t := 2) (by rw [ze, hg i hi]; omega)]; rfl
  have e3 : vN (fun i => wdL (zN ((⟨#[1]⟩ : ByteArray) ++ g i).data.toList) 3) n = Nat.add (Nat.mul (Nat.land (vN (fun i => wd (g i) 2) n) (Nat.mul (vO n) 255)) 16777216) (Nat.land (Nat.shiftRight (vN (fun i => wd (g i) 3) n) 8) (vM n)) := by
    rw [xG (fun i hi => yx _ _), xH (fun i hi => yx _ _)]
    show _ = vN _ n * 16777216 + vN _ n
    rw [yP, yf]
    refine zb n fun i hi => ?_
    rw [pd i hi, zx, zn (t := 2) (by rw [ze, hg i hi]; omega), zn (t := 3) (by rw [ze, hg i hi]; omega)]; rfl
  have e4 : vN (fun i => wdL (zN ((⟨#[1]⟩ : ByteArray) ++ g i).data.toList) 4) n = Nat.add (Nat.mul (Nat.land (vN (fun i => wd (g i) 3) n) (Nat.mul (vO n) 255)) 16777216) (Nat.land (Nat.shiftRight (vN (fun i => wd (g i) 4) n) 8) (vM n)) := by
    rw [xG (fun i hi => yx _ _), xH (fun i hi => yx _ _)]
    show _ = vN _ n * 16777216 + vN _ n
    rw [yP, yf]
    refine zb n fun i hi => ?_
    rw [pd i hi, zx, zn (t := 3) (by rw [ze, hg i hi]; omega), zn (t := 4) (by rw [ze, hg i hi]; omega)]; rfl
  have e5 : vN (fun i => wdL (zN ((⟨#[1]⟩ : ByteArray) ++ g i).data.toList) 5) n = Nat.add (Nat.mul (Nat.land (vN (fun i => wd (g i) 4) n) (Nat.mul (vO n) 255)) 16777216) (Nat.land (Nat.shiftRight (vN (fun i => wd (g i) 5) n) 8) (vM n)) := by
    rw [xG (fun i hi => yx _ _), xH (fun i hi => yx _ _)]
    show _ = vN _ n * 16777216 + vN _ n
    rw [yP, yf]
    refine zb n fun i hi => ?_
    rw [pd i hi, zx, zn (t := 4) (by rw [ze, hg i hi]; omega), zn (t := 5) (by rw [ze, hg i hi]; omega)]; rfl
  have e6 : vN (fun i => wdL (zN ((⟨#[1]⟩ : ByteArray) ++ g i).data.toList) 6) n = Nat.add (Nat.mul (Nat.land (vN (fun i => wd (g i) 5) n) (Nat.mul (vO n) 255)) 16777216) (Nat.land (Nat.shiftRight (vN (fun i => wd (g i) 6) n) 8) (vM n)) := by
    rw [xG (fun i hi => yx _ _), xH (fun i hi => yx _ _)]
    show _ = vN _ n * 16777216 + vN _ n
    rw [yP, yf]
    refine zb n fun i hi => ?_
    rw [pd i hi, zx, zn (t := 5) (by rw [ze, hg i hi]; omega), zn (t := 6) (by rw [ze, hg i hi]; omega)]; rfl
  have e7 : vN (fun i => wdL (zN ((⟨#[1]⟩ : ByteArray) ++ g i).data.toList) 7) n = Nat.add (Nat.mul (Nat.land (vN (fun i => wd (g i) 6) n) (Nat.mul (vO n) 255)) 16777216) (Nat.land (Nat.shiftRight (vN (fun i => wd (g i) 7) n) 8) (vM n)) := by
    rw [xG (fun i hi => yx _ _), xH (fun i hi => yx _ _)]
    show _ = vN _ n * 16777216 + vN _ n
    rw [yP, yf]
    refine zb n fun i hi => ?_
    rw [pd i hi, zx, zn (t := 6) (by rw [ze, hg i hi]; omega), zn (t := 7) (by rw [ze, hg i hi]; omega)]; rfl
  have e8 : vN (fun i => wdL (zN ((⟨#[1]⟩ : ByteArray) ++ g i).data.toList) 8) n = Nat.add (Nat.mul (Nat.land (vN (fun i => wd (g i) 7) n) (Nat.mul (vO n) 255)) 16777216) (Nat.mul (vO n) 8388608) := by
    rw [xH (fun i hi => yx _ _), yz]
    show _ = vN _ n * 16777216 + vN _ n
    rw [yP, yf]
    refine zb n fun i hi => ?_
    rw [pd i hi, zx, zn (t := 7) (by rw [ze, hg i hi]; omega), zd (k := 8) (t := 8) (by rw [ze, hg i hi]) (by decide)]; rfl
  have e9 : vN (fun i => wdL (zN ((⟨#[1]⟩ : ByteArray) ++ g i).data.toList) 9) n = 0 := by
    rw [← zw n]; refine zb n fun i hi => ?_
    rw [pd i hi]
    rw [zx, zd (k := 8) (t := 8) (by rw [ze, hg i hi]) (by decide), zd (k := 8) (t := 9) (by rw [ze, hg i hi]) (by decide)]; decide +kernel
  have e10 : vN (fun i => wdL (zN ((⟨#[1]⟩ : ByteArray) ++ g i).data.toList) 10) n = 0 := by
    rw [← zw n]; refine zb n fun i hi => ?_
    rw [pd i hi]
    rw [zx, zd (k := 8) (t := 9) (by rw [ze, hg i hi]) (by decide), zd (k := 8) (t := 10) (by rw [ze, hg i hi]) (by decide)]; decide +kernel
  have e11 : vN (fun i => wdL (zN ((⟨#[1]⟩ : ByteArray) ++ g i).data.toList) 11) n = 0 := by
    rw [← zw n]; refine zb n fun i hi => ?_
    rw [pd i hi]
    rw [zx, zd (k := 8) (t := 10) (by rw [ze, hg i hi]) (by decide), zd (k := 8) (t := 11) (by rw [ze, hg i hi]) (by decide)]; decide +kernel
  have e12 : vN (fun i => wdL (zN ((⟨#[1]⟩ : ByteArray) ++ g i).data.toList) 12) n = 0 := by
    rw [← zw n]; refine zb n fun i hi => ?_
    rw [pd i hi]
    rw [zx, zd (k := 8) (t := 11) (by rw [ze, hg i hi]) (by decide), zd (k := 8) (t := 12) (by rw [ze, hg i hi]) (by decide)]; decide +kernel
  have e13 : vN (fun i => wdL (zN ((⟨#[1]⟩ : ByteArray) ++ g i).data.toList) 13) n = 0 := by
    rw [← zw n]; refine zb n fun i hi => ?_
    rw [pd i hi]
    rw [zx, zd (k := 8) (t := 12) (by rw [ze, hg i hi]) (by decide), zd (k := 8) (t := 13) (by rw [ze, hg i hi]) (by decide)]; decide +kernel
  have e14 : vN (fun i => wdL (zN ((⟨#[1]⟩ : ByteArray) ++ g i).data.toList) 14) n = 0 := by
    rw [← zw n]; refine zb n fun i hi => ?_
    rw [pd i hi]
    rw [zx, zd (k := 8) (t := 13) (by rw [ze, hg i hi]) (by decide), zd (k := 8) (t := 14) (by rw [ze, hg i hi]) (by decide)]; decide +kernel
  have e15 : vN (fun i => wdL (zN ((⟨#[1]⟩ : ByteArray) ++ g i).data.toList) 15) n = Nat.mul (vO n) (264) := by
    rw [yz]; refine zb n fun i hi => ?_
    rw [pd i hi]
    rw [zx, zd (k := 8) (t := 14) (by rw [ze, hg i hi]) (by decide), zd (k := 8) (t := 15) (by rw [ze, hg i hi]) (by decide)]; decide +kernel
  rw [e0, e1, e2, e3, e4, e5, e6, e7, e8, e9, e10, e11, e12, e13, e14, e15] at h
  unfold zk3
  rw [h]
  rw [(zb n fun i _ => (yn ((⟨#[1]⟩ : ByteArray) ++ g i) 0 (by decide)).symm : vN (fun i => wd (sha ((⟨#[1]⟩ : ByteArray) ++ g i)) 0) n = vN (fun i => wd (zO ((⟨#[1]⟩ : ByteArray) ++ g i)) 0) n), (zb n fun i _ => (yn ((⟨#[1]⟩ : ByteArray) ++ g i) 1 (by decide)).symm : vN (fun i => wd (sha ((⟨#[1]⟩ : ByteArray) ++ g i)) 1) n = vN (fun i => wd (zO ((⟨#[1]⟩ : ByteArray) ++ g i)) 1) n), (zb n fun i _ => (yn ((⟨#[1]⟩ : ByteArray) ++ g i) 2 (by decide)).symm : vN (fun i => wd (sha ((⟨#[1]⟩ : ByteArray) ++ g i)) 2) n = vN (fun i => wd (zO ((⟨#[1]⟩ : ByteArray) ++ g i)) 2) n), (zb n fun i _ => (yn ((⟨#[1]⟩ : ByteArray) ++ g i) 3 (by decide)).symm : vN (fun i => wd (sha ((⟨#[1]⟩ : ByteArray) ++ g i)) 3) n = vN (fun i => wd (zO ((⟨#[1]⟩ : ByteArray) ++ g i)) 3) n)]
  all_goals rfl
def fSd (M O  : Nat) (k : Nat → Nat → Nat → Nat → Nat → Nat → Nat → Nat → Bool) (x0 x1 x2 x3 x4 x5 x6 x7 x8 : Nat) : Bool := sC0 M O k x0 x1 x2 x3 x4 x5 x6 x7 (x8) 0 0 0 0 0 0 (Nat.mul O (264))
theorem zka {n : Nat} {g : Nat → ByteArray} {U : Nat → Nat} (hU : ∀ i, i < n → U i < 256) (hg : ∀ i, i < n → (g i).size = 32) (k : Nat → Nat → Nat → Nat → Nat → Nat → Nat → Nat → Bool) :
    fSd (vM n) (vO n)  k (vN (fun i => wd (g i) 0) n) (vN (fun i => wd (g i) 1) n) (vN (fun i => wd (g i) 2) n) (vN (fun i => wd (g i) 3) n) (vN (fun i => wd (g i) 4) n) (vN (fun i => wd (g i) 5) n) (vN (fun i => wd (g i) 6) n) (vN (fun i => wd (g i) 7) n) (vN (fun i => U i * 16777216 + 8388608) n) = k (vN (fun i => wd (xU (g i) (U i : Int)) 0) n) (vN (fun i => wd (xU (g i) (U i : Int)) 1) n) (vN (fun i => wd (xU (g i) (U i : Int)) 2) n) (vN (fun i => wd (xU (g i) (U i : Int)) 3) n) (vN (fun i => wd (xU (g i) (U i : Int)) 4) n) (vN (fun i => wd (xU (g i) (U i : Int)) 5) n) (vN (fun i => wd (xU (g i) (U i : Int)) 6) n) (vN (fun i => wd (xU (g i) (U i : Int)) 7) n) := by
  have pd : ∀ i, i < n → zN ((g i ++ byS (U i : Int)).data.toList) = (g i).data.toList ++ ([UInt8.ofNat (U i), 128, 0, 0] ++ (List.replicate 20 0 ++ xu 8 264)) := fun i hi => by
    rw [qh, zkU _ (hU i hi)]; exact zhu _ _ 8 20 264 (by rw [ze, hg i hi]) rfl rfl
  have h := qK (n := n) (fun i => g i ++ byS (U i : Int)) (fun i hi => by rw [pd i hi]; simp [hg i hi, xI]) k
  have e0 : vN (fun i => wdL (zN (g i ++ byS (U i : Int)).data.toList) 0) n = (vN (fun i => wd (g i) 0) n) := by
    refine zb n fun i hi => ?_
    rw [pd i hi, zn (by rw [ze, hg i hi]; omega)]; rfl
  have e1 : vN (fun i => wdL (zN (g i ++ byS (U i : Int)).data.toList) 1) n = (vN (fun i => wd (g i) 1) n) := by
    refine zb n fun i hi => ?_
    rw [pd i hi, zn (by rw [ze, hg i hi]; omega)]; rfl
  have e2 : vN (fun i => wdL (zN (g i ++ byS (U i : Int)).data.toList) 2) n = (vN (fun i => wd (g i) 2) n) := by
    refine zb n fun i hi => ?_
    rw [pd i hi, zn (by rw [ze, hg i hi]; omega)]; rfl
  have e3 : vN (fun i => wdL (zN (g i ++ byS (U i : Int)).data.toList) 3) n = (vN (fun i => wd (g i) 3) n) := by
    refine zb n fun i hi => ?_
    rw [pd i hi, zn (by rw [ze, hg i hi]; omega)]; rfl
  have e4 : vN (fun i => wdL (zN (g i ++ byS (U i : Int)).data.toList) 4) n = (vN (fun i => wd (g i) 4) n) := by
    refine zb n fun i hi => ?_
    rw [pd i hi, zn (by rw [ze, hg i hi]; omega)]; rfl
  have e5 : vN (fun i => wdL (zN (g i ++ byS (U i : Int)).data.toList) 5) n = (vN (fun i => wd (g i) 5) n) := by
    refine zb n fun i hi => ?_
    rw [pd i hi, zn (by rw [ze, hg i hi]; omega)]; rfl
  have e6 : vN (fun i => wdL (zN (g i ++ byS (U i : Int)).data.toList) 6) n = (vN (fun i => wd (g i) 6) n) := by
    refine zb n fun i hi => ?_
    rw [pd i hi, zn (by rw [ze, hg i hi]; omega)]; rfl
  have e7 : vN (fun i => wdL (zN (g i ++ byS (U i : Int)).data.toList) 7) n = (vN (fun i => wd (g i) 7) n) := by
    refine zb n fun i hi => ?_
    rw [pd i hi, zn (by rw [ze, hg i hi]; omega)]; rfl
  have e8 : vN (fun i => wdL (zN (g i ++ byS (U i : Int)).data.toList) 8) n = (vN (fun i => U i * 16777216 + 8388608) n) := by
    refine zb n fun i hi => ?_
    rw [pd i hi, zd (k := 8) (by rw [ze, hg i hi]) (by decide)]; exact (zi3 (U i) (hU i hi) _)
  have e9 : vN (fun i => wdL (zN (g i ++ byS (U i : Int)).data.toList) 9) n = 0 := by
    rw [← zw n]; refine zb n fun i hi => ?_
    rw [pd i hi]
    rw [zd (k := 8) (by rw [ze, hg i hi]) (by decide)]; exact (zf _ _ _ _ _ 0).trans (by decide +kernel)
  have e10 : vN (fun i => wdL (zN (g i ++ byS (U i : Int)).data.toList) 10) n = 0 := by
    rw [← zw n]; refine zb n fun i hi => ?_
    rw [pd i hi]
    rw [zd (k := 8) (by rw [ze, hg i hi]) (by decide)]; exact (zf _ _ _ _ _ 1).trans (by decide +kernel)
  have e11 : vN (fun i => wdL (zN (g i ++ byS (U i : Int)).data.toList) 11) n = 0 := by
    rw [← zw n]; refine zb n fun i hi => ?_
    rw [pd i hi]
    rw [zd (k := 8) (by rw [ze, hg i hi]) (by decide)]; exact (zf _ _ _ _ _ 2).trans (by decide +kernel)
  have e12 : vN (fun i => wdL (zN (g i ++ byS (U i : Int)).data.toList) 12) n = 0 := by
    rw [← zw n]; refine zb n fun i hi => ?_
    rw [pd i hi]
    rw [zd (k := 8) (by rw [ze, hg i hi]) (by decide)]; exact (zf _ _ _ _ _ 3).trans (by decide +kernel)
  have e13 : vN (fun i => wdL (zN (g i ++ byS (U i : Int)).data.toList) 13) n = 0 := by
    rw [← zw n]; refine zb n fun i hi => ?_
    rw [pd i hi]
    rw [zd (k := 8) (by rw [ze, hg i hi]) (by decide)]; exact (zf _ _ _ _ _ 4).trans (by decide +kernel)
  have e14 : vN (fun i => wdL (zN (g i ++ byS (U i : Int)).data.toList) 14) n = 0 := by
    rw [← zw n]; refine zb n fun i hi => ?_
    rw [pd i hi]
    rw [zd (k := 8) (by rw [ze, hg i hi]) (by decide)]; exact (zf _ _ _ _ _ 5).trans (by decide +kernel)
  have e15 : vN (fun i => wdL (zN (g i ++ byS (U i : Int)).data.toList) 15) n = Nat.mul (vO n) (264) := by
    rw [yz]; refine zb n fun i hi => ?_
    rw [pd i hi]
    rw [zd (k := 8) (by rw [ze, hg i hi]) (by decide)]; exact (zf _ _ _ _ _ 6).trans (by decide +kernel)
  rw [e0, e1, e2, e3, e4, e5, e6, e7, e8, e9, e10, e11, e12, e13, e14, e15] at h
  unfold fSd
  exact h
def zas (M O c : Nat) (k : Nat → Nat → Nat → Nat → Bool) (t0 t1 t2 t3 t4 t5 t6 t7 : Nat) : Bool :=
  zk6 M O c (fun x0 x1 x2 x3 => zf0 M O c 0 (fun y0 y1 y2 y3 => zf0 M O c 1 (fun z0 z1 z2 z3 => zf0 M O c 2 k z0 z1 z2 z3) y0 y1 y2 y3) x0 x1 x2 x3) t0 t1 t2 t3 t4 t5 t6 t7
def wl3 (v : ByteArray) (c : Nat) : ByteArray := zfD v (fun _ => 3) c
theorem zjR (v : ByteArray) (c : Nat) : wl3 v c = qa (qa (qa (zbJ v (c : Int)) (c : Int) ((0 : Nat) : Int)) (c : Int) ((1 : Nat) : Int)) (c : Int) ((2 : Nat) : Int) := by
  unfold wl3 zfD
  rw [ym, ym, ym, ym]
theorem zei (v : ByteArray) (c : Nat) : (wl3 v c).size = 16 := vh _ _ _
theorem qc {n : Nat} (c : Nat) (hc : c < 256) {g : Nat → ByteArray} (hg : ∀ i, i < n → (g i).size = 32) (k : Nat → Nat → Nat → Nat → Bool) :
    zas (vM n) (vO n) c k (vN (fun i => wd (g i) 0) n) (vN (fun i => wd (g i) 1) n) (vN (fun i => wd (g i) 2) n) (vN (fun i => wd (g i) 3) n) (vN (fun i => wd (g i) 4) n) (vN (fun i => wd (g i) 5) n) (vN (fun i => wd (g i) 6) n) (vN (fun i => wd (g i) 7) n) = k (vN (fun i => wd (wl3 (g i) c) 0) n) (vN (fun i => wd (wl3 (g i) c) 1) n) (vN (fun i => wd (wl3 (g i) c) 2) n) (vN (fun i => wd (wl3 (g i) c) 3) n) := by
  unfold zas
  rw [zi5 c hc hg, zaH c 0 hc (by decide) (fun _ _ => qg _ _), zaH c 1 hc (by decide) (fun _ _ => vB _ _ _), zaH c 2 hc (by decide) (fun _ _ => vB _ _ _)]
  simp only [zjR]
def zjw (M O t0 t1 t2 t3 t4 t5 t6 t7 : Nat) : List Nat → (Nat → Nat → Nat → Nat → Nat → Nat → Nat → Nat → Bool) → (a b c d e f g h : Nat) → Bool
  | [], k, a, b, c, d, e, f, g, h => k a b c d e f g h
  | z :: cs, k, a, b, c, d, e, f, g, h => zas M O z (fun p0 p1 p2 p3 => zas M O (z + 1) (fun q0 q1 q2 q3 => zas M O (z + 2) (fun r0 r1 r2 r3 => zas M O (z + 3) (fun s0 s1 s2 s3 =>
      sC M O (fun a b c d e f g h => zjw M O t0 t1 t2 t3 t4 t5 t6 t7 cs k a b c d e f g h) a b c d e f g h p0 p1 p2 p3 q0 q1 q2 q3 r0 r1 r2 r3 s0 s1 s2 s3) t0 t1 t2 t3 t4 t5 t6 t7) t0 t1 t2 t3 t4 t5 t6 t7) t0 t1 t2 t3 t4 t5 t6 t7) t0 t1 t2 t3 t4 t5 t6 t7
def kB (v : ByteArray) (c : Nat) : List UInt8 := (wl3 v c).data.toList ++ ((wl3 v (c + 1)).data.toList ++ ((wl3 v (c + 2)).data.toList ++ (wl3 v (c + 3)).data.toList))
def stB (v : ByteArray) (cs : List Nat) (h : N8) : N8 := cs.foldl (fun h c => xr h (wdL (kB v c))) h
theorem zdY (v : ByteArray) (c : Nat) (cs : List Nat) (h : N8) : stB v (c :: cs) h = stB v cs (xr h (wdL (kB v c))) := by unfold stB; rw [List.foldl_cons]
theorem zcX (v : ByteArray) (h : N8) : stB v [] h = h := by unfold stB; rw [List.foldl_nil]
theorem zh6 (v : ByteArray) : ∀ (cs : List Nat) (h : N8), h.In → (stB v cs h).In
  | [], h, hh => by rw [zcX]; exact hh
  | c :: cs, h, _ => by rw [zdY]; exact zh6 v cs _ (zbm _ _)
theorem zit (v : ByteArray) (c q r : Nat) (hq : q < 4) (hr : r < 4) : wdL (kB v c) (4 * q + r) = wd (wl3 v (c + q)) r := by
  have l : ∀ x, (wl3 v x).data.toList.length = 4 * 4 := fun x => by rw [ze, zei]
  have : q = 0 ∨ q = 1 ∨ q = 2 ∨ q = 3 := by omega
  unfold kB wd
  rcases this with rfl | rfl | rfl | rfl
  · rw [Nat.mul_zero, Nat.zero_add, zn (by rw [l]; omega)]; rfl
  · rw [zd (l _) (by omega), show 4 * 1 + r - 4 = r by omega, zn (by rw [l]; omega)]
  · rw [zd (l _) (by omega), zd (l _) (by omega), show 4 * 2 + r - 4 - 4 = r by omega, zn (by rw [l]; omega)]
  · rw [zd (l _) (by omega), zd (l _) (by omega), zd (l _) (by omega), show 4 * 3 + r - 4 - 4 - 4 = r by omega]
theorem zgz {n : Nat} {g : Nat → ByteArray} (hg : ∀ i, i < n → (g i).size = 32) (k : Nat → Nat → Nat → Nat → Nat → Nat → Nat → Nat → Bool) : ∀ (cs : List Nat) (h : Nat → N8), (∀ c ∈ cs, c + 3 < 256) → (∀ i, i < n → (h i).In) →
    zjw (vM n) (vO n) (vN (fun i => wd (g i) 0) n) (vN (fun i => wd (g i) 1) n) (vN (fun i => wd (g i) 2) n) (vN (fun i => wd (g i) 3) n) (vN (fun i => wd (g i) 4) n) (vN (fun i => wd (g i) 5) n) (vN (fun i => wd (g i) 6) n) (vN (fun i => wd (g i) 7) n) cs k (vN (fun i => (h i).a) n) (vN (fun i => (h i).b) n) (vN (fun i => (h i).c) n) (vN (fun i => (h i).d) n) (vN (fun i => (h i).e) n) (vN (fun i => (h i).f) n) (vN (fun i => (h i).g) n) (vN (fun i => (h i).h) n) = k (vN (fun i => (stB (g i) cs (h i)).a) n) (vN (fun i => (stB (g i) cs (h i)).b) n) (vN (fun i => (stB (g i) cs (h i)).c) n) (vN (fun i => (stB (g i) cs (h i)).d) n) (vN (fun i => (stB (g i) cs (h i)).e) n) (vN (fun i => (stB (g i) cs (h i)).f) n) (vN (fun i => (stB (g i) cs (h i)).g) n) (vN (fun i => (stB (g i) cs (h i)).h) n)
  | [], h, _, _ => by simp only [zjw, zcX]
  | c :: cs, h, hc, hh => by
    have hc0 := hc c (List.mem_cons_self ..)
    rw [zjw, qc c (by omega) hg, qc (c + 1) (by omega) hg, qc (c + 2) (by omega) hg, qc (c + 3) hc0 hg]
    have e : ∀ q r, q < 4 → r < 4 → vN (fun i => wdL (kB (g i) c) (4 * q + r)) n = vN (fun i => wd (wl3 (g i) (c + q)) r) n := fun q r hq hr => zb n fun i _ => zit _ _ _ _ hq hr
    have h1 := zfN (W := fun i => wdL (kB (g i) c)) hh (fun _ _ _ _ => jy _ _) (fun u0 u1 u2 u3 u4 u5 u6 u7 => zjw (vM n) (vO n) (vN (fun i => wd (g i) 0) n) (vN (fun i => wd (g i) 1) n) (vN (fun i => wd (g i) 2) n) (vN (fun i => wd (g i) 3) n) (vN (fun i => wd (g i) 4) n) (vN (fun i => wd (g i) 5) n) (vN (fun i => wd (g i) 6) n) (vN (fun i => wd (g i) 7) n) cs k u0 u1 u2 u3 u4 u5 u6 u7)
    have e0 : vN (fun i => wdL (kB (g i) c) 0) n = vN (fun i => wd (wl3 (g i) c) 0) n := e 0 0 (by decide) (by decide)
    have e1 : vN (fun i => wdL (kB (g i) c) 1) n = vN (fun i => wd (wl3 (g i) c) 1) n := e 0 1 (by decide) (by decide)
    have e2 : vN (fun i => wdL (kB (g i) c) 2) n = vN (fun i => wd (wl3 (g i) c) 2) n := e 0 2 (by decide) (by decide)
    have e3 : vN (fun i => wdL (kB (g i) c) 3) n = vN (fun i => wd (wl3 (g i) c) 3) n := e 0 3 (by decide) (by decide)
    have e4 : vN (fun i => wdL (kB (g i) c) 4) n = vN (fun i => wd (wl3 (g i) (c + 1)) 0) n := e 1 0 (by decide) (by decide)
    have e5 : vN (fun i => wdL (kB (g i) c) 5) n = vN (fun i => wd (wl3 (g i) (c + 1)) 1) n := e 1 1 (by decide) (by decide)
    have e6 : vN (fun i => wdL (kB (g i) c) 6) n = vN (fun i => wd (wl3 (g i) (c + 1)) 2) n := e 1 2 (by decide) (by decide)
    have e7 : vN (fun i => wdL (kB (g i) c) 7) n = vN (fun i => wd (wl3 (g i) (c + 1)) 3) n := e 1 3 (by decide) (by decide)
    have e8 : vN (fun i => wdL (kB (g i) c) 8) n = vN (fun i => wd (wl3 (g i) (c + 2)) 0) n := e 2 0 (by decide) (by decide)
    have e9 : vN (fun i => wdL (kB (g i) c) 9) n = vN (fun i => wd (wl3 (g i) (c + 2)) 1) n := e 2 1 (by decide) (by decide)
    have e10 : vN (fun i => wdL (kB (g i) c) 10) n = vN (fun i => wd (wl3 (g i) (c + 2)) 2) n := e 2 2 (by decide) (by decide)
    have e11 : vN (fun i => wdL (kB (g i) c) 11) n = vN (fun i => wd (wl3 (g i) (c + 2)) 3) n := e 2 3 (by decide) (by decide)
    have e12 : vN (fun i => wdL (kB (g i) c) 12) n = vN (fun i => wd (wl3 (g i) (c + 3)) 0) n := e 3 0 (by decide) (by decide)
    have e13 : vN (fun i => wdL (kB (g i) c) 13) n = vN (fun i => wd (wl3 (g i) (c + 3)) 1) n := e 3 1 (by decide) (by decide)
    have e14 : vN (fun i => wdL (kB (g i) c) 14) n = vN (fun i => wd (wl3 (g i) (c + 3)) 2) n := e 3 2 (by decide) (by decide)
    have e15 : vN (fun i => wdL (kB (g i) c) 15) n = vN (fun i => wd (wl3 (g i) (c + 3)) 3) n := e 3 3 (by decide) (by decide)
    rw [e0, e1, e2, e3, e4, e5, e6, e7, e8, e9, e10, e11, e12, e13, e14, e15] at h1
    rw [h1]
    have h2 := zgz hg k cs (fun i => xr (h i) (wdL (kB (g i) c))) (fun x hx => hc x (List.mem_cons_of_mem _ hx)) (fun _ _ => zbm _ _)
    rw [h2]
    simp only [zdY]
theorem zlq (v : ByteArray) (m : Nat) : (kg (wl3 v) (4 * (m + 1))).data.toList = (kg (wl3 v) (4 * m)).data.toList ++ kB v (4 * m) := by
  rw [show 4 * (m + 1) = 4 * m + 1 + 1 + 1 + 1 by omega, kg, kg, kg, kg]
  simp only [qh]
  unfold kB
  simp only [List.append_assoc]
theorem zgh (v : ByteArray) (m : Nat) : (kg (wl3 v) m).data.toList.length = 16 * m := by
  rw [ze, ql (zei v)]
theorem zh4 (v : ByteArray) : ∀ m, stB v ((List.range m).map (4 * ·)) hN = nGo m hN (kg (wl3 v) (4 * m)).data.toList
  | 0 => by rw [wM]; exact zcX v hN
  | m + 1 => by
    rw [zlq, qU 1 _ m _ _ (by rw [zgh]; omega), xW, wM, ← zh4 v m, List.range_succ, List.map_append]
    unfold stB
    rw [List.foldl_append, List.map_cons, List.map_nil, List.foldl_cons, List.foldl_nil]
def zk7 (M O : Nat) (k : Nat → Nat → Nat → Nat → Bool) (t0 t1 t2 t3 t4 t5 t6 t7 : Nat) : Bool :=
  zjw M O t0 t1 t2 t3 t4 t5 t6 t7 [0, 4, 8, 12, 16, 20, 24, 28, 32] (fun a b c d e f g h => sC M O (fun x0 x1 x2 x3 _ _ _ _ => k x0 x1 x2 x3) a b c d e f g h (Nat.mul O 2147483648) 0 0 0 0 0 0 0 0 0 0 0 0 0 0 (Nat.mul O 4608)) (Nat.mul O hN.a) (Nat.mul O hN.b) (Nat.mul O hN.c) (Nat.mul O hN.d) (Nat.mul O hN.e) (Nat.mul O hN.f) (Nat.mul O hN.g) (Nat.mul O hN.h)
def kG : List UInt8 := 128 :: (List.replicate 55 0 ++ xu 8 4608)
theorem zin : (wdL kG 0 = 2147483648 ∧ wdL kG 15 = 4608) ∧ ∀ t, t < 14 → wdL kG (t + 1) = 0 := by decide +kernel
theorem zep (v : ByteArray) (j : Nat) (hj : j < 4) : wd (vJ v) j = (xr (stB v [0, 4, 8, 12, 16, 20, 24, 28, 32] hN) (wdL kG)).l.getD j 0 := by
  have hl : (kg (wl3 v) 36).data.toList.length = 576 := zgh v 36
  have hp : zN (kg (wl3 v) 36).data.toList = (kg (wl3 v) 36).data.toList ++ kG := by
    have := zda (kg (wl3 v) 36).data.toList [] 144 55 4608 hl rfl rfl
    rw [List.append_nil, List.nil_append] at this
    exact this
  have hs : vJ v = zO (kg (wl3 v) 36) := rfl
  rw [hs, yn _ j hj, zf9 _ 10 (by rw [hp, List.length_append, hl]; rfl) j (by omega), hp, qU 1 kG 9 hN _ hl, xW, wM]
  have := zh4 v 9
  rw [show (List.range 9).map (4 * ·) = [0, 4, 8, 12, 16, 20, 24, 28, 32] by decide] at this
  rw [this]
theorem zjq {n : Nat} {g : Nat → ByteArray} (hg : ∀ i, i < n → (g i).size = 32) (k : Nat → Nat → Nat → Nat → Bool) :
    zk7 (vM n) (vO n) k (vN (fun i => wd (g i) 0) n) (vN (fun i => wd (g i) 1) n) (vN (fun i => wd (g i) 2) n) (vN (fun i => wd (g i) 3) n) (vN (fun i => wd (g i) 4) n) (vN (fun i => wd (g i) 5) n) (vN (fun i => wd (g i) 6) n) (vN (fun i => wd (g i) 7) n) = k (vN (fun i => wd (vJ (g i)) 0) n) (vN (fun i => wd (vJ (g i)) 1) n) (vN (fun i => wd (vJ (g i)) 2) n) (vN (fun i => wd (vJ (g i)) 3) n) := by
  unfold zk7
  have h0 := zgz hg (fun u0 u1 u2 u3 u4 u5 u6 u7 => sC (vM n) (vO n) (fun x0 x1 x2 x3 _ _ _ _ => k x0 x1 x2 x3) u0 u1 u2 u3 u4 u5 u6 u7 (Nat.mul (vO n) 2147483648) 0 0 0 0 0 0 0 0 0 0 0 0 0 0 (Nat.mul (vO n) 4608)) [0, 4, 8, 12, 16, 20, 24, 28, 32] (fun _ => hN) (by decide) (fun _ _ => zgy)
  simp only [← yz] at h0
  rw [h0]
  have h1 := zfN (n := n) (W := fun _ => wdL kG) (h := fun i => stB (g i) [0, 4, 8, 12, 16, 20, 24, 28, 32] hN) (fun _ _ => zh6 _ _ _ zgy) (fun _ _ _ _ => jy _ _) (fun x0 x1 x2 x3 _ _ _ _ => k x0 x1 x2 x3)
  obtain ⟨⟨w0, w15⟩, wz⟩ := zin
  have w1 : wdL kG 1 = 0 := wz 0 (by decide)
  have w2 : wdL kG 2 = 0 := wz 1 (by decide)
  have w3 : wdL kG 3 = 0 := wz 2 (by decide)
  have w4 : wdL kG 4 = 0 := wz 3 (by decide)
  have w5 : wdL kG 5 = 0 := wz 4 (by decide)
  have w6 : wdL kG 6 = 0 := wz 5 (by decide)
  have w7 : wdL kG 7 = 0 := wz 6 (by decide)
  have w8 : wdL kG 8 = 0 := wz 7 (by decide)
  have w9 : wdL kG 9 = 0 := wz 8 (by decide)
  have w10 : wdL kG 10 = 0 := wz 9 (by decide)
  have w11 : wdL kG 11 = 0 := wz 10 (by decide)
  have w12 : wdL kG 12 = 0 := wz 11 (by decide)
  have w13 : wdL kG 13 = 0 := wz 12 (by decide)
  have w14 : wdL kG 14 = 0 := wz 13 (by decide)
  rw [w0, w1, w2, w3, w4, w5, w6, w7, w8, w9, w10, w11, w12, w13, w14, w15, zw] at h1
  rw [← yz, ← yz] at h1
  rw [h1]
  have p0 : vN (fun i => wd (vJ (g i)) 0) n = vN (fun i => (xr (stB (g i) [0, 4, 8, 12, 16, 20, 24, 28, 32] hN) (wdL kG)).a) n := zb n fun i hi => (zep (g i) 0 (by decide)).trans (zkJ _)
  have p1 : vN (fun i => wd (vJ (g i)) 1) n = vN (fun i => (xr (stB (g i) [0, 4, 8, 12, 16, 20, 24, 28, 32] hN) (wdL kG)).b) n := zb n fun i hi => (zep (g i) 1 (by decide)).trans (zkT _)
  have p2 : vN (fun i => wd (vJ (g i)) 2) n = vN (fun i => (xr (stB (g i) [0, 4, 8, 12, 16, 20, 24, 28, 32] hN) (wdL kG)).c) n := zb n fun i hi => (zep (g i) 2 (by decide)).trans (zld _)
  have p3 : vN (fun i => wd (vJ (g i)) 3) n = vN (fun i => (xr (stB (g i) [0, 4, 8, 12, 16, 20, 24, 28, 32] hN) (wdL kG)).d) n := zb n fun i hi => (zep (g i) 3 (by decide)).trans (zkL _)
  rw [p0, p1, p2, p3]
theorem vt (f : Nat → Nat) (a : Nat) : ∀ b, vN f (a + b) = vN f a + 2 ^ (64 * a) * vN (fun i => f (a + i)) b
  | 0 => by simp [vN]
  | b + 1 => by
    rw [← Nat.add_assoc, vN, vt f a b, vN, Nat.mul_add (2 ^ (64 * a)), show 64 * (a + b) = 64 * a + 64 * b by omega, Nat.pow_add, Nat.mul_assoc]
    omega
theorem zfO {f : Nat → Nat} {a b : Nat} (h : ∀ i, i < a → f i < 2 ^ 64) : vN f (a + b) % 2 ^ (64 * a) = vN f a := by
  rw [vt, Nat.add_mul_mod_self_left, Nat.mod_eq_of_lt (zgY a h)]
theorem zf8 {f : Nat → Nat} {a b : Nat} (h : ∀ i, i < a → f i < 2 ^ 64) : vN f (a + b) >>> (64 * a) = vN (fun i => f (a + i)) b := by
  rw [vt, Nat.shiftRight_eq_div_pow, Nat.add_mul_div_left _ _ (Nat.two_pow_pos _), Nat.div_eq_of_lt (zgY a h), Nat.zero_add]
def cQ (B : Nat) : List Nat → Nat
  | [] => 0
  | h :: hs => h + B * cQ B hs
theorem ziz (f : Nat → Nat) (K : Nat) (hK : 0 < K) : ∀ hs : List Nat, vN (fun l => hs.getD (l / K) 0 * f (l % K)) (K * hs.length) = vN f K * cQ (2 ^ (64 * K)) hs
  | [] => by simp [vN, cQ]
  | h :: hs => by
    rw [List.length_cons, Nat.mul_add, Nat.mul_one, Nat.add_comm, vt, cQ, Nat.mul_add, ← Nat.mul_assoc, Nat.mul_comm (vN f K) (2 ^ (64 * K)), Nat.mul_assoc, ← ziz f K hK hs, yP]
    congr 1
    · exact zb K fun i hi => by rw [Nat.div_eq_of_lt hi, Nat.mod_eq_of_lt hi, List.getD_cons_zero, Nat.mul_comm]
    · congr 1
      exact zb _ fun i hi => by
        rw [Nat.add_comm K i, Nat.add_div_right _ hK, Nat.add_mod_right, List.getD_cons_succ]
def mO (n : Nat) : Nat := (2 ^ (64 * n) - 1) / 18446744073709551615
def mM (n : Nat) : Nat := mO n * 4294967295
theorem zhT : ∀ n, vO n * 18446744073709551615 = 2 ^ (64 * n) - 1
  | 0 => rfl
  | n + 1 => by
    have ih := zhT n
    have e : 2 ^ (64 * (n + 1)) = 2 ^ (64 * n) * 18446744073709551616 := (congrArg (2 ^ ·) (show 64 * (n + 1) = 64 * n + 64 by omega)).trans (Nat.pow_add 2 (64 * n) 64)
    have hp := Nat.two_pow_pos (64 * n)
    rw [e]
    unfold vO at ih ⊢
    have e2 : vN (fun _ => 1) (n + 1) = 2 ^ (64 * n) * 1 + vN (fun _ => 1) n := by rw [vN]
    refine (congrArg (· * 18446744073709551615) e2).trans ?_
    show (2 ^ (64 * n) * 1 + vN (fun _ => 1) n) * 18446744073709551615 = _
    clear e e2
    generalize 2 ^ (64 * n) = X at *
    generalize vN (fun _ => 1) n = Y at *
    have q : ∀ C : Nat, Y * C = X - 1 → (X * 1 + Y) * C = X * (C + 1) - 1 := fun C hC => by
      rw [Nat.add_mul, hC, Nat.mul_one, Nat.mul_succ]; omega
    exact q 18446744073709551615 ih
theorem zi1 (n : Nat) : mO n = vO n := by
  unfold mO
  rw [← zhT, Nat.mul_div_cancel _ (by decide)]
theorem zjP (n : Nat) : mM n = vM n := by
  unfold mM
  rw [zi1]
  exact yz 4294967295 n
def fUp (N : Nat) (k : Nat → Nat → Nat → Nat → Bool) (x0 x1 x2 x3 : Nat) : Bool :=
  zk3 (mM N) (mO N) k (Nat.mod x0 (2 ^ (64 * N))) (Nat.mod x1 (2 ^ (64 * N))) (Nat.mod x2 (2 ^ (64 * N))) (Nat.mod x3 (2 ^ (64 * N))) (Nat.shiftRight x0 (64 * N)) (Nat.shiftRight x1 (64 * N)) (Nat.shiftRight x2 (64 * N)) (Nat.shiftRight x3 (64 * N))
theorem kx (a b : ByteArray) (ha : a.size = 16) (j : Nat) (hj : j < 4) : wd (a ++ b) j = wd a j ∧ wd (a ++ b) (j + 4) = wd b j := by
  unfold wd
  rw [qh]
  exact ⟨zn (by rw [ze, ha]; omega), by rw [zd (k := 4) (by rw [ze, ha]) (by omega), Nat.add_sub_cancel]⟩
theorem zfU {n : Nat} {g : Nat → ByteArray} (hg : ∀ i, i < n + n → (g i).size = 16) (k : Nat → Nat → Nat → Nat → Bool) :
    fUp n k (vN (fun i => wd (g i) 0) (n + n)) (vN (fun i => wd (g i) 1) (n + n)) (vN (fun i => wd (g i) 2) (n + n)) (vN (fun i => wd (g i) 3) (n + n)) = k (vN (fun i => wd (qE (g i) (g (n + i))) 0) n) (vN (fun i => wd (qE (g i) (g (n + i))) 1) n) (vN (fun i => wd (qE (g i) (g (n + i))) 2) n) (vN (fun i => wd (qE (g i) (g (n + i))) 3) n) := by
  unfold fUp
  rw [zjP, zi1]
  have h := zjs (n := n) (g := fun i => g i ++ g (n + i)) (fun i hi => by rw [ByteArray.size_append, hg i (by omega), hg (n + i) (by omega)]) k
  have a0 : vN (fun i => wd (g i ++ g (n + i)) 0) n = Nat.mod (vN (fun i => wd (g i) 0) (n + n)) (2 ^ (64 * n)) := (zb n fun i hi => (kx (g i) (g (n + i)) (hg i (by omega)) 0 (by decide)).1).trans (zfO fun i hi => Nat.lt_of_lt_of_le (yx _ _) (by decide)).symm
  have a1 : vN (fun i => wd (g i ++ g (n + i)) 1) n = Nat.mod (vN (fun i => wd (g i) 1) (n + n)) (2 ^ (64 * n)) := (zb n fun i hi => (kx (g i) (g (n + i)) (hg i (by omega)) 1 (by decide)).1).trans (zfO fun i hi => Nat.lt_of_lt_of_le (yx _ _) (by decide)).symm
  have a2 : vN (fun i => wd (g i ++ g (n + i)) 2) n = Nat.mod (vN (fun i => wd (g i) 2) (n + n)) (2 ^ (64 * n)) := (zb n fun i hi => (kx (g i) (g (n + i)) (hg i (by omega)) 2 (by decide)).1).trans (zfO fun i hi => Nat.lt_of_lt_of_le (yx _ _) (by decide)).symm
  have a3 : vN (fun i => wd (g i ++ g (n + i)) 3) n = Nat.mod (vN (fun i => wd (g i) 3) (n + n)) (2 ^ (64 * n)) := (zb n fun i hi => (kx (g i) (g (n + i)) (hg i (by omega)) 3 (by decide)).1).trans (zfO fun i hi => Nat.lt_of_lt_of_le (yx _ _) (by decide)).symm
  have b0 : vN (fun i => wd (g i ++ g (n + i)) 4) n = Nat.shiftRight (vN (fun i => wd (g i) 0) (n + n)) (64 * n) := (zb n fun i hi => (kx (g i) (g (n + i)) (hg i (by omega)) 0 (by decide)).2).trans (zf8 (f := fun i => wd (g i) 0) fun i hi => Nat.lt_of_lt_of_le (yx _ _) (by decide)).symm
  have b1 : vN (fun i => wd (g i ++ g (n + i)) 5) n = Nat.shiftRight (vN (fun i => wd (g i) 1) (n + n)) (64 * n) := (zb n fun i hi => (kx (g i) (g (n + i)) (hg i (by omega)) 1 (by decide)).2).trans (zf8 (f := fun i => wd (g i) 1) fun i hi => Nat.lt_of_lt_of_le (yx _ _) (by decide)).symm
  have b2 : vN (fun i => wd (g i ++ g (n + i)) 6) n = Nat.shiftRight (vN (fun i => wd (g i) 2) (n + n)) (64 * n) := (zb n fun i hi => (kx (g i) (g (n + i)) (hg i (by omega)) 2 (by decide)).2).trans (zf8 (f := fun i => wd (g i) 2) fun i hi => Nat.lt_of_lt_of_le (yx _ _) (by decide)).symm
  have b3 : vN (fun i => wd (g i ++ g (n + i)) 7) n = Nat.shiftRight (vN (fun i => wd (g i) 3) (n + n)) (64 * n) := (zb n fun i hi => (kx (g i) (g (n + i)) (hg i (by omega)) 3 (by decide)).2).trans (zf8 (f := fun i => wd (g i) 3) fun i hi => Nat.lt_of_lt_of_le (yx _ _) (by decide)).symm
  rw [a0, a1, a2, a3, b0, b1, b2, b3] at h
  rw [h]
  have e : ∀ i, zO ((⟨#[1]⟩ : ByteArray) ++ (g i ++ g (n + i))) = qE (g i) (g (n + i)) := fun i => by unfold qE; rw [ByteArray.append_assoc]
  simp only [e]
end Go.AL
