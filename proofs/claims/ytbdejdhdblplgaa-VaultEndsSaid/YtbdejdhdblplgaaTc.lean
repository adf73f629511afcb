/- What functions of the program and of the document answer, and the plain laws behind it; each under the conditions that its own theorem names. -/
import Derived.Test.YtbdejdhdblplgaaTb
import Derived.Test.YtbdejdhdblplgaaAl3
import Derived.Test.YtbdejdhdblplgaaTa
set_option linter.unusedVariables false
namespace Go.AL
open Go Go.Proofs Go.RowKit
theorem zh7 : ∀ u, u < 64 → ∀ v, v < 64 → alC u = alC v → u = v := by decide +kernel
theorem zkv {N M : Nat} (hN : N < 16777216) (hM : M < 16777216) (h : ∀ i, i < 4 → dgN N i = dgN M i) : N = M := by
  have a0 := xv N 0 (by decide) hN
  have a1 := xv N 1 (by decide) hN
  have a2 := xv N 2 (by decide) hN
  have a3 := xv N 3 (by decide) hN
  have b0 := xv M 0 (by decide) hM
  have b1 := xv M 1 (by decide) hM
  have b2 := xv M 2 (by decide) hM
  have b3 := xv M 3 (by decide) hM
  have h0 := h 0 (by decide)
  have h1 := h 1 (by decide)
  have h2 := h 2 (by decide)
  have h3 := h 3 (by decide)
  simp only [Nat.mul_zero, Nat.sub_zero, Nat.reduceMul, Nat.reduceSub, Nat.reducePow, Nat.div_one] at a0 a1 a2 a3 b0 b1 b2 b3
  generalize dgN N 0 = p0 at *
  generalize dgN N 1 = p1 at *
  generalize dgN N 2 = p2 at *
  generalize dgN N 3 = p3 at *
  generalize dgN M 0 = q0 at *
  generalize dgN M 1 = q1 at *
  generalize dgN M 2 = q2 at *
  generalize dgN M 3 = q3 at *
  omega
theorem zg8 (k : Nat) (l l' : List UInt8) (h1 : l.length = 3 * k) (h2 : l'.length = 3 * k) (h : jN k l = jN k l') : l = l' := by
  have hN : ∀ j, j < k → N3 l j = N3 l' j := fun j hj => zkv (ziR l j) (ziR l' j) fun i hi => by
    have e1 := zaD k j i l h1 hj hi
    have e2 := zaD k j i l' h2 hj hi
    rw [h, e2] at e1
    exact (zh7 _ (jW _ _) _ (jW _ _) e1).symm
  apply List.ext_getElem (by omega)
  intro n hn hn'
  have g : ∀ (x : List UInt8) (hx : n < x.length), x[n] = x.getD n 0 := fun x hx => by rw [List.getD_eq_getElem?_getD, List.getElem?_eq_getElem hx]; rfl
  rw [g l hn, g l' hn']
  have hj := hN (n / 3) (by omega)
  obtain ⟨a1, a2, a3⟩ := zaR l (n / 3)
  obtain ⟨b1, b2, b3⟩ := zaR l' (n / 3)
  rw [hj] at a1 a2 a3
  have : n = 3 * (n / 3) ∨ n = 3 * (n / 3) + 1 ∨ n = 3 * (n / 3) + 2 := by omega
  rcases this with e | e | e <;> rw [e] <;> apply UInt8.toNat_inj.1
  · rw [← a1, ← b1]
  · rw [← a2, ← b2]
  · rw [← a3, ← b3]
theorem ziZ {a b : ByteArray} (ha : a.size = 32) (hb : b.size = 32) (h : qZ 2 a = qZ 2 b) : a = b := by
  obtain ⟨X, x1, x2, x3⟩ := kI a ha
  obtain ⟨Y, y1, y2, y3⟩ := kI b hb
  have hXY : X = Y := by
    rw [x1, y1] at h
    have := congrArg (fun s : ByteArray => s.data.toList) h
    simp only [ByteArray.data_append, Array.toList_append] at this
    exact ByteArray.ext (Array.ext' (List.append_cancel_left this))
  have he : ofL (jN 11 (0 :: a.data.toList)) = ofL (jN 11 (0 :: b.data.toList)) := by rw [← x3, ← y3, hXY]
  have hl : jN 11 (0 :: a.data.toList) = jN 11 (0 :: b.data.toList) := by
    have := congrArg (fun s : ByteArray => s.data.toList) he
    simpa only [xH] using this
  have := zg8 11 _ _ (by rw [List.length_cons, Array.length_toList]; show a.size + 1 = 33; omega) (by rw [List.length_cons, Array.length_toList]; show b.size + 1 = 33; omega) hl
  exact ByteArray.ext (Array.ext' (List.cons.inj this).2)
theorem zg2 (s : ByteArray) (g : Int) (i : Nat) : (kyS s g i).size = 44 := by
  obtain ⟨X, x1, x2, _⟩ := kI (ktP (sdS s g (i : Int))) (qe _)
  unfold kyS
  rw [x1, ByteArray.size_append, x2]; rfl
def dgS (s : ByteArray) : ByteArray := qZ 1 (sha s)
set_option maxHeartbeats 2000000 in
theorem zb2 (s : ByteArray) (hs : s.size ≤ 900000) : Spec Try.prog 15 [.t (.str s)] [] (.t (.str (dgS s))) [] := by
  have hP := vr s (by omega)
  have hM := zck 1 (by omega) (by omega) (sha s) (by rw [xA]; rfl)
  unfold dgS
  generalize qZ 1 (sha s) = Z at *
  generalize sha s = Y at *
  refine wI Try.func15 ?_
  repeat' (first | refine wC ?_ | refine wK ?_ | ((with_reducible refine zp ?_); first | refine wL hP ?_ | refine wL hM ?_) | fail)
  exact zH (zj rfl rfl rfl) (by simp)
def nxS (s : ByteArray) (g : Int) (i : Nat) : ByteArray := dgS (kyS s g i)
set_option maxHeartbeats 4000000 in
theorem zd4 (s : ByteArray) (p c : Int) (l : List Int) (k : Nat) (hs : s.size ≤ 900000) (hk : k ≤ 8) (hp : 0 ≤ p) (hp1 : p < 65536) : Spec Try.prog 8 [.t (vaT s p c (k : Int) l)] [] (.t (.sl 1 (((List.range k).map (nxS s (p + 1))).map .str))) [] := by
  have hS := qN s p c (k : Int) l (p + 1) k hs hk
  have wp : IntKind.i64.wrap (p + 1) = p + 1 := zl (by omega) (by omega)
  rw [show sdL s (p + 1) k = (List.range k).map (fun (i : Nat) => sdS s (p + 1) (i : Int)) from rfl, ← zfN (nxS s (p + 1))] at hS
  rw [← zfk (nxS s (p + 1)) (fun (i : Nat) => sdS s (p + 1) (i : Int))]
  rw [← wp] at hS ⊢
  rw [show sdS s (IntKind.i64.wrap (p + 1)) = sdS s (p + 1) from by rw [wp]] at hS
  rw [show nxS s (IntKind.i64.wrap (p + 1)) = nxS s (p + 1) from by rw [wp]] at hS ⊢
  rw [show sdS s (IntKind.i64.wrap (p + 1)) = sdS s (p + 1) from by rw [wp]]
  refine wIG Try.func8 ?_
  repeat' (first | refine wC ?_ | refine wK ?_ | ((with_reducible refine zp ?_); refine wN (.row (.loc 900)) [(.res 0, .loc 900)] hS ?_) | fail)
  have hln0 := qt (nxS s (p + 1)) (fun (i : Nat) => sdS s (p + 1) (i : Int)) k 0
  rw [hln0]
  refine zc (za [3, 13, 14, 15] [.loc 900] rfl rfl) ?_
  refine zh (fun q env st => ∃ (j : Nat), j ≤ k ∧ q = k - j ∧ env = EnvL.get [(3, .row (.loc 900)), (13, .row (.loc 900)), (14, .t (.int .i64 (k : Int))), (15, .t (.int .i64 (j : Int)))] ∧ st = StO.get [(.loc 900, some (.slt 9 1 ((kL (nxS s (p + 1)) (fun (i : Nat) => sdS s (p + 1) (i : Int)) k j).map .str)))])
    ?_ (n := k) ⟨0, by omega, rfl, rfl, rfl⟩
  clear hln0
  rintro q env st ⟨j, hj, rfl, rfl, rfl⟩
  have wj : IntKind.i64.wrap ((j : Int) + 1) = ((j + 1 : Nat) : Int) := by rw [zl (by omega) (by omega)]; omega
  by_cases hlt : j < k
  · have hK := zaf (sdS s (p + 1) (j : Int)) (by rw [qi]; decide)
    rw [show qZ 2 (ktP (sdS s (p + 1) (j : Int))) = kyS s (p + 1) j from rfl] at hK
    have hD := zb2 (kyS s (p + 1) j) (by rw [zg2]; decide)
    rw [show dgS (kyS s (p + 1) j) = nxS s (p + 1) j from rfl] at hD
    have hat := zcw (nxS s (p + 1)) (fun (i : Nat) => sdS s (p + 1) (i : Int)) k j hlt
    have hset := zaG (nxS s (p + 1)) (fun (i : Nat) => sdS s (p + 1) (i : Int)) k j
    have hln := qt (nxS s (p + 1)) (fun (i : Nat) => sdS s (p + 1) (i : Int)) k j
    rw [← hat, ← Int.toNat_natCast j] at hK
    rw [Int.toNat_natCast j] at hK
    clear hat hS
    generalize kL (nxS s (p + 1)) (fun (i : Nat) => sdS s (p + 1) (i : Int)) k j = M at *
    generalize nxS s (p + 1) j = Y at *
    generalize kyS s (p + 1) j = X at *
    rw [show M.getD j default = M.getD (j : Int).toNat default from rfl] at hK
    repeat' (first | refine wC ?_ | (exfalso; omega) | refine wK ?_ | ((with_reducible refine wy ?_); refine xR rfl rfl rfl rfl rfl rfl rfl rfl ?_ ?_) | ((with_reducible refine xa ?_); refine xq rfl rfl rfl rfl rfl rfl ?_ ?_ ?_) | ((with_reducible refine zi ?_); refine ye rfl rfl rfl rfl rfl rfl rfl ?_ ?_ ?_) | ((with_reducible refine zp ?_); first | refine wL hK ?_ | refine wL hD ?_) | refine zq rfl ?_ ?_ <;> intro hc | fail)
    all_goals try (simp only [List.length_map]; omega)
    all_goals try omega
    all_goals first | rfl | exact zC (n' := k - (j + 1)) (by omega) (za [3, 13, 14, 15] [.loc 900] rfl rfl) ⟨j + 1, by omega, rfl, by rw [wj]; rfl, by rw [← hset, List.map_set]; rfl⟩
  · obtain rfl : j = k := by omega
    repeat' (first | refine wC ?_ | (exfalso; omega) | refine wK ?_ | refine zq rfl ?_ ?_ <;> intro hc | fail)
    refine yc (zI (id := .loc 900) rfl rfl rfl) ?_
    exact y5 (zH (xB rfl (AVLE.refl _)) (by simp))
set_option maxHeartbeats 8000000 in
theorem jb (s : ByteArray) (p nx : Int) (k : Nat) (u : Nat → Nat) (hs : s.size = 32) (hp : 0 ≤ p) (hp1 : p < 65535) (hk1 : 1 ≤ k) (hk : k ≤ 8) (hu : ∀ i, i < k → u i ≤ 8) : Spec Try.prog 7 [.t (vaT s p (k : Int) 0 (usL u k)), .t (.int .i64 nx)] [] (.tup [.t (vaT s p (k : Int) 0 (usL u k)), .t (.int .i64 26)]) [] := by
  have hln := zaV u k
  have hO := kS s p (k : Int) 0 (usL u k) (by omega) (by omega)
  have hV := vK s p (k : Int) 0 (usL u k) (by omega)
  rw [zcP s p 0 k u hs hp (by omega) hk1 hk (by omega) (by omega) hu] at hV
  generalize usL u k = U at *
  refine wIG Try.func7 ?_
  repeat' (first | refine wC ?_ | (exfalso; omega) | refine wK ?_ | ((with_reducible refine zp ?_); first | refine wN (.agg [.t (.str s), .t (.int .i64 p), .t (.int .i64 (k : Int)), .t (.int .i64 0), .row (.loc 900)]) [(.res 0, .loc 900)] hO ?_ | refine wL hV ?_) | refine zq rfl ?_ ?_ <;> intro hc | fail)
  refine yc (zI (id := .loc 900) rfl rfl rfl) ?_
  refine y5 (zH ?_ (by simp)); refine wQ rfl rfl rfl inferInstance rfl inferInstance rfl ?_ ?_; exact TLe.av wT; exact AVLE.refl _
theorem kr (s : ByteArray) (p : Int) (hs : s.size = 32) (hp : 0 ≤ p) (hp1 : p < 65535) : Spec Try.prog 7 [.t (vaT s p 1 0 [((0 : Nat) : Int)]), .t (.int .i64 1)] [] (.tup [.t (vaT s p 1 0 [((0 : Nat) : Int)]), .t (.int .i64 26)]) [] :=
  jb s p 1 1 (fun _ => 0) hs hp hp1 (by decide) (by decide) (fun _ _ => by omega)
theorem vY (s : ByteArray) (p nx : Int) (hs : s.size = 32) (hp : 0 ≤ p) (hp1 : p < 65535) (h0 : 0 ≤ nx) (h8 : nx ≤ 8) : Spec Try.prog 7 [.t (vaT s p 1 1 [((0 : Nat) : Int)]), .t (.int .i64 nx)] [] (.tup [.t (vaT s (p + 1) 1 nx [((0 : Nat) : Int)]), .t (.int .i64 0)]) [] :=
  zcd s p 1 nx 1 (fun _ => 0) hs hp hp1 (by decide) (by decide) (by decide) (by decide) h0 h8 (fun _ _ => by omega)
theorem zcR (s : ByteArray) (p c : Int) (l : List Int) (hs : s.size ≤ 900000) (hp : 0 ≤ p) (hp1 : p < 65536) : Spec Try.prog 8 [.t (vaT s p c 0 l)] [] (.t (.sl 1 [])) [] :=
  zd4 s p c l 0 hs (by decide) hp hp1
end Go.AL
namespace Go.AL
open Go Go.RowKit
def vN (f : Nat → Nat) : Nat → Nat
  | 0 => 0
  | n + 1 => 2 ^ (64 * n) * f n + vN f n
theorem zb {f g : Nat → Nat} : ∀ n, (∀ i, i < n → f i = g i) → vN f n = vN g n
  | 0, _ => rfl
  | n + 1, h => by rw [vN, vN, h n (by omega), zb n (fun i hi => h i (by omega))]
theorem zgO {f : Nat → Nat} : ∀ n, (∀ i, i < n → f i < 2 ^ 64) → vN f n < 2 ^ (64 * n)
  | 0, _ => by simp [vN]
  | n + 1, h => by
    have h1 := zgO n (fun i hi => h i (by omega))
    have h2 := h n (by omega)
    rw [vN, show 64 * (n + 1) = 64 * n + 64 by omega, Nat.pow_add]
    calc 2 ^ (64 * n) * f n + vN f n < 2 ^ (64 * n) * f n + 2 ^ (64 * n) := by omega
      _ = 2 ^ (64 * n) * (f n + 1) := by rw [Nat.mul_add, Nat.mul_one]
      _ ≤ 2 ^ (64 * n) * 2 ^ 64 := Nat.mul_le_mul_left _ h2
theorem yd (f g : Nat → Nat) : ∀ n, vN f n + vN g n = vN (fun i => f i + g i) n
  | 0 => rfl
  | n + 1 => by rw [vN, vN, vN, ← yd f g n, Nat.mul_add]; omega
theorem yM (f : Nat → Nat) (c : Nat) : ∀ n, vN f n * c = vN (fun i => f i * c) n
  | 0 => by simp [vN]
  | n + 1 => by rw [vN, vN, ← yM f c n, Nat.add_mul, Nat.mul_assoc]
theorem jv {f : Nat → Nat} : ∀ n, (∀ i, i < n → f i < 2 ^ 64) → ∀ b, (vN f n).testBit b = (decide (b < 64 * n) && (f (b / 64)).testBit (b % 64))
  | 0, _, b => by simp [vN]
  | n + 1, h, b => by
    have h1 := zgO n (fun i hi => h i (by omega))
    rw [vN, Nat.testBit_two_pow_mul_add _ h1]
    by_cases hb : b < 64 * n
    · rw [if_pos hb, jv n (fun i hi => h i (by omega)), decide_eq_true hb, decide_eq_true (by omega : b < 64 * (n + 1))]
    · rw [if_neg hb]
      by_cases hc : b < 64 * (n + 1)
      · rw [decide_eq_true hc, Bool.true_and, show b / 64 = n by omega, show b % 64 = b - 64 * n by omega]
      · rw [decide_eq_false hc, Bool.false_and]
        exact Nat.testBit_lt_two_pow (Nat.lt_of_lt_of_le (h n (by omega)) (Nat.pow_le_pow_right (by decide) (by omega)))
def Lo (X : Nat) (g : Nat → Nat) (n : Nat) : Prop := ∀ i, i < n → ∀ b, b < 32 → X.testBit (64 * i + b) = (g i).testBit b
theorem zg0 {f : Nat → Nat} {n : Nat} (h : ∀ i, i < n → f i < 2 ^ 64) : Lo (vN f n) f n := by
  intro i hi b hb
  rw [jv n h, decide_eq_true (by omega), Bool.true_and, show (64 * i + b) / 64 = i by omega, show (64 * i + b) % 64 = b by omega]
theorem jn {f : Nat → Nat} {n : Nat} (h : ∀ i, i < n → f i < 2 ^ 64) {k : Nat} (hk : k ≤ 32) : Lo (vN f n >>> k) (fun i => f i >>> k) n := by
  intro i hi b hb
  rw [Nat.testBit_shiftRight, jv n h, Nat.testBit_shiftRight, decide_eq_true (by omega), Bool.true_and, show (k + (64 * i + b)) / 64 = i by omega, show (k + (64 * i + b)) % 64 = k + b by omega]
theorem zdZ {X Y : Nat} {g h : Nat → Nat} {n : Nat} (hx : Lo X g n) (hy : Lo Y h n) : Lo (X ^^^ Y) (fun i => g i ^^^ h i) n := by
  intro i hi b hb
  rw [Nat.testBit_xor, Nat.testBit_xor, hx i hi b hb, hy i hi b hb]
def vM (n : Nat) : Nat := vN (fun _ => 4294967295) n
theorem zhF (b : Nat) : (4294967295 : Nat).testBit b = decide (b < 32) := by
  rw [show (4294967295 : Nat) = 2 ^ 32 - 1 from rfl, Nat.testBit_two_pow_sub_one]
theorem vL {X : Nat} {g : Nat → Nat} {n : Nat} (h : Lo X g n) : X &&& vM n = vN (fun i => g i % 4294967296) n := by
  apply Nat.eq_of_testBit_eq
  intro b
  have e : ∀ i, i < n → g i % 4294967296 < 2 ^ 64 := fun i _ => Nat.lt_of_lt_of_le (Nat.mod_lt _ (by decide)) (by decide)
  rw [Nat.testBit_and, vM, jv n (fun _ _ => by decide), jv n e, zhF]
  by_cases hb : b < 64 * n
  · rw [decide_eq_true hb, Bool.true_and, Bool.true_and, show (4294967296 : Nat) = 2 ^ 32 from rfl, Nat.testBit_mod_two_pow]
    by_cases hc : b % 64 < 32
    · have := h (b / 64) (by omega) (b % 64) hc
      rw [show 64 * (b / 64) + b % 64 = b by omega] at this
      rw [this, Bool.and_comm]
    · rw [decide_eq_false hc, Bool.and_false, Bool.false_and]
  · rw [decide_eq_false hb, Bool.false_and, Bool.and_false, Bool.false_and]
theorem qR {f g : Nat → Nat} {n : Nat} (hf : ∀ i, i < n → f i < 2 ^ 64) (hg : ∀ i, i < n → g i < 2 ^ 64) :
    (vN f n ^^^ vN g n = vN (fun i => f i ^^^ g i) n) ∧ (vN f n &&& vN g n = vN (fun i => f i &&& g i) n) := by
  constructor
  · apply Nat.eq_of_testBit_eq; intro b
    rw [Nat.testBit_xor, jv n hf, jv n hg, jv n (fun i hi => Nat.xor_lt_two_pow (hf i hi) (hg i hi)), Nat.testBit_xor]
    cases decide (b < 64 * n) <;> simp
  · apply Nat.eq_of_testBit_eq; intro b
    rw [Nat.testBit_and, jv n hf, jv n hg, jv n (fun i hi => Nat.lt_of_le_of_lt Nat.and_le_left (hf i hi)), Nat.testBit_and]
    cases decide (b < 64 * n) <;> simp
theorem vT (x : Nat) : IntKind.u32.wrap (x : Int) = ((x % 4294967296 : Nat) : Int) := by
  simp only [IntKind.wrap, IntKind.bits, IntKind.signed, Bool.false_and, Bool.false_eq_true, if_false]
  omega
theorem zan (x : Nat) : (BitVec.ofInt 32 (x : Int)).toNat = x % 4294967296 := by
  simp
theorem ke {x y : Nat} (hx : x < 4294967296) (hy : y < 4294967296) : wx (x : Int) (y : Int) = ((x ^^^ y : Nat) : Int) := by
  unfold wx
  rw [BitVec.toNat_xor, zan, zan, Nat.mod_eq_of_lt hx, Nat.mod_eq_of_lt hy, vT, Nat.mod_eq_of_lt (Nat.xor_lt_two_pow (n := 32) hx hy)]
theorem zbS {x y : Nat} (hx : x < 4294967296) (hy : y < 4294967296) : wa (x : Int) (y : Int) = ((x &&& y : Nat) : Int) := by
  unfold wa
  rw [BitVec.toNat_and, zan, zan, Nat.mod_eq_of_lt hx, Nat.mod_eq_of_lt hy, vT, Nat.mod_eq_of_lt (Nat.lt_of_le_of_lt Nat.and_le_left hx)]
theorem zdx {x y : Nat} (hx : x < 4294967296) (hy : y < 4294967296) : wo (x : Int) (y : Int) = ((x ||| y : Nat) : Int) := by
  unfold wo
  rw [BitVec.toNat_or, zan, zan, Nat.mod_eq_of_lt hx, Nat.mod_eq_of_lt hy, vT, Nat.mod_eq_of_lt (Nat.or_lt_two_pow (n := 32) hx hy)]
theorem zjs {x : Nat} (hx : x < 4294967296) : wn (x : Int) = ((4294967295 ^^^ x : Nat) : Int) := by
  have := ke (x := 4294967295) (y := x) (by decide) hx
  exact this
theorem zcm (x y : Nat) : wp (x : Int) (y : Int) = (((x + y) % 4294967296 : Nat) : Int) := by
  unfold wp; rw [← Int.natCast_add, vT]
theorem zhH (x n : Nat) : wr (x : Int) n = ((x >>> n : Nat) : Int) := by
  unfold wr; rw [Nat.shiftRight_eq_div_pow, Int.natCast_ediv]; simp
theorem zdL (x n : Nat) : wl (x : Int) n = ((x * 2 ^ n % 4294967296 : Nat) : Int) := by
  unfold wl
  have : (x : Int) * 2 ^ n = ((x * 2 ^ n : Nat) : Int) := by simp
  rw [this, vT]
theorem zbo {x n : Nat} (hx : x < 4294967296) (h0 : 0 < n) (hn : n < 32) : rr (x : Int) n = (((x * 4294967297) >>> n % 4294967296 : Nat) : Int) := by
  unfold rr
  rw [zhH, zdL, zdx (Nat.lt_of_le_of_lt (Nat.shiftRight_le x n) hx) (Nat.mod_lt _ (by decide))]
  congr 1
  apply Nat.eq_of_testBit_eq; intro b
  rw [Nat.testBit_or, Nat.testBit_shiftRight, show (4294967296 : Nat) = 2 ^ 32 from rfl, Nat.testBit_mod_two_pow, Nat.testBit_mod_two_pow, Nat.testBit_shiftRight (x := x * 4294967297),
    show x * 4294967297 = 2 ^ 32 * x + x by omega, Nat.testBit_two_pow_mul_add _ (show x < 2 ^ 32 from hx), Nat.testBit_mul_two_pow]
  by_cases hb : b < 32
  · by_cases hc : n + b < 32
    · rw [if_pos hc]
      have : ¬ (32 - n ≤ b) := by omega
      simp [hb, this]
    · rw [if_neg hc]
      have h1 : 32 - n ≤ b := by omega
      have h2 : x.testBit (n + b) = false := Nat.testBit_lt_two_pow (Nat.lt_of_lt_of_le (show x < 2 ^ 32 from hx) (Nat.pow_le_pow_right (by decide) (by omega)))
      rw [h2]; simp [hb, h1, show n + b - 32 = b - (32 - n) by omega]
  · have h2 : x.testBit (n + b) = false := Nat.testBit_lt_two_pow (Nat.lt_of_lt_of_le (show x < 2 ^ 32 from hx) (Nat.pow_le_pow_right (by decide) (by omega)))
    simp [hb, h2]
def frc (x : Nat) (k : Bool) : Bool := cond (Nat.beq x x) k k
theorem zfy (x : Nat) (k : Bool) : frc x k = k := by
  unfold frc; cases Nat.beq x x <;> rfl
def sT2 (M a b c Y : Nat) : Nat := Nat.land (Nat.xor (Nat.xor (Nat.shiftRight Y a) (Nat.shiftRight Y b)) (Nat.shiftRight Y c)) M
def sT (M a b c X : Nat) : Nat := sT2 M a b c (Nat.mul X 4294967297)
def sU2 (M a b c Y X : Nat) : Nat := Nat.land (Nat.xor (Nat.xor (Nat.shiftRight Y a) (Nat.shiftRight Y b)) (Nat.shiftRight X c)) M
def sU (M a b c X : Nat) : Nat := sU2 M a b c (Nat.mul X 4294967297) X
def nT (a b c x : Nat) : Nat := ((x * 4294967297) >>> a ^^^ (x * 4294967297) >>> b ^^^ (x * 4294967297) >>> c) % 4294967296
def nU (a b c x : Nat) : Nat := ((x * 4294967297) >>> a ^^^ (x * 4294967297) >>> b ^^^ x >>> c) % 4294967296
theorem zjr (a b c x : Nat) : nT a b c x < 4294967296 := Nat.mod_lt _ (by decide)
theorem zj9 (a b c x : Nat) : nU a b c x < 4294967296 := Nat.mod_lt _ (by decide)
theorem zjN {f : Nat → Nat} {n : Nat} (h : ∀ i, i < n → f i < 4294967296) {a b c : Nat} (ha : a ≤ 32) (hb : b ≤ 32) (hc : c ≤ 32) :
    sT (vM n) a b c (vN f n) = vN (fun i => nT a b c (f i)) n := by
  have e : Nat.mul (vN f n) 4294967297 = vN (fun i => f i * 4294967297) n := yM f _ n
  have hy : ∀ i, i < n → f i * 4294967297 < 2 ^ 64 := fun i hi => by have := h i hi; omega
  unfold sT sT2; rw [e]
  exact vL (zdZ (zdZ (jn hy ha) (jn hy hb)) (jn hy hc))
theorem zjZ {f : Nat → Nat} {n : Nat} (h : ∀ i, i < n → f i < 4294967296) {a b c : Nat} (ha : a ≤ 32) (hb : b ≤ 32) (hc : c ≤ 32) :
    sU (vM n) a b c (vN f n) = vN (fun i => nU a b c (f i)) n := by
  have e : Nat.mul (vN f n) 4294967297 = vN (fun i => f i * 4294967297) n := yM f _ n
  have hy : ∀ i, i < n → f i * 4294967297 < 2 ^ 64 := fun i hi => by have := h i hi; omega
  have hx : ∀ i, i < n → f i < 2 ^ 64 := fun i hi => by have := h i hi; omega
  unfold sU sU2; rw [e]
  exact vL (zdZ (zdZ (jn hy ha) (jn hy hb)) (jn hx hc))
theorem zhL {x a b c : Nat} (hx : x < 4294967296) (a0 : 0 < a) (ha : a < 32) (b0 : 0 < b) (hb : b < 32) (c0 : 0 < c) (hc : c < 32) :
    wx (wx (rr (x : Int) a) (rr (x : Int) b)) (rr (x : Int) c) = ((nT a b c x : Nat) : Int) := by
  have m : ∀ y : Nat, y % 4294967296 < 4294967296 := fun y => Nat.mod_lt _ (by decide)
  rw [zbo hx a0 ha, zbo hx b0 hb, zbo hx c0 hc, ke (m _) (m _), ke (Nat.xor_lt_two_pow (n := 32) (m _) (m _)) (m _)]
  unfold nT
  rw [show (4294967296 : Nat) = 2 ^ 32 from rfl, Nat.xor_mod_two_pow, Nat.xor_mod_two_pow]
theorem zhK {x a b c : Nat} (hx : x < 4294967296) (a0 : 0 < a) (ha : a < 32) (b0 : 0 < b) (hb : b < 32) :
    wx (wx (rr (x : Int) a) (rr (x : Int) b)) (wr (x : Int) c) = ((nU a b c x : Nat) : Int) := by
  have m : ∀ y : Nat, y % 4294967296 < 4294967296 := fun y => Nat.mod_lt _ (by decide)
  have hs : x >>> c < 4294967296 := Nat.lt_of_le_of_lt (Nat.shiftRight_le x c) hx
  rw [zbo hx a0 ha, zbo hx b0 hb, zhH, ke (m _) (m _), ke (Nat.xor_lt_two_pow (n := 32) (m _) (m _)) hs]
  unfold nU
  rw [show (4294967296 : Nat) = 2 ^ 32 from rfl, Nat.xor_mod_two_pow, Nat.xor_mod_two_pow, Nat.mod_eq_of_lt (show x >>> c < 2 ^ 32 from hs)]
def sW (M x y u v : Nat) : Nat := Nat.land (Nat.add (Nat.add (Nat.add (sU M 17 19 10 y) u) (sU M 7 18 3 x)) v) M
def nW (x y u v : Nat) : Nat := (nU 17 19 10 y + u + nU 7 18 3 x + v) % 4294967296
theorem zkV {f g u v : Nat → Nat} {n : Nat} (hf : ∀ i, i < n → f i < 4294967296) (hg : ∀ i, i < n → g i < 4294967296) (hu : ∀ i, i < n → u i < 4294967296) (hv : ∀ i, i < n → v i < 4294967296) :
    sW (vM n) (vN f n) (vN g n) (vN u n) (vN v n) = vN (fun i => nW (f i) (g i) (u i) (v i)) n := by
  unfold sW
  rw [zjZ hf (by decide) (by decide) (by decide), zjZ hg (by decide) (by decide) (by decide)]
  have e1 : Nat.add (Nat.add (Nat.add (vN (fun i => nU 17 19 10 (g i)) n) (vN u n)) (vN (fun i => nU 7 18 3 (f i)) n)) (vN v n) = vN (fun i => nU 17 19 10 (g i) + u i + nU 7 18 3 (f i) + v i) n := by
    show vN _ n + vN u n + vN _ n + vN v n = _
    rw [yd, yd, yd]
  rw [e1]
  exact vL (zg0 fun i hi => by
    have := hu i hi; have := hv i hi; have := zj9 17 19 10 (g i); have := zj9 7 18 3 (f i); omega)
theorem zgR {x y u v : Nat} (hx : x < 4294967296) (hy : y < 4294967296) (hu : u < 4294967296) (hv : v < 4294967296) : zkI (x : Int) (y : Int) (u : Int) (v : Int) = ((nW x y u v : Nat) : Int) := by
  unfold zkI
  rw [zhK hy (by decide) (by decide) (by decide) (by decide), zhK hx (by decide) (by decide) (by decide) (by decide), zcm, zcm, zcm]
  unfold nW
  congr 1; omega
structure N8 where
  a : Nat
  b : Nat
  c : Nat
  d : Nat
  e : Nat
  f : Nat
  g : Nat
  h : Nat
def N8.In (v : N8) : Prop := v.a < 4294967296 ∧ v.b < 4294967296 ∧ v.c < 4294967296 ∧ v.d < 4294967296 ∧ v.e < 4294967296 ∧ v.f < 4294967296 ∧ v.g < 4294967296 ∧ v.h < 4294967296
def N8.i (v : N8) : H8 := ⟨v.a, v.b, v.c, v.d, v.e, v.f, v.g, v.h⟩
def nt1 (k w e f g h : Nat) : Nat := h + nT 6 11 25 e + (g ^^^ (e &&& (f ^^^ g))) + k + w
def nt2 (a b c : Nat) : Nat := nT 2 13 22 a + (a &&& b ^^^ (c &&& (a ^^^ b)))
def zct (k w : Nat) (v : N8) : N8 := ⟨(nt1 k w v.e v.f v.g v.h + nt2 v.a v.b v.c) % 4294967296, v.a, v.b, v.c, (v.d + nt1 k w v.e v.f v.g v.h) % 4294967296, v.e, v.f, v.g⟩
theorem zdq {k w : Nat} {v : N8} (h : v.In) : (zct k w v).In := by
  obtain ⟨h1, h2, h3, h4, h5, h6, h7, h8⟩ := h
  exact ⟨Nat.mod_lt _ (by decide), h1, h2, h3, Nat.mod_lt _ (by decide), h5, h6, h7⟩
theorem zdd {x y : Nat} (hx : x < 4294967296) (hy : y < 4294967296) : x ^^^ y < 4294967296 := Nat.xor_lt_two_pow (n := 32) hx hy
theorem qC {x y : Nat} (hx : x < 4294967296) : x &&& y < 4294967296 := Nat.lt_of_le_of_lt Nat.and_le_left hx
theorem zjP {e f g : Nat} (he : e < 4294967296) (hf : f < 4294967296) (hg : g < 4294967296) : wx (wa (e : Int) (f : Int)) (wa (wn (e : Int)) (g : Int)) = ((g ^^^ (e &&& (f ^^^ g)) : Nat) : Int) := by
  rw [zjs he, zbS he hf, zbS (zdd (by decide) he) hg, ke (qC he) (qC (zdd (by decide) he))]
  congr 1
  apply Nat.eq_of_testBit_eq; intro b
  simp only [Nat.testBit_xor, Nat.testBit_and, zhF]
  by_cases hb : b < 32
  · rw [decide_eq_true hb]; cases e.testBit b <;> cases f.testBit b <;> cases g.testBit b <;> rfl
  · have h2 : g.testBit b = false := Nat.testBit_lt_two_pow (Nat.lt_of_lt_of_le (show g < 2 ^ 32 from hg) (Nat.pow_le_pow_right (by decide) (by omega)))
    have h3 : e.testBit b = false := Nat.testBit_lt_two_pow (Nat.lt_of_lt_of_le (show e < 2 ^ 32 from he) (Nat.pow_le_pow_right (by decide) (by omega)))
    rw [h2, h3]; simp
theorem zi3 {a b c : Nat} (ha : a < 4294967296) (hb : b < 4294967296) (hc : c < 4294967296) : wx (wx (wa (a : Int) (b : Int)) (wa (a : Int) (c : Int))) (wa (b : Int) (c : Int)) = ((a &&& b ^^^ (c &&& (a ^^^ b)) : Nat) : Int) := by
  rw [zbS ha hb, zbS ha hc, zbS hb hc, ke (qC ha) (qC ha), ke (zdd (qC ha) (qC ha)) (qC hb)]
  congr 1
  apply Nat.eq_of_testBit_eq; intro i
  simp only [Nat.testBit_xor, Nat.testBit_and]
  cases a.testBit i <;> cases b.testBit i <;> cases c.testBit i <;> rfl
theorem zjb {k w : Nat} {v : N8} (h : v.In) : rnd (k : Int) (w : Int) v.i = (zct k w v).i := by
  obtain ⟨h1, h2, h3, h4, h5, h6, h7, h8⟩ := h
  unfold rnd N8.i zct
  simp only
  rw [zhL h5 (by decide) (by decide) (by decide) (by decide) (by decide) (by decide), zhL h1 (by decide) (by decide) (by decide) (by decide) (by decide) (by decide), zjP h5 h6 h7, zi3 h1 h2 h3]
  simp only [zcm]
  unfold nt1 nt2
  congr 2 <;> omega
def sR3 (na b c d ne f g h : Nat) (k : Nat → Nat → Nat → Nat → Nat → Nat → Nat → Nat → Bool) : Bool := frc na (frc ne (k na b c d ne f g h))
def sR2 (M t1 t2 a b c d e f g : Nat) (k : Nat → Nat → Nat → Nat → Nat → Nat → Nat → Nat → Bool) : Bool := sR3 (Nat.land (Nat.add t1 t2) M) a b c (Nat.land (Nat.add d t1) M) e f g k
def sR (M O kt a b c d e f g h w : Nat) (k : Nat → Nat → Nat → Nat → Nat → Nat → Nat → Nat → Bool) : Bool :=
  sR2 M (Nat.add (Nat.add (Nat.add (Nat.add h (sT M 6 11 25 e)) (Nat.xor g (Nat.land e (Nat.xor f g)))) (Nat.mul O kt)) w) (Nat.add (sT M 2 13 22 a) (Nat.xor (Nat.land a b) (Nat.land c (Nat.xor a b)))) a b c d e f g k
def vO (n : Nat) : Nat := vN (fun _ => 1) n
theorem zkx {n kt : Nat} {v : Nat → N8} {w : Nat → Nat} (hv : ∀ i, i < n → (v i).In) (hw : ∀ i, i < n → w i < 4294967296) (hk : kt < 4294967296) (k : Nat → Nat → Nat → Nat → Nat → Nat → Nat → Nat → Bool) :
    sR (vM n) (vO n) kt (vN (fun i => (v i).a) n) (vN (fun i => (v i).b) n) (vN (fun i => (v i).c) n) (vN (fun i => (v i).d) n) (vN (fun i => (v i).e) n) (vN (fun i => (v i).f) n) (vN (fun i => (v i).g) n) (vN (fun i => (v i).h) n) (vN w n) k =
    k (vN (fun i => (zct kt (w i) (v i)).a) n) (vN (fun i => (zct kt (w i) (v i)).b) n) (vN (fun i => (zct kt (w i) (v i)).c) n) (vN (fun i => (zct kt (w i) (v i)).d) n) (vN (fun i => (zct kt (w i) (v i)).e) n) (vN (fun i => (zct kt (w i) (v i)).f) n) (vN (fun i => (zct kt (w i) (v i)).g) n) (vN (fun i => (zct kt (w i) (v i)).h) n) := by
  have up : ∀ {x : Nat}, x < 4294967296 → x < 2 ^ 64 := fun h => by omega
  have ha : ∀ i, i < n → (v i).a < 4294967296 := fun i hi => (hv i hi).1
  have hb : ∀ i, i < n → (v i).b < 4294967296 := fun i hi => (hv i hi).2.1
  have hc : ∀ i, i < n → (v i).c < 4294967296 := fun i hi => (hv i hi).2.2.1
  have hd : ∀ i, i < n → (v i).d < 4294967296 := fun i hi => (hv i hi).2.2.2.1
  have he : ∀ i, i < n → (v i).e < 4294967296 := fun i hi => (hv i hi).2.2.2.2.1
  have hf : ∀ i, i < n → (v i).f < 4294967296 := fun i hi => (hv i hi).2.2.2.2.2.1
  have hg : ∀ i, i < n → (v i).g < 4294967296 := fun i hi => (hv i hi).2.2.2.2.2.2.1
  have hh : ∀ i, i < n → (v i).h < 4294967296 := fun i hi => (hv i hi).2.2.2.2.2.2.2
  unfold sR
  rw [zjN he (by decide) (by decide) (by decide), zjN ha (by decide) (by decide) (by decide)]
  have e1 : Nat.xor (vN (fun i => (v i).f) n) (vN (fun i => (v i).g) n) = vN (fun i => (v i).f ^^^ (v i).g) n := (qR (fun i hi => up (hf i hi)) (fun i hi => up (hg i hi))).1
  have e2 : Nat.land (vN (fun i => (v i).e) n) (vN (fun i => (v i).f ^^^ (v i).g) n) = vN (fun i => (v i).e &&& ((v i).f ^^^ (v i).g)) n := (qR (fun i hi => up (he i hi)) (fun i hi => up (zdd (hf i hi) (hg i hi)))).2
  have e3 : Nat.xor (vN (fun i => (v i).g) n) (vN (fun i => (v i).e &&& ((v i).f ^^^ (v i).g)) n) = vN (fun i => (v i).g ^^^ ((v i).e &&& ((v i).f ^^^ (v i).g))) n := (qR (fun i hi => up (hg i hi)) (fun i hi => up (qC (he i hi)))).1
  have e4 : Nat.xor (vN (fun i => (v i).a) n) (vN (fun i => (v i).b) n) = vN (fun i => (v i).a ^^^ (v i).b) n := (qR (fun i hi => up (ha i hi)) (fun i hi => up (hb i hi))).1
  have e5 : Nat.land (vN (fun i => (v i).a) n) (vN (fun i => (v i).b) n) = vN (fun i => (v i).a &&& (v i).b) n := (qR (fun i hi => up (ha i hi)) (fun i hi => up (hb i hi))).2
  have e6 : Nat.land (vN (fun i => (v i).c) n) (vN (fun i => (v i).a ^^^ (v i).b) n) = vN (fun i => (v i).c &&& ((v i).a ^^^ (v i).b)) n := (qR (fun i hi => up (hc i hi)) (fun i hi => up (zdd (ha i hi) (hb i hi)))).2
  have e7 : Nat.xor (vN (fun i => (v i).a &&& (v i).b) n) (vN (fun i => (v i).c &&& ((v i).a ^^^ (v i).b)) n) = vN (fun i => (v i).a &&& (v i).b ^^^ ((v i).c &&& ((v i).a ^^^ (v i).b))) n := (qR (fun i hi => up (qC (ha i hi))) (fun i hi => up (qC (hc i hi)))).1
  have e8 : Nat.mul (vO n) kt = vN (fun _ => kt) n := by
    show vN _ n * kt = _
    rw [yM]; exact zb n (fun _ _ => Nat.one_mul _)
  rw [e1, e2, e3, e4, e5, e6, e7, e8]
  have e9 : Nat.add (Nat.add (Nat.add (Nat.add (vN (fun i => (v i).h) n) (vN (fun i => nT 6 11 25 (v i).e) n)) (vN (fun i => (v i).g ^^^ ((v i).e &&& ((v i).f ^^^ (v i).g))) n)) (vN (fun _ => kt) n)) (vN w n) = vN (fun i => nt1 kt (w i) (v i).e (v i).f (v i).g (v i).h) n := by
    show vN _ n + vN _ n + vN _ n + vN _ n + vN w n = _
    rw [yd, yd, yd, yd]; rfl
  have e10 : Nat.add (vN (fun i => nT 2 13 22 (v i).a) n) (vN (fun i => (v i).a &&& (v i).b ^^^ ((v i).c &&& ((v i).a ^^^ (v i).b))) n) = vN (fun i => nt2 (v i).a (v i).b (v i).c) n := by
    show vN _ n + vN _ n = _
    rw [yd]; rfl
  rw [e9, e10]
  have b1 : ∀ i, i < n → nt1 kt (w i) (v i).e (v i).f (v i).g (v i).h < 21474836480 := fun i hi => by
    have := hh i hi; have := zjr 6 11 25 (v i).e; have := zdd (hg i hi) (qC (y := (v i).f ^^^ (v i).g) (he i hi)); have := hw i hi
    unfold nt1; omega
  have b2 : ∀ i, i < n → nt2 (v i).a (v i).b (v i).c < 8589934592 := fun i hi => by
    have := zjr 2 13 22 (v i).a; have := zdd (qC (y := (v i).b) (ha i hi)) (qC (y := (v i).a ^^^ (v i).b) (hc i hi))
    unfold nt2; omega
  unfold sR2 sR3
  rw [zfy, zfy]
  have e11 : Nat.land (Nat.add (vN (fun i => nt1 kt (w i) (v i).e (v i).f (v i).g (v i).h) n) (vN (fun i => nt2 (v i).a (v i).b (v i).c) n)) (vM n) = vN (fun i => (zct kt (w i) (v i)).a) n := by
    show (vN _ n + vN _ n) &&& vM n = _
    rw [yd]
    exact vL (zg0 fun i hi => by have := b1 i hi; have := b2 i hi; omega)
  have e12 : Nat.land (Nat.add (vN (fun i => (v i).d) n) (vN (fun i => nt1 kt (w i) (v i).e (v i).f (v i).g (v i).h) n)) (vM n) = vN (fun i => (zct kt (w i) (v i)).e) n := by
    show (vN _ n + vN _ n) &&& vM n = _
    rw [yd]
    exact vL (zg0 fun i hi => by have := b1 i hi; have := hd i hi; omega)
  rw [e11, e12]
  rfl
def sRs (M O : Nat) : List Nat → (Nat → Nat → Nat → Nat → Nat → Nat → Nat → Nat → Bool) → (a b c d e f g h w0 w1 w2 w3 w4 w5 w6 w7 w8 w9 w10 w11 w12 w13 w14 w15 : Nat) → Bool
  | [], k, a, b, c, d, e, f, g, h, _, _, _, _, _, _, _, _, _, _, _, _, _, _, _, _ => k a b c d e f g h
  | kt :: ks, k, a, b, c, d, e, f, g, h, w0, w1, w2, w3, w4, w5, w6, w7, w8, w9, w10, w11, w12, w13, w14, w15 => sR M O kt a b c d e f g h w0 (fun a b c d e f g h => sRs M O ks k a b c d e f g h w1 w2 w3 w4 w5 w6 w7 w8 w9 w10 w11 w12 w13 w14 w15 (sW M w1 w14 w9 w0))
def vb : List Nat := zbn.map Int.toNat
def sC2 (M O : Nat) (k : Nat → Nat → Nat → Nat → Nat → Nat → Nat → Nat → Bool) (A B C D E F G H a b c d e f g h : Nat) : Bool :=
  k (Nat.land (Nat.add A a) M) (Nat.land (Nat.add B b) M) (Nat.land (Nat.add C c) M) (Nat.land (Nat.add D d) M) (Nat.land (Nat.add E e) M) (Nat.land (Nat.add F f) M) (Nat.land (Nat.add G g) M) (Nat.land (Nat.add H h) M)
def sC3 (k : Nat → Nat → Nat → Nat → Nat → Nat → Nat → Nat → Bool) (a b c d e f g h : Nat) : Bool := frc a (frc b (frc c (frc d (frc e (frc f (frc g (frc h (k a b c d e f g h))))))))
def sC (M O : Nat) (k : Nat → Nat → Nat → Nat → Nat → Nat → Nat → Nat → Bool) (a b c d e f g h w0 w1 w2 w3 w4 w5 w6 w7 w8 w9 w10 w11 w12 w13 w14 w15 : Nat) : Bool :=
  sRs M O vb (sC2 M O (sC3 k) a b c d e f g h) a b c d e f g h w0 w1 w2 w3 w4 w5 w6 w7 w8 w9 w10 w11 w12 w13 w14 w15
def wsS (w : Nat → Nat) : Nat → Nat → Nat
  | 0, j => w j
  | t + 1, j => if j = t + 16 then nW (wsS w t (t + 1)) (wsS w t (t + 14)) (wsS w t (t + 9)) (wsS w t t) else wsS w t j
theorem zkQ (x y u v : Nat) : nW x y u v < 4294967296 := by unfold nW; exact Nat.mod_lt _ (by decide)
theorem zaE (w : Nat → Nat) (t j : Nat) (h : j < t + 16) : ∀ d, wsS w (t + d) j = wsS w t j
  | 0 => rfl
  | d + 1 => by rw [← Nat.add_assoc, wsS, if_neg (by omega), zaE w t j h d]
def yx (w : Nat → Nat) (t : Nat) : Nat := wsS w t t
theorem zaW (w : Nat → Nat) (t : Nat) (h : t < 16) : yx w t = w t := by
  have := zaE w 0 t (by omega) t
  rw [Nat.zero_add] at this
  exact this
theorem zd1 (w : Nat → Nat) (t j : Nat) (h1 : t ≤ j) (h2 : j < t + 16) : wsS w t j = yx w j := by
  have := zaE w t j h2 (j - t)
  rw [show t + (j - t) = j by omega] at this
  exact this.symm
theorem zaZ (w : Nat → Nat) (t : Nat) : yx w (t + 16) = nW (yx w (t + 1)) (yx w (t + 14)) (yx w (t + 9)) (yx w t) := by
  have h := zaE w (t + 1) (t + 16) (by omega) 15
  have e : wsS w (t + 1) (t + 16) = nW (wsS w t (t + 1)) (wsS w t (t + 14)) (wsS w t (t + 9)) (wsS w t t) := by rw [wsS, if_pos rfl]
  rw [show t + 1 + 15 = t + 16 by omega, e, zd1 w t (t + 1) (by omega) (by omega), zd1 w t (t + 14) (by omega) (by omega), zd1 w t (t + 9) (by omega) (by omega), zd1 w t t (by omega) (by omega)] at h
  exact h
theorem qg (w : Nat → Nat) (hw : ∀ t, t < 16 → w t < 4294967296) (t : Nat) : yx w t < 4294967296 := by
  by_cases h : t < 16
  · rw [zaW w t h]; exact hw t h
  · obtain ⟨u, rfl⟩ : ∃ u, t = u + 16 := ⟨t - 16, by omega⟩
    rw [zaZ]; exact zkQ _ _ _ _
def lfo {α β : Type} (f : α → Nat → β → β) : List α → Nat → β → β
  | [], _, b => b
  | a :: l, t, b => lfo f l (t + 1) (f a t b)
def nrs (w : Nat → Nat) (ks : List Nat) (t : Nat) (v : N8) : N8 := lfo (fun kt t v => zct kt (yx w t) v) ks t v
theorem jh (w : Nat → Nat) (t : Nat) (v : N8) : nrs w [] t v = v := by unfold nrs; rw [lfo]
theorem qn (w : Nat → Nat) (kt : Nat) (ks : List Nat) (t : Nat) (v : N8) : nrs w (kt :: ks) t v = nrs w ks (t + 1) (zct kt (yx w t) v) := by
  unfold nrs; rw [lfo]
theorem zhQ (w : Nat → Nat) : ∀ (ks : List Nat) (t : Nat) (v : N8), v.In → (nrs w ks t v).In
  | [], _, _, h => by rw [jh]; exact h
  | _ :: ks, t, _, h => by rw [qn]; exact zhQ w ks (t + 1) _ (zdq h)
theorem zhC {n : Nat} {W : Nat → Nat → Nat} (hW : ∀ i, i < n → ∀ t, t < 16 → W i t < 4294967296) (k : Nat → Nat → Nat → Nat → Nat → Nat → Nat → Nat → Bool) : ∀ (ks : List Nat) (t : Nat) (v : Nat → N8), (∀ x ∈ ks, x < 4294967296) → (∀ i, i < n → (v i).In) →
    sRs (vM n) (vO n) ks k (vN (fun i => (v i).a) n) (vN (fun i => (v i).b) n) (vN (fun i => (v i).c) n) (vN (fun i => (v i).d) n) (vN (fun i => (v i).e) n) (vN (fun i => (v i).f) n) (vN (fun i => (v i).g) n) (vN (fun i => (v i).h) n) (vN (fun i => yx (W i) (t + 0)) n) (vN (fun i => yx (W i) (t + 1)) n) (vN (fun i => yx (W i) (t + 2)) n) (vN (fun i => yx (W i) (t + 3)) n) (vN (fun i => yx (W i) (t + 4)) n) (vN (fun i => yx (W i) (t + 5)) n) (vN (fun i => yx (W i) (t + 6)) n) (vN (fun i => yx (W i) (t + 7)) n) (vN (fun i => yx (W i) (t + 8)) n) (vN (fun i => yx (W i) (t + 9)) n) (vN (fun i => yx (W i) (t + 10)) n) (vN (fun i => yx (W i) (t + 11)) n) (vN (fun i => yx (W i) (t + 12)) n) (vN (fun i => yx (W i) (t + 13)) n) (vN (fun i => yx (W i) (t + 14)) n) (vN (fun i => yx (W i) (t + 15)) n) =
    k (vN (fun i => (nrs (W i) ks t (v i)).a) n) (vN (fun i => (nrs (W i) ks t (v i)).b) n) (vN (fun i => (nrs (W i) ks t (v i)).c) n) (vN (fun i => (nrs (W i) ks t (v i)).d) n) (vN (fun i => (nrs (W i) ks t (v i)).e) n) (vN (fun i => (nrs (W i) ks t (v i)).f) n) (vN (fun i => (nrs (W i) ks t (v i)).g) n) (vN (fun i => (nrs (W i) ks t (v i)).h) n)
  | [], _, _, _, _ => by simp only [sRs, jh]
  | kt :: ks, t, v, hk, hv => by
    have b : ∀ j i, i < n → yx (W i) (t + j) < 4294967296 := fun j i hi => qg _ (hW i hi) _
    rw [sRs, zkx hv (b 0) (hk kt (List.mem_cons_self ..)), zkV (b 1) (b 14) (b 9) (b 0)]
    have ih := zhC hW k ks (t + 1) (fun i => zct kt (yx (W i) (t + 0)) (v i)) (fun x hx => hk x (List.mem_cons_of_mem _ hx)) (fun i hi => zdq (hv i hi))
    simp only [Nat.add_assoc, Nat.reduceAdd] at ih
    have e : ∀ i, nW (yx (W i) (t + 1)) (yx (W i) (t + 14)) (yx (W i) (t + 9)) (yx (W i) (t + 0)) = yx (W i) (t + 16) := fun i => (zaZ (W i) t).symm
    simp only [e, qn]
    exact ih
def xl (h : N8) (w : Nat → Nat) : N8 :=
  ⟨(h.a + (nrs w vb 0 h).a) % 4294967296, (h.b + (nrs w vb 0 h).b) % 4294967296, (h.c + (nrs w vb 0 h).c) % 4294967296, (h.d + (nrs w vb 0 h).d) % 4294967296, (h.e + (nrs w vb 0 h).e) % 4294967296, (h.f + (nrs w vb 0 h).f) % 4294967296, (h.g + (nrs w vb 0 h).g) % 4294967296, (h.h + (nrs w vb 0 h).h) % 4294967296⟩
theorem zaS (h : N8) (w : Nat → Nat) : (xl h w).In := ⟨Nat.mod_lt _ (by decide), Nat.mod_lt _ (by decide), Nat.mod_lt _ (by decide), Nat.mod_lt _ (by decide), Nat.mod_lt _ (by decide), Nat.mod_lt _ (by decide), Nat.mod_lt _ (by decide), Nat.mod_lt _ (by decide)⟩
theorem zgu : ∀ x ∈ vb, x < 4294967296 := by decide
theorem q8 {n : Nat} {f g : Nat → Nat} (hf : ∀ i, i < n → f i < 4294967296) (hg : ∀ i, i < n → g i < 4294967296) : Nat.land (Nat.add (vN f n) (vN g n)) (vM n) = vN (fun i => (f i + g i) % 4294967296) n := by
  show (vN f n + vN g n) &&& vM n = _
  rw [yd]
  exact vL (zg0 fun i hi => by have := hf i hi; have := hg i hi; omega)
theorem zfl {n : Nat} {W : Nat → Nat → Nat} {h : Nat → N8} (hh : ∀ i, i < n → (h i).In) (hW : ∀ i, i < n → ∀ t, t < 16 → W i t < 4294967296) (k : Nat → Nat → Nat → Nat → Nat → Nat → Nat → Nat → Bool) :
    sC (vM n) (vO n) k (vN (fun i => (h i).a) n) (vN (fun i => (h i).b) n) (vN (fun i => (h i).c) n) (vN (fun i => (h i).d) n) (vN (fun i => (h i).e) n) (vN (fun i => (h i).f) n) (vN (fun i => (h i).g) n) (vN (fun i => (h i).h) n) (vN (fun i => W i 0) n) (vN (fun i => W i 1) n) (vN (fun i => W i 2) n) (vN (fun i => W i 3) n) (vN (fun i => W i 4) n) (vN (fun i => W i 5) n) (vN (fun i => W i 6) n) (vN (fun i => W i 7) n) (vN (fun i => W i 8) n) (vN (fun i => W i 9) n) (vN (fun i => W i 10) n) (vN (fun i => W i 11) n) (vN (fun i => W i 12) n) (vN (fun i => W i 13) n) (vN (fun i => W i 14) n) (vN (fun i => W i 15) n) =
    k (vN (fun i => (xl (h i) (W i)).a) n) (vN (fun i => (xl (h i) (W i)).b) n) (vN (fun i => (xl (h i) (W i)).c) n) (vN (fun i => (xl (h i) (W i)).d) n) (vN (fun i => (xl (h i) (W i)).e) n) (vN (fun i => (xl (h i) (W i)).f) n) (vN (fun i => (xl (h i) (W i)).g) n) (vN (fun i => (xl (h i) (W i)).h) n) := by
  have e : ∀ j, j < 16 → (fun i => W i j) = (fun i => yx (W i) (0 + j)) := fun j hj => funext fun i => by rw [Nat.zero_add, zaW _ _ hj]
  unfold sC
  rw [e 0 (by decide), e 1 (by decide), e 2 (by decide), e 3 (by decide), e 4 (by decide), e 5 (by decide), e 6 (by decide), e 7 (by decide), e 8 (by decide), e 9 (by decide), e 10 (by decide), e 11 (by decide), e 12 (by decide), e 13 (by decide), e 14 (by decide), e 15 (by decide), zhC hW _ vb 0 h zgu hh]
  have q : ∀ i, i < n → (nrs (W i) vb 0 (h i)).In := fun i hi => zhQ _ _ _ _ (hh i hi)
  unfold sC2
  rw [q8 (fun i hi => (hh i hi).1) (fun i hi => (q i hi).1), q8 (fun i hi => (hh i hi).2.1) (fun i hi => (q i hi).2.1), q8 (fun i hi => (hh i hi).2.2.1) (fun i hi => (q i hi).2.2.1), q8 (fun i hi => (hh i hi).2.2.2.1) (fun i hi => (q i hi).2.2.2.1), q8 (fun i hi => (hh i hi).2.2.2.2.1) (fun i hi => (q i hi).2.2.2.2.1), q8 (fun i hi => (hh i hi).2.2.2.2.2.1) (fun i hi => (q i hi).2.2.2.2.2.1), q8 (fun i hi => (hh i hi).2.2.2.2.2.2.1) (fun i hi => (q i hi).2.2.2.2.2.2.1), q8 (fun i hi => (hh i hi).2.2.2.2.2.2.2) (fun i hi => (q i hi).2.2.2.2.2.2.2)]
  unfold sC3
  simp only [zfy]
  rfl
def wE (a b c d : Nat) : Nat := a * 16777216 + b * 65536 + c * 256 + d
theorem zhf {a b c d : Nat} (ha : a < 256) (hb : b < 256) (hc : c < 256) (hd : d < 256) : wE a b c d < 4294967296 := by unfold wE; omega
theorem zaC {x y i c : Nat} (hc : c = 2 ^ i) (h : y < c) : x * c ||| y = x * c + y := by
  subst hc
  have := Nat.shiftLeft_add_eq_or_of_lt h x
  rw [Nat.shiftLeft_eq] at this
  exact this.symm
theorem zhl {a b c d : Nat} (ha : a < 256) (hb : b < 256) (hc : c < 256) (hd : d < 256) :
    wo (wo (wo (wl (a : Int) 24) (wl (b : Int) 16)) (wl (c : Int) 8)) (d : Int) = ((wE a b c d : Nat) : Int) := by
  have e1 : wl (a : Int) 24 = ((a * 16777216 : Nat) : Int) := by rw [zdL]; congr 1; omega
  have e2 : wl (b : Int) 16 = ((b * 65536 : Nat) : Int) := by rw [zdL]; congr 1; omega
  have e3 : wl (c : Int) 8 = ((c * 256 : Nat) : Int) := by rw [zdL]; congr 1; omega
  have o1 : a * 16777216 ||| b * 65536 = (a * 256 + b) * 65536 := by
    rw [zaC (i := 24) (by decide) (by omega)]; omega
  have o2 : (a * 256 + b) * 65536 ||| c * 256 = (a * 65536 + b * 256 + c) * 256 := by
    rw [zaC (i := 16) (by decide) (by omega)]; omega
  have o3 : (a * 65536 + b * 256 + c) * 256 ||| d = wE a b c d := by
    rw [zaC (i := 8) (by decide) (by omega)]; unfold wE; omega
  rw [e1, e2, e3, zdx (by omega) (by omega), o1, zdx (by omega) (by omega), o2, zdx (by omega) (by omega), o3]
def bN (p : List UInt8) (i : Nat) : Nat := (p.getD i 0).toNat
theorem qJ (p : List UInt8) (i : Nat) : bN p i < 256 := UInt8.toNat_lt _
def wdL (p : List UInt8) (t : Nat) : Nat := wE (bN p (4 * t)) (bN p (4 * t + 1)) (bN p (4 * t + 2)) (bN p (4 * t + 3))
theorem js (p : List UInt8) (t : Nat) : wdL p t < 4294967296 := zhf (qJ _ _) (qJ _ _) (qJ _ _) (qJ _ _)
theorem zfa (p : List UInt8) (t : Nat) : x9 p t = ((wdL p t : Nat) : Int) := zhl (qJ _ _) (qJ _ _) (qJ _ _) (qJ _ _)
theorem zaP {x y : List UInt8} {i : Nat} (h : i < x.length) : bN (x ++ y) i = bN x i := by
  unfold bN
  rw [List.getD_eq_getElem?_getD, List.getD_eq_getElem?_getD, List.getElem?_append_left h]
theorem kA {x y : List UInt8} {i : Nat} (h : x.length ≤ i) : bN (x ++ y) i = bN y (i - x.length) := by
  unfold bN
  rw [List.getD_eq_getElem?_getD, List.getD_eq_getElem?_getD, List.getElem?_append_right h]
theorem zk {x y : List UInt8} {t : Nat} (h : 4 * t + 4 ≤ x.length) : wdL (x ++ y) t = wdL x t := by
  unfold wdL; rw [zaP (by omega), zaP (by omega), zaP (by omega), zaP (by omega)]
theorem zd {x y : List UInt8} {t k : Nat} (hx : x.length = 4 * k) (h : k ≤ t) : wdL (x ++ y) t = wdL y (t - k) := by
  unfold wdL
  rw [kA (by omega), kA (by omega), kA (by omega), kA (by omega), hx, show 4 * t - 4 * k = 4 * (t - k) by omega, show 4 * t + 1 - 4 * k = 4 * (t - k) + 1 by omega, show 4 * t + 2 - 4 * k = 4 * (t - k) + 2 by omega, show 4 * t + 3 - 4 * k = 4 * (t - k) + 3 by omega]
theorem zv (b : UInt8) (p : List UInt8) (t : Nat) : wdL (b :: p) (t + 1) = wdL p t % 256 * 16777216 + wdL p (t + 1) / 256 := by
  have e : ∀ i, bN (b :: p) (i + 1) = bN p i := fun i => by unfold bN; rw [List.getD_cons_succ]
  unfold wdL wE
  rw [show 4 * (t + 1) + 1 = 4 * (t + 1) + 0 + 1 by omega, show 4 * (t + 1) = 4 * t + 3 + 1 by omega, e, e, e, e]
  have := qJ p (4 * t + 3 + 1 + 3); have := qJ p (4 * t + 3); have := qJ p (4 * t + 3 + 1 + 1); have := qJ p (4 * t + 3 + 1 + 2)
  simp only [Nat.add_assoc, Nat.reduceAdd, Nat.add_zero] at *
  omega
theorem jt (b : UInt8) (p : List UInt8) : wdL (b :: p) 0 = b.toNat * 16777216 + wdL p 0 / 256 := by
  have e : ∀ i, bN (b :: p) (i + 1) = bN p i := fun i => by unfold bN; rw [List.getD_cons_succ]
  have e0 : bN (b :: p) 0 = b.toNat := rfl
  unfold wdL wE
  rw [show 4 * 0 + 1 = 0 + 1 by rfl, show 4 * 0 + 2 = 1 + 1 by rfl, show 4 * 0 + 3 = 2 + 1 by rfl, e, e, e, show 4 * 0 = 0 from rfl, e0]
  have := qJ p 3
  show _ = _ + (bN p 0 * 16777216 + bN p 1 * 65536 + bN p 2 * 256 + bN p 3) / 256
  omega
theorem zdQ (p : List UInt8) : ∀ c t (w : List Int), w.length = 64 → t + c ≤ 16 → (∀ j, j < t → w.getD j 0 = x9 p j) → (y9 (fun t w => w.set t (x9 p t)) c t w).length = 64 ∧ ∀ j, j < t + c → (y9 (fun t w => w.set t (x9 p t)) c t w).getD j 0 = x9 p j
  | 0, t, w, hl, _, h => ⟨hl, h⟩
  | c + 1, t, w, hl, hc, h => by
    rw [y9]
    have := zdQ p c (t + 1) (w.set t (x9 p t)) (by rw [List.length_set]; exact hl) (by omega) (fun j hj => by
      rw [List.getD_eq_getElem?_getD, List.getElem?_set]
      by_cases e : t = j
      · subst e; rw [if_pos rfl, if_pos (by omega)]; rfl
      · rw [if_neg e, ← List.getD_eq_getElem?_getD]; exact h j (by omega))
    rw [show t + 1 + c = t + (c + 1) by omega] at this
    exact this
theorem zdR (W : Nat → Nat) (hW : ∀ t, t < 16 → W t < 4294967296) : ∀ c t (w : List Int), w.length = 64 → t + 16 + c ≤ 64 → (∀ j, j < t + 16 → w.getD j 0 = ((yx W j : Nat) : Int)) → ∀ j, j < t + 16 + c → (y9 yO c (t + 16) w).getD j 0 = ((yx W j : Nat) : Int)
  | 0, t, w, hl, _, h => h
  | c + 1, t, w, hl, hc, h => by
    rw [y9]
    have := zdR W hW c (t + 1) (yO (t + 16) w) (by unfold yO; rw [List.length_set]; exact hl) (by omega) (fun j hj => by
      unfold yO
      rw [List.getD_eq_getElem?_getD, List.getElem?_set]
      by_cases e : t + 16 = j
      · subst e
        rw [if_pos rfl, if_pos (by omega), show t + 16 - 15 = t + 1 by omega, show t + 16 - 2 = t + 14 by omega, show t + 16 - 7 = t + 9 by omega, Nat.add_sub_cancel, h _ (by omega), h _ (by omega), h _ (by omega), h _ (by omega),
          zgR (qg W hW _) (qg W hW _) (qg W hW _) (qg W hW _), zaZ]; rfl
      · rw [if_neg e, ← List.getD_eq_getElem?_getD]; exact h j (by omega))
    rw [show t + 1 + 16 = t + 16 + 1 by omega, show t + 16 + 1 + c = t + 16 + (c + 1) by omega] at this
    exact this
theorem zgX (p : List UInt8) (t : Nat) (ht : t < 64) : (je (vk p)).getD t 0 = ((yx (wdL p) t : Nat) : Int) := by
  have h1 := zdQ p 16 0 w0L (by simp [w0L]) (by decide) (fun j hj => by omega)
  exact zdR (wdL p) (fun _ _ => js _ _) 48 0 (vk p) h1.1 (by decide) (fun j hj => by
    rw [show vk p = y9 (fun t w => w.set t (x9 p t)) 16 0 w0L from rfl, h1.2 j (by omega), zfa, zaW _ _ (by omega)]) t (by omega)
theorem zcs (W : Nat → Nat) (w : List Int) (hw : ∀ t, t < 64 → w.getD t 0 = ((yx W t : Nat) : Int)) : ∀ (ks : List Nat) (t : Nat) (v : N8), t + ks.length ≤ 64 → (∀ j, j < ks.length → zbn.getD (t + j) 0 = ((ks.getD j 0 : Nat) : Int)) → v.In →
    y9 (fun t v => rnd (zbn.getD t 0) (w.getD t 0) v) ks.length t v.i = (nrs W ks t v).i
  | [], t, v, _, _, _ => by rw [jh]; rfl
  | k :: ks, t, v, hl, hk, hv => by
    rw [List.length_cons] at hl
    rw [List.length_cons, y9, qn]
    have h0 := hk 0 (by simp)
    rw [Nat.add_zero, List.getD_cons_zero] at h0
    rw [h0, hw t (by omega), zjb hv]
    exact zcs W w hw ks (t + 1) _ (by omega) (fun j hj => by
      have := hk (j + 1) (by rw [List.length_cons]; omega)
      rw [List.getD_cons_succ] at this
      rw [show t + 1 + j = t + (j + 1) by omega]; exact this) (zdq hv)
theorem wb {w w' : Nat → Nat} (h : ∀ t, t < 16 → w t = w' t) : ∀ t j, j < t + 16 → wsS w t j = wsS w' t j
  | 0, j, hj => h j (by omega)
  | t + 1, j, hj => by
    rw [wsS, wsS]
    by_cases e : j = t + 16
    · rw [if_pos e, if_pos e, wb h t _ (by omega), wb h t _ (by omega), wb h t _ (by omega), wb h t _ (by omega)]
    · rw [if_neg e, if_neg e, wb h t _ (by omega)]
theorem zbX {w w' : Nat → Nat} (h : ∀ t, t < 16 → w t = w' t) : ∀ (ks : List Nat) (t : Nat) (v : N8), nrs w ks t v = nrs w' ks t v
  | [], _, _ => by rw [jh, jh]
  | k :: ks, t, v => by
    have e : yx w t = yx w' t := wb h t t (by omega)
    rw [qn, qn, zbX h ks, e]
theorem zeA (v : N8) {w w' : Nat → Nat} (h : ∀ t, t < 16 → w t = w' t) : xl v w = xl v w' := by
  unfold xl
  rw [zbX h]
theorem zhd : ∀ j, j < vb.length → zbn.getD (0 + j) 0 = ((vb.getD j 0 : Nat) : Int) := by decide
theorem zgC {h : N8} (hh : h.In) (p : List UInt8) : zdG h.i p = (xl h (wdL p)).i := by
  have h1 := zcs (wdL p) (je (vk p)) (zgX p) vb 0 h (by decide) zhd hh
  have e : zas (je (vk p)) h.i = (nrs (wdL p) vb 0 h).i := h1
  unfold zdG xl
  rw [e]
  generalize nrs (wdL p) vb 0 h = q
  unfold ki N8.i
  simp only [zcm]
def hN : N8 := ⟨0x6a09e667, 0xbb67ae85, 0x3c6ef372, 0xa54ff53a, 0x510e527f, 0x9b05688c, 0x1f83d9ab, 0x5be0cd19⟩
theorem zk5 : hN.i = zdF := rfl
theorem zfj : hN.In := by unfold hN N8.In; decide
def nGo : Nat → N8 → List UInt8 → N8
  | 0, h, _ => h
  | n + 1, h, p => nGo n (xl h (wdL p)) (p.drop 64)
theorem xU (n : Nat) (h : N8) (p : List UInt8) : nGo (n + 1) h p = nGo n (xl h (wdL p)) (p.drop 64) := by rw [nGo]
theorem wP (h : N8) (p : List UInt8) : nGo 0 h p = h := by rw [nGo]
theorem zbu : ∀ (n : Nat) (h : N8) (p : List UInt8), h.In → xD n h.i p = (nGo n h p).i ∧ (nGo n h p).In
  | 0, h, p, hh => by rw [wP]; exact ⟨rfl, hh⟩
  | n + 1, h, p, hh => by
    rw [xD, zgC hh, xU]
    exact zbu n _ _ (zaS _ _)
theorem qG (b : Nat) (y : List UInt8) : ∀ (a : Nat) (h : N8) (x : List UInt8), x.length = 64 * a → nGo (a + b) h (x ++ y) = nGo b (nGo a h x) y
  | 0, h, x, hx => by
    obtain rfl := List.eq_nil_of_length_eq_zero (by omega : x.length = 0)
    rw [Nat.zero_add, wP, List.nil_append]
  | a + 1, h, x, hx => by
    have e : xl h (wdL (x ++ y)) = xl h (wdL x) := zeA h fun t ht => zk (by omega)
    rw [show a + 1 + b = (a + b) + 1 by omega, xU, xU, List.drop_append_of_le_length (by omega), e]
    exact qG b y a _ _ (by rw [List.length_drop]; omega)
def wd (s : ByteArray) (t : Nat) : Nat := wdL s.data.toList t
theorem yu (s : ByteArray) (t : Nat) : wd s t < 4294967296 := js _ _
def N8.l (v : N8) : List Nat := [v.a, v.b, v.c, v.d, v.e, v.f, v.g, v.h]
theorem vg (x : Nat) (hx : x < 4294967296) (y : List UInt8) : wdL (w4 (x : Int) ++ y) 0 = x := by
  have e : w4 (x : Int) = [UInt8.ofNat (x / 256 ^ 3), UInt8.ofNat (x / 256 ^ 2), UInt8.ofNat (x / 256 ^ 1), UInt8.ofNat (x / 256 ^ 0)] := rfl
  rw [e]
  show wE (UInt8.ofNat (x / 256 ^ 3)).toNat (UInt8.ofNat (x / 256 ^ 2)).toNat (UInt8.ofNat (x / 256 ^ 1)).toNat (UInt8.ofNat (x / 256 ^ 0)).toNat = x
  simp only [UInt8.toNat_ofNat']
  unfold wE
  omega
theorem zg9 (v : N8) (hv : v.In) : ∀ j, j < 8 → wdL v.i.out j = v.l.getD j 0 := by
  obtain ⟨h1, h2, h3, h4, h5, h6, h7, h8⟩ := hv
  have e : v.i.out = w4 (v.a : Int) ++ (w4 (v.b : Int) ++ (w4 (v.c : Int) ++ (w4 (v.d : Int) ++ (w4 (v.e : Int) ++ (w4 (v.f : Int) ++ (w4 (v.g : Int) ++ (w4 (v.h : Int) ++ []))))))) := by
    show w4 (v.a : Int) ++ w4 (v.b : Int) ++ w4 (v.c : Int) ++ w4 (v.d : Int) ++ w4 (v.e : Int) ++ w4 (v.f : Int) ++ w4 (v.g : Int) ++ w4 (v.h : Int) = _
    simp only [List.append_assoc, List.append_nil]
  have r : ∀ (x : Int) (y : List UInt8) (t : Nat), wdL (w4 x ++ y) (t + 1) = wdL y t := fun x y t => by
    rw [zd (k := 1) (zhN x) (by omega), Nat.add_sub_cancel]
  intro j hj
  rw [e]
  have : j = 0 ∨ j = 1 ∨ j = 2 ∨ j = 3 ∨ j = 4 ∨ j = 5 ∨ j = 6 ∨ j = 7 := by omega
  rcases this with rfl | rfl | rfl | rfl | rfl | rfl | rfl | rfl
  · rw [vg _ h1]; rfl
  · rw [r, vg _ h2]; rfl
  · rw [r, r, vg _ h3]; rfl
  · rw [r, r, r, vg _ h4]; rfl
  · rw [r, r, r, r, vg _ h5]; rfl
  · rw [r, r, r, r, r, vg _ h6]; rfl
  · rw [r, r, r, r, r, r, vg _ h7]; rfl
  · rw [r, r, r, r, r, r, r, vg _ h8]; rfl
theorem zgg (s : ByteArray) (n : Nat) (hn : (zJ s.data.toList).length = 64 * n) (j : Nat) (hj : j < 8) : wd (sha s) j = (nGo n hN (zJ s.data.toList)).l.getD j 0 := by
  obtain ⟨h1, h2⟩ := zbu n hN (zJ s.data.toList) zfj
  unfold wd sha
  rw [xH, zhE, hn, Nat.mul_div_cancel_left _ (by decide), ← zk5, h1]
  exact zg9 _ h2 j hj
theorem yy (c n : Nat) : Nat.mul (vO n) c = vN (fun _ => c) n := by
  show vN _ n * c = _
  rw [yM]; exact zb n (fun _ _ => Nat.one_mul _)
theorem zu : ∀ n, vN (fun _ => 0) n = 0
  | 0 => rfl
  | n + 1 => by rw [vN, zu n]; simp
theorem qv (a b : ByteArray) : (a ++ b).data.toList = a.data.toList ++ b.data.toList := by simp
theorem ze (a : ByteArray) : a.data.toList.length = a.size := Array.length_toList
theorem zcy (X Y : List UInt8) (k m b : Nat) (hX : X.length = 4 * k) (hm : (119 - (4 * k + Y.length) % 64) % 64 = m) (hb : 8 * (4 * k + Y.length) = b) : zJ (X ++ Y) = X ++ (Y ++ 128 :: (List.replicate m 0 ++ xo 8 b)) := by
  unfold zJ wg
  rw [List.length_append, hX, hm, hb, List.append_assoc]
theorem zdE (X : List UInt8) (a c : UInt8) (k m b : Nat) (hX : X.length = 4 * k) (hm : (119 - (4 * k + 2) % 64) % 64 = m + 1) (hb : 8 * (4 * k + 2) = b) : zJ (X ++ [a, c]) = X ++ ([a, c, 128, 0] ++ (List.replicate m 0 ++ xo 8 b)) :=
  zcy X [a, c] k (m + 1) b hX hm hb
theorem zhc (X : List UInt8) (a : UInt8) (k m b : Nat) (hX : X.length = 4 * k) (hm : (119 - (4 * k + 1) % 64) % 64 = m + 2) (hb : 8 * (4 * k + 1) = b) : zJ (X ++ [a]) = X ++ ([a, 128, 0, 0] ++ (List.replicate m 0 ++ xo 8 b)) :=
  zcy X [a] k (m + 2) b hX hm hb
theorem zf (a b c d : UInt8) (y : List UInt8) (t : Nat) : wdL ([a, b, c, d] ++ y) (t + 1) = wdL y t := by
  rw [zd (k := 1) rfl (by omega), Nat.add_sub_cancel]
theorem yF (a b c d : UInt8) (y : List UInt8) : wdL ([a, b, c, d] ++ y) 0 = wE a.toNat b.toNat c.toNat d.toNat := rfl
theorem zbk (b : UInt8) (X : List UInt8) (k m n : Nat) (hX : X.length = 4 * k) (hm : (119 - (4 * k + 1) % 64) % 64 = m) (hn : 8 * (4 * k + 1) = n) : zJ (b :: X) = b :: (X ++ 128 :: (List.replicate m 0 ++ xo 8 n)) := by
  unfold zJ wg
  rw [List.length_cons, hX, hm, hn, List.cons_append]
theorem zkz (v : N8) : v.l.getD 0 0 = v.a := rfl
theorem zkH (v : N8) : v.l.getD 1 0 = v.b := rfl
theorem zkC (v : N8) : v.l.getD 2 0 = v.c := rfl
theorem zkT (v : N8) : v.l.getD 3 0 = v.d := rfl
theorem zkY (v : N8) : v.l.getD 4 0 = v.e := rfl
theorem zkZ (v : N8) : v.l.getD 5 0 = v.f := rfl
theorem zk2 (v : N8) : v.l.getD 6 0 = v.g := rfl
theorem zk0 (v : N8) : v.l.getD 7 0 = v.h := rfl
theorem zfn (c p : Nat) (hc : c < 256) (hp : p < 256) : (zK (c : Int) (p : Int)).data.toList = [UInt8.ofNat c, UInt8.ofNat p] := by
  have e : ∀ x : Nat, x < 256 → (IntKind.u8.wrap (x : Int)).toNat = x := fun x hx => by
    simp only [IntKind.wrap, IntKind.bits, IntKind.signed, Bool.false_and, Bool.false_eq_true, if_false]; omega
  unfold zK qq
  rw [strOfNums_data]
  simp [T.num, e c hc, e p hp]
theorem zb4 (c p : Nat) (hc : c < 256) (hp : p < 256) (y : List UInt8) : wdL ([UInt8.ofNat c, UInt8.ofNat p, 128, 0] ++ y) 0 = c * 16777216 + p * 65536 + 32768 := by
  rw [yF, UInt8.toNat_ofNat', UInt8.toNat_ofNat', show (128 : UInt8).toNat = 128 from rfl, show (0 : UInt8).toNat = 0 from rfl]
  unfold wE; omega
theorem zkO (c : Nat) (hc : c < 256) : (byS (c : Int)).data.toList = [UInt8.ofNat c] := by
  have e : ∀ x : Nat, x < 256 → (IntKind.u8.wrap (x : Int)).toNat = x := fun x hx => by
    simp only [IntKind.wrap, IntKind.bits, IntKind.signed, Bool.false_and, Bool.false_eq_true, if_false]; omega
  unfold byS qq
  rw [strOfNums_data]
  simp [T.num, e c hc]
theorem ziM (c : Nat) (hc : c < 256) (y : List UInt8) : wdL ([UInt8.ofNat c, 128, 0, 0] ++ y) 0 = c * 16777216 + 8388608 := by
  rw [yF, UInt8.toNat_ofNat', show (128 : UInt8).toNat = 128 from rfl, show (0 : UInt8).toNat = 0 from rfl]
  unfold wE; omega
theorem xx {n : Nat} {f : Nat → Nat} (h : ∀ i, i < n → f i < 4294967296) : Nat.land (Nat.shiftRight (vN f n) 8) (vM n) = vN (fun i => f i / 256) n := by
  have := vL (jn (n := n) (f := f) (fun i hi => by have := h i hi; omega) (show 8 ≤ 32 by decide))
  refine Eq.trans this (zb n fun i hi => ?_)
  have := h i hi
  show (f i >>> 8) % 4294967296 = f i / 256
  rw [Nat.shiftRight_eq_div_pow]; omega
theorem xy {n : Nat} {f : Nat → Nat} (h : ∀ i, i < n → f i < 4294967296) : Nat.land (vN f n) (Nat.mul (vO n) 255) = vN (fun i => f i % 256) n := by
  rw [yy]
  have := (qR (n := n) (f := f) (g := fun _ => 255) (fun i hi => by have := h i hi; omega) (fun _ _ => by decide)).2
  refine Eq.trans this (zb n fun i hi => ?_)
  exact Nat.and_two_pow_sub_one_eq_mod (f i) 8
def sC0 (M O : Nat) (k : Nat → Nat → Nat → Nat → Nat → Nat → Nat → Nat → Bool) (w0 w1 w2 w3 w4 w5 w6 w7 w8 w9 w10 w11 w12 w13 w14 w15 : Nat) : Bool := sC M O k (Nat.mul O hN.a) (Nat.mul O hN.b) (Nat.mul O hN.c) (Nat.mul O hN.d) (Nat.mul O hN.e) (Nat.mul O hN.f) (Nat.mul O hN.g) (Nat.mul O hN.h) w0 w1 w2 w3 w4 w5 w6 w7 w8 w9 w10 w11 w12 w13 w14 w15
theorem qy {n : Nat} (s : Nat → ByteArray) (hs : ∀ i, i < n → (zJ (s i).data.toList).length = 64) (k : Nat → Nat → Nat → Nat → Nat → Nat → Nat → Nat → Bool) :
    sC0 (vM n) (vO n) k (vN (fun i => wdL (zJ (s i).data.toList) 0) n) (vN (fun i => wdL (zJ (s i).data.toList) 1) n) (vN (fun i => wdL (zJ (s i).data.toList) 2) n) (vN (fun i => wdL (zJ (s i).data.toList) 3) n) (vN (fun i => wdL (zJ (s i).data.toList) 4) n) (vN (fun i => wdL (zJ (s i).data.toList) 5) n) (vN (fun i => wdL (zJ (s i).data.toList) 6) n) (vN (fun i => wdL (zJ (s i).data.toList) 7) n) (vN (fun i => wdL (zJ (s i).data.toList) 8) n) (vN (fun i => wdL (zJ (s i).data.toList) 9) n) (vN (fun i => wdL (zJ (s i).data.toList) 10) n) (vN (fun i => wdL (zJ (s i).data.toList) 11) n) (vN (fun i => wdL (zJ (s i).data.toList) 12) n) (vN (fun i => wdL (zJ (s i).data.toList) 13) n) (vN (fun i => wdL (zJ (s i).data.toList) 14) n) (vN (fun i => wdL (zJ (s i).data.toList) 15) n) =
    k (vN (fun i => wd (sha (s i)) 0) n) (vN (fun i => wd (sha (s i)) 1) n) (vN (fun i => wd (sha (s i)) 2) n) (vN (fun i => wd (sha (s i)) 3) n) (vN (fun i => wd (sha (s i)) 4) n) (vN (fun i => wd (sha (s i)) 5) n) (vN (fun i => wd (sha (s i)) 6) n) (vN (fun i => wd (sha (s i)) 7) n) := by
  have e : ∀ j, j < 8 → ∀ i, i < n → wd (sha (s i)) j = (xl hN (wdL (zJ (s i).data.toList))).l.getD j 0 := fun j hj i hi => by
    rw [zgg (s i) 1 (by rw [hs i hi]) j hj, xU, wP]
  have e0 : vN (fun i => wd (sha (s i)) 0) n = vN (fun i => (xl hN (wdL (zJ (s i).data.toList))).a) n := zb n fun i hi => (e 0 (by decide) i hi).trans (zkz _)
  have e1 : vN (fun i => wd (sha (s i)) 1) n = vN (fun i => (xl hN (wdL (zJ (s i).data.toList))).b) n := zb n fun i hi => (e 1 (by decide) i hi).trans (zkH _)
  have e2 : vN (fun i => wd (sha (s i)) 2) n = vN (fun i => (xl hN (wdL (zJ (s i).data.toList))).c) n := zb n fun i hi => (e 2 (by decide) i hi).trans (zkC _)
  have e3 : vN (fun i => wd (sha (s i)) 3) n = vN (fun i => (xl hN (wdL (zJ (s i).data.toList))).d) n := zb n fun i hi => (e 3 (by decide) i hi).trans (zkT _)
  have e4 : vN (fun i => wd (sha (s i)) 4) n = vN (fun i => (xl hN (wdL (zJ (s i).data.toList))).e) n := zb n fun i hi => (e 4 (by decide) i hi).trans (zkY _)
  have e5 : vN (fun i => wd (sha (s i)) 5) n = vN (fun i => (xl hN (wdL (zJ (s i).data.toList))).f) n := zb n fun i hi => (e 5 (by decide) i hi).trans (zkZ _)
  have e6 : vN (fun i => wd (sha (s i)) 6) n = vN (fun i => (xl hN (wdL (zJ (s i).data.toList))).g) n := zb n fun i hi => (e 6 (by decide) i hi).trans (zk2 _)
  have e7 : vN (fun i => wd (sha (s i)) 7) n = vN (fun i => (xl hN (wdL (zJ (s i).data.toList))).h) n := zb n fun i hi => (e 7 (by decide) i hi).trans (zk0 _)
  rw [e0, e1, e2, e3, e4, e5, e6, e7]
  unfold sC0
  simp only [yy]
  exact zfl (h := fun _ => hN) (W := fun i t => wdL (zJ (s i).data.toList) t) (fun _ _ => zfj) (fun _ _ _ _ => js _ _) k
theorem yl (s : ByteArray) (j : Nat) (hj : j < 4) : wd (zL s) j = wd (sha s) j := by
  have h : (sha s).data.toList = (zL s).data.toList ++ (sha s).data.toList.drop 16 := by
    unfold zL
    have := yJ (sha s).data.toList 0 16
    rw [wX] at this
    rw [this, xH, List.drop_zero, List.take_append_drop]
  unfold wd
  rw [h, zk (by rw [ze, yH]; omega)]
def zgk (M O c p : Nat) (k : Nat → Nat → Nat → Nat → Bool) (x0 x1 x2 x3 : Nat) : Bool := sC0 M O (fun y0 y1 y2 y3 _ _ _ _ => k y0 y1 y2 y3) x0 x1 x2 x3 (Nat.mul O (c * 16777216 + p * 65536 + 32768)) 0 0 0 0 0 0 0 0 0 0 (Nat.mul O (144))
theorem zaU {n : Nat} (c p : Nat) (hc : c < 256) (hp : p < 256) {g : Nat → ByteArray} (hg : ∀ i, i < n → (g i).size = 16) (k : Nat → Nat → Nat → Nat → Bool) :
    zgk (vM n) (vO n) c p k (vN (fun i => wd (g i) 0) n) (vN (fun i => wd (g i) 1) n) (vN (fun i => wd (g i) 2) n) (vN (fun i => wd (g i) 3) n) = k (vN (fun i => wd (vQ (g i) (c : Int) (p : Int)) 0) n) (vN (fun i => wd (vQ (g i) (c : Int) (p : Int)) 1) n) (vN (fun i => wd (vQ (g i) (c : Int) (p : Int)) 2) n) (vN (fun i => wd (vQ (g i) (c : Int) (p : Int)) 3) n) := by
  have pd : ∀ i, i < n → zJ ((g i ++ zK (c : Int) (p : Int)).data.toList) = (g i).data.toList ++ ([UInt8.ofNat c, UInt8.ofNat p, 128, 0] ++ (List.replicate 36 0 ++ xo 8 144)) := fun i hi => by
    rw [qv, zfn c p hc hp]; exact zdE _ _ _ 4 36 144 (by rw [ze, hg i hi]) rfl rfl
  have h := qy (n := n) (fun i => g i ++ zK (c : Int) (p : Int)) (fun i hi => by rw [pd i hi]; simp [hg i hi, xC]) (fun y0 y1 y2 y3 _ _ _ _ => k y0 y1 y2 y3)
  have e0 : vN (fun i => wdL (zJ (g i ++ zK (c : Int) (p : Int)).data.toList) 0) n = (vN (fun i => wd (g i) 0) n) := by
    refine zb n fun i hi => ?_
    rw [pd i hi, zk (by rw [ze, hg i hi]; omega)]; rfl
  have e1 : vN (fun i => wdL (zJ (g i ++ zK (c : Int) (p : Int)).data.toList) 1) n = (vN (fun i => wd (g i) 1) n) := by
    refine zb n fun i hi => ?_
    rw [pd i hi, zk (by rw [ze, hg i hi]; omega)]; rfl
  have e2 : vN (fun i => wdL (zJ (g i ++ zK (c : Int) (p : Int)).data.toList) 2) n = (vN (fun i => wd (g i) 2) n) := by
    refine zb n fun i hi => ?_
    rw [pd i hi, zk (by rw [ze, hg i hi]; omega)]; rfl
  have e3 : vN (fun i => wdL (zJ (g i ++ zK (c : Int) (p : Int)).data.toList) 3) n = (vN (fun i => wd (g i) 3) n) := by
    refine zb n fun i hi => ?_
    rw [pd i hi, zk (by rw [ze, hg i hi]; omega)]; rfl
  have e4 : vN (fun i => wdL (zJ (g i ++ zK (c : Int) (p : Int)).data.toList) 4) n = Nat.mul (vO n) (c * 16777216 + p * 65536 + 32768) := by
    rw [yy]; refine zb n fun i hi => ?_
    rw [pd i hi]
    rw [zd (k := 4) (by rw [ze, hg i hi]) (by decide)]; exact zb4 c p hc hp _
  have e5 : vN (fun i => wdL (zJ (g i ++ zK (c : Int) (p : Int)).data.toList) 5) n = 0 := by
    rw [← zu n]; refine zb n fun i hi => ?_
    rw [pd i hi]
    rw [zd (k := 4) (by rw [ze, hg i hi]) (by decide)]; exact (zf _ _ _ _ _ 0).trans (by decide +kernel)
  have e6 : vN (fun i => wdL (zJ (g i ++ zK (c : Int) (p : Int)).data.toList) 6) n = 0 := by
    rw [← zu n]; refine zb n fun i hi => ?_
    rw [pd i hi]
    rw [zd (k := 4) (by rw [ze, hg i hi]) (by decide)]; exact (zf _ _ _ _ _ 1).trans (by decide +kernel)
  have e7 : vN (fun i => wdL (zJ (g i ++ zK (c : Int) (p : Int)).data.toList) 7) n = 0 := by
    rw [← zu n]; refine zb n fun i hi => ?_
    rw [pd i hi]
    rw [zd (k := 4) (by rw [ze, hg i hi]) (by decide)]; exact (zf _ _ _ _ _ 2).trans (by decide +kernel)
  have e8 : vN (fun i => wdL (zJ (g i ++ zK (c : Int) (p : Int)).data.toList) 8) n = 0 := by
    rw [← zu n]; refine zb n fun i hi => ?_
    rw [pd i hi]
    rw [zd (k := 4) (by rw [ze, hg i hi]) (by decide)]; exact (zf _ _ _ _ _ 3).trans (by decide +kernel)
  have e9 : vN (fun i => wdL (zJ (g i ++ zK (c : Int) (p : Int)).data.toList) 9) n = 0 := by
    rw [← zu n]; refine zb n fun i hi => ?_
    rw [pd i hi]
    rw [zd (k := 4) (by rw [ze, hg i hi]) (by decide)]; exact (zf _ _ _ _ _ 4).trans (by decide +kernel)
  have e10 : vN (fun i => wdL (zJ (g i ++ zK (c : Int) (p : Int)).data.toList) 10) n = 0 := by
    rw [← zu n]; refine zb n fun i hi => ?_
    rw [pd i hi]
    rw [zd (k := 4) (by rw [ze, hg i hi]) (by decide)]; exact (zf _ _ _ _ _ 5).trans (by decide +kernel)
  have e11 : vN (fun i => wdL (zJ (g i ++ zK (c : Int) (p : Int)).data.toList) 11) n = 0 := by
    rw [← zu n]; refine zb n fun i hi => ?_
    rw [pd i hi]
    rw [zd (k := 4) (by rw [ze, hg i hi]) (by decide)]; exact (zf _ _ _ _ _ 6).trans (by decide +kernel)
  have e12 : vN (fun i => wdL (zJ (g i ++ zK (c : Int) (p : Int)).data.toList) 12) n = 0 := by
    rw [← zu n]; refine zb n fun i hi => ?_
    rw [pd i hi]
    rw [zd (k := 4) (by rw [ze, hg i hi]) (by decide)]; exact (zf _ _ _ _ _ 7).trans (by decide +kernel)
  have e13 : vN (fun i => wdL (zJ (g i ++ zK (c : Int) (p : Int)).data.toList) 13) n = 0 := by
    rw [← zu n]; refine zb n fun i hi => ?_
    rw [pd i hi]
    rw [zd (k := 4) (by rw [ze, hg i hi]) (by decide)]; exact (zf _ _ _ _ _ 8).trans (by decide +kernel)
  have e14 : vN (fun i => wdL (zJ (g i ++ zK (c : Int) (p : Int)).data.toList) 14) n = 0 := by
    rw [← zu n]; refine zb n fun i hi => ?_
    rw [pd i hi]
    rw [zd (k := 4) (by rw [ze, hg i hi]) (by decide)]; exact (zf _ _ _ _ _ 9).trans (by decide +kernel)
  have e15 : vN (fun i => wdL (zJ (g i ++ zK (c : Int) (p : Int)).data.toList) 15) n = Nat.mul (vO n) (144) := by
    rw [yy]; refine zb n fun i hi => ?_
    rw [pd i hi]
    rw [zd (k := 4) (by rw [ze, hg i hi]) (by decide)]; exact (zf _ _ _ _ _ 10).trans (by decide +kernel)
  rw [e0, e1, e2, e3, e4, e5, e6, e7, e8, e9, e10, e11, e12, e13, e14, e15] at h
  unfold zgk
  rw [h]
  rw [(zb n fun i _ => (yl (g i ++ zK (c : Int) (p : Int)) 0 (by decide)).symm : vN (fun i => wd (sha (g i ++ zK (c : Int) (p : Int))) 0) n = vN (fun i => wd (zL (g i ++ zK (c : Int) (p : Int))) 0) n), (zb n fun i _ => (yl (g i ++ zK (c : Int) (p : Int)) 1 (by decide)).symm : vN (fun i => wd (sha (g i ++ zK (c : Int) (p : Int))) 1) n = vN (fun i => wd (zL (g i ++ zK (c : Int) (p : Int))) 1) n), (zb n fun i _ => (yl (g i ++ zK (c : Int) (p : Int)) 2 (by decide)).symm : vN (fun i => wd (sha (g i ++ zK (c : Int) (p : Int))) 2) n = vN (fun i => wd (zL (g i ++ zK (c : Int) (p : Int))) 2) n), (zb n fun i _ => (yl (g i ++ zK (c : Int) (p : Int)) 3 (by decide)).symm : vN (fun i => wd (sha (g i ++ zK (c : Int) (p : Int))) 3) n = vN (fun i => wd (zL (g i ++ zK (c : Int) (p : Int))) 3) n)]
  all_goals rfl
def zkG (M O c : Nat) (k : Nat → Nat → Nat → Nat → Bool) (x0 x1 x2 x3 x4 x5 x6 x7 : Nat) : Bool := sC0 M O (fun y0 y1 y2 y3 _ _ _ _ => k y0 y1 y2 y3) x0 x1 x2 x3 x4 x5 x6 x7 (Nat.mul O (2147483648 + c * 65536 + 32768)) 0 0 0 0 0 0 (Nat.mul O (272))
theorem zhT {n : Nat} (c : Nat) (hc : c < 256) {g : Nat → ByteArray} (hg : ∀ i, i < n → (g i).size = 32) (k : Nat → Nat → Nat → Nat → Bool) :
    zkG (vM n) (vO n) c k (vN (fun i => wd (g i) 0) n) (vN (fun i => wd (g i) 1) n) (vN (fun i => wd (g i) 2) n) (vN (fun i => wd (g i) 3) n) (vN (fun i => wd (g i) 4) n) (vN (fun i => wd (g i) 5) n) (vN (fun i => wd (g i) 6) n) (vN (fun i => wd (g i) 7) n) = k (vN (fun i => wd (zeY (g i) (c : Int)) 0) n) (vN (fun i => wd (zeY (g i) (c : Int)) 1) n) (vN (fun i => wd (zeY (g i) (c : Int)) 2) n) (vN (fun i => wd (zeY (g i) (c : Int)) 3) n) := by
  have pd : ∀ i, i < n → zJ ((g i ++ zK 128 (c : Int)).data.toList) = (g i).data.toList ++ ([UInt8.ofNat 128, UInt8.ofNat c, 128, 0] ++ (List.replicate 20 0 ++ xo 8 272)) := fun i hi => by
    rw [qv, show (128 : Int) = ((128 : Nat) : Int) from rfl, zfn 128 c (by decide) hc]; exact zdE _ _ _ 8 20 272 (by rw [ze, hg i hi]) rfl rfl
  have h := qy (n := n) (fun i => g i ++ zK 128 (c : Int)) (fun i hi => by rw [pd i hi]; simp [hg i hi, xC]) (fun y0 y1 y2 y3 _ _ _ _ => k y0 y1 y2 y3)
  have e0 : vN (fun i => wdL (zJ (g i ++ zK 128 (c : Int)).data.toList) 0) n = (vN (fun i => wd (g i) 0) n) := by
    refine zb n fun i hi => ?_
    rw [pd i hi, zk (by rw [ze, hg i hi]; omega)]; rfl
  have e1 : vN (fun i => wdL (zJ (g i ++ zK 128 (c : Int)).data.toList) 1) n = (vN (fun i => wd (g i) 1) n) := by
    refine zb n fun i hi => ?_
    rw [pd i hi, zk (by rw [ze, hg i hi]; omega)]; rfl
  have e2 : vN (fun i => wdL (zJ (g i ++ zK 128 (c : Int)).data.toList) 2) n = (vN (fun i => wd (g i) 2) n) := by
    refine zb n fun i hi => ?_
    rw [pd i hi, zk (by rw [ze, hg i hi]; omega)]; rfl
  have e3 : vN (fun i => wdL (zJ (g i ++ zK 128 (c : Int)).data.toList) 3) n = (vN (fun i => wd (g i) 3) n) := by
    refine zb n fun i hi => ?_
    rw [pd i hi, zk (by rw [ze, hg i hi]; omega)]; rfl
  have e4 : vN (fun i => wdL (zJ (g i ++ zK 128 (c : Int)).data.toList) 4) n = (vN (fun i => wd (g i) 4) n) := by
    refine zb n fun i hi => ?_
    rw [pd i hi, zk (by rw [ze, hg i hi]; omega)]; rfl
  have e5 : vN (fun i => wdL (zJ (g i ++ zK 128 (c : Int)).data.toList) 5) n = (vN (fun i => wd (g i) 5) n) := by
    refine zb n fun i hi => ?_
    rw [pd i hi, zk (by rw [ze, hg i hi]; omega)]; rfl
  have e6 : vN (fun i => wdL (zJ (g i ++ zK 128 (c : Int)).data.toList) 6) n = (vN (fun i => wd (g i) 6) n) := by
    refine zb n fun i hi => ?_
    rw [pd i hi, zk (by rw [ze, hg i hi]; omega)]; rfl
  have e7 : vN (fun i => wdL (zJ (g i ++ zK 128 (c : Int)).data.toList) 7) n = (vN (fun i => wd (g i) 7) n) := by
    refine zb n fun i hi => ?_
    rw [pd i hi, zk (by rw [ze, hg i hi]; omega)]; rfl
  have e8 : vN (fun i => wdL (zJ (g i ++ zK 128 (c : Int)).data.toList) 8) n = Nat.mul (vO n) (2147483648 + c * 65536 + 32768) := by
    rw [yy]; refine zb n fun i hi => ?_
    rw [pd i hi]
    rw [zd (k := 8) (by rw [ze, hg i hi]) (by decide)]; exact (zb4 128 c (by decide) hc _).trans (by omega)
  have e9 : vN (fun i => wdL (zJ (g i ++ zK 128 (c : Int)).data.toList) 9) n = 0 := by
    rw [← zu n]; refine zb n fun i hi => ?_
    rw [pd i hi]
    rw [zd (k := 8) (by rw [ze, hg i hi]) (by decide)]; exact (zf _ _ _ _ _ 0).trans (by decide +kernel)
  have e10 : vN (fun i => wdL (zJ (g i ++ zK 128 (c : Int)).data.toList) 10) n = 0 := by
    rw [← zu n]; refine zb n fun i hi => ?_
    rw [pd i hi]
    rw [zd (k := 8) (by rw [ze, hg i hi]) (by decide)]; exact (zf _ _ _ _ _ 1).trans (by decide +kernel)
  have e11 : vN (fun i => wdL (zJ (g i ++ zK 128 (c : Int)).data.toList) 11) n = 0 := by
    rw [← zu n]; refine zb n fun i hi => ?_
    rw [pd i hi]
    rw [zd (k := 8) (by rw [ze, hg i hi]) (by decide)]; exact (zf _ _ _ _ _ 2).trans (by decide +kernel)
  have e12 : vN (fun i => wdL (zJ (g i ++ zK 128 (c : Int)).data.toList) 12) n = 0 := by
    rw [← zu n]; refine zb n fun i hi => ?_
    rw [pd i hi]
    rw [zd (k := 8) (by rw [ze, hg i hi]) (by decide)]; exact (zf _ _ _ _ _ 3).trans (by decide +kernel)
  have e13 : vN (fun i => wdL (zJ (g i ++ zK 128 (c : Int)).data.toList) 13) n = 0 := by
    rw [← zu n]; refine zb n fun i hi => ?_
    rw [pd i hi]
    rw [zd (k := 8) (by rw [ze, hg i hi]) (by decide)]; exact (zf _ _ _ _ _ 4).trans (by decide +kernel)
  have e14 : vN (fun i => wdL (zJ (g i ++ zK 128 (c : Int)).data.toList) 14) n = 0 := by
    rw [← zu n]; refine zb n fun i hi => ?_
    rw [pd i hi]
    rw [zd (k := 8) (by rw [ze, hg i hi]) (by decide)]; exact (zf _ _ _ _ _ 5).trans (by decide +kernel)
  have e15 : vN (fun i => wdL (zJ (g i ++ zK 128 (c : Int)).data.toList) 15) n = Nat.mul (vO n) (272) := by
    rw [yy]; refine zb n fun i hi => ?_
    rw [pd i hi]
    rw [zd (k := 8) (by rw [ze, hg i hi]) (by decide)]; exact (zf _ _ _ _ _ 6).trans (by decide +kernel)
  rw [e0, e1, e2, e3, e4, e5, e6, e7, e8, e9, e10, e11, e12, e13, e14, e15] at h
  unfold zkG
  rw [h]
  rw [(zb n fun i _ => (yl (g i ++ zK 128 (c : Int)) 0 (by decide)).symm : vN (fun i => wd (sha (g i ++ zK 128 (c : Int))) 0) n = vN (fun i => wd (zL (g i ++ zK 128 (c : Int))) 0) n), (zb n fun i _ => (yl (g i ++ zK 128 (c : Int)) 1 (by decide)).symm : vN (fun i => wd (sha (g i ++ zK 128 (c : Int))) 1) n = vN (fun i => wd (zL (g i ++ zK 128 (c : Int))) 1) n), (zb n fun i _ => (yl (g i ++ zK 128 (c : Int)) 2 (by decide)).symm : vN (fun i => wd (sha (g i ++ zK 128 (c : Int))) 2) n = vN (fun i => wd (zL (g i ++ zK 128 (c : Int))) 2) n), (zb n fun i _ => (yl (g i ++ zK 128 (c : Int)) 3 (by decide)).symm : vN (fun i => wd (sha (g i ++ zK 128 (c : Int))) 3) n = vN (fun i => wd (zL (g i ++ zK 128 (c : Int))) 3) n)]
  all_goals rfl
def fLf (M O  : Nat) (k : Nat → Nat → Nat → Nat → Bool) (x0 x1 x2 x3 : Nat) : Bool := sC0 M O (fun y0 y1 y2 y3 _ _ _ _ => k y0 y1 y2 y3) (Nat.add (Nat.mul O (0)) (Nat.land (Nat.shiftRight x0 8) M)) (Nat.add (Nat.mul (Nat.land x0 (Nat.mul O 255)) 16777216) (Nat.land (Nat.shiftRight x1 8) M)) (Nat.add (Nat.mul (Nat.land x1 (Nat.mul O 255)) 16777216) (Nat.land (Nat.shiftRight x2 8) M)) (Nat.add (Nat.mul (Nat.land x2 (Nat.mul O 255)) 16777216) (Nat.land (Nat.shiftRight x3 8) M)) (Nat.add (Nat.mul (Nat.land x3 (Nat.mul O 255)) 16777216) (Nat.mul O 8388608)) 0 0 0 0 0 0 0 0 0 0 (Nat.mul O (136))
theorem zjB {n : Nat} {g : Nat → ByteArray} (hg : ∀ i, i < n → (g i).size = 16) (k : Nat → Nat → Nat → Nat → Bool) :
    fLf (vM n) (vO n)  k (vN (fun i => wd (g i) 0) n) (vN (fun i => wd (g i) 1) n) (vN (fun i => wd (g i) 2) n) (vN (fun i => wd (g i) 3) n) = k (vN (fun i => wd (zg4 (g i)) 0) n) (vN (fun i => wd (zg4 (g i)) 1) n) (vN (fun i => wd (zg4 (g i)) 2) n) (vN (fun i => wd (zg4 (g i)) 3) n) := by
  have pd : ∀ i, i < n → zJ (((⟨#[0]⟩ : ByteArray) ++ g i).data.toList) = 0 :: ((g i).data.toList ++ 128 :: (List.replicate 38 0 ++ xo 8 136)) := fun i hi => by
    rw [qv]; show zJ (0 :: (g i).data.toList) = _; exact zbk 0 _ 4 38 136 (by rw [ze, hg i hi]) rfl rfl
  have h := qy (n := n) (fun i => (⟨#[0]⟩ : ByteArray) ++ g i) (fun i hi => by rw [pd i hi]; simp [hg i hi, xC]) (fun y0 y1 y2 y3 _ _ _ _ => k y0 y1 y2 y3)
  have e0 : vN (fun i => wdL (zJ ((⟨#[0]⟩ : ByteArray) ++ g i).data.toList) 0) n = Nat.add (Nat.mul (vO n) (0)) (Nat.land (Nat.shiftRight (vN (fun i => wd (g i) 0) n) 8) (vM n)) := by
    rw [xx (fun i hi => yu _ _), yy]
    show _ = vN _ n + vN _ n
    rw [yd]
    refine zb n fun i hi => ?_
    rw [pd i hi, jt, zk (t := 0) (by rw [ze, hg i hi]; omega)]; rfl
  have e1 : vN (fun i => wdL (zJ ((⟨#[0]⟩ : ByteArray) ++ g i).data.toList) 1) n = Nat.add (Nat.mul (Nat.land (vN (fun i => wd (g i) 0) n) (Nat.mul (vO n) 255)) 16777216) (Nat.land (Nat.shiftRight (vN (fun i => wd (g i) 1) n) 8) (vM n)) := by
    rw [xx (fun i hi => yu _ _), xy (fun i hi => yu _ _)]
    show _ = vN _ n * 16777216 + vN _ n
    rw [yM, yd]
    refine zb n fun i hi => ?_
    rw [pd i hi, zv, zk (t := 0) (by rw [ze, hg i hi]; omega), zk (t := 1) (by rw [ze, hg i hi]; omega)]; rfl
  have e2 : vN (fun i => wdL (zJ ((⟨#[0]⟩ : ByteArray) ++ g i).data.toList) 2) n = Nat.add (Nat.mul (Nat.land (vN (fun i => wd (g i) 1) n) (Nat.mul (vO n) 255)) 16777216) (Nat.land (Nat.shiftRight (vN (fun i => wd (g i) 2) n) 8) (vM n)) := by
    rw [xx (fun i hi => yu _ _), xy (fun i hi => yu _ _)]
    show _ = vN _ n * 16777216 + vN _ n
    rw [yM, yd]
    refine zb n fun i hi => ?_
    rw [pd i hi, zv, zk (t := 1) (by rw [ze, hg i hi]; omega), zk (t := 2) (by rw [ze, hg i hi]; omega)]; rfl
  have e3 : vN (fun i => wdL (zJ ((⟨#[0]⟩ : ByteArray) ++ g i).data.toList) 3) n = Nat.add (Nat.mul (Nat.land (vN (fun i => wd (g i) 2) n) (Nat.mul (vO n) 255)) 16777216) (Nat.land (Nat.shiftRight (vN (fun i => wd (g i) 3) n) 8) (vM n)) := by
    rw [xx (fun i hi => yu _ _), xy (fun i hi => yu _ _)]
    show _ = vN _ n * 16777216 + vN _ n
    rw [yM, yd]
    refine zb n fun i hi => ?_
    rw [pd i hi, zv, zk (t := 2) (by rw [ze, hg i hi]; omega), zk (t := 3) (by rw [ze, hg i hi]; omega)]; rfl
  have e4 : vN (fun i => wdL (zJ ((⟨#[0]⟩ : ByteArray) ++ g i).data.toList) 4) n = Nat.add (Nat.mul (Nat.land (vN (fun i => wd (g i) 3) n) (Nat.mul (vO n) 255)) 16777216) (Nat.mul (vO n) 8388608) := by
    rw [xy (fun i hi => yu _ _), yy]
    show _ = vN _ n * 16777216 + vN _ n
    rw [yM, yd]
    refine zb n fun i hi => ?_
    rw [pd i hi, zv, zk (t := 3) (by rw [ze, hg i hi]; omega), zd (k := 4) (t := 4) (by rw [ze, hg i hi]) (by decide)]; rfl
  have e5 : vN (fun i => wdL (zJ ((⟨#[0]⟩ : ByteArray) ++ g i).data.toList) 5) n = 0 := by
    rw [← zu n]; refine zb n fun i hi => ?_
    rw [pd i hi]
    rw [zv, zd (k := 4) (t := 4) (by rw [ze, hg i hi]) (by decide), zd (k := 4) (t := 5) (by rw [ze, hg i hi]) (by decide)]; decide +kernel
  have e6 : vN (fun i => wdL (zJ ((⟨#[0]⟩ : ByteArray) ++ g i).data.toList) 6) n = 0 := by
    rw [← zu n]; refine zb n fun i hi => ?_
    rw [pd i hi]
    rw [zv, zd (k := 4) (t := 5) (by rw [ze, hg i hi]) (by decide), zd (k := 4) (t := 6) (by rw [ze, hg i hi]) (by decide)]; decide +kernel
  have e7 : vN (fun i => wdL (zJ ((⟨#[0]⟩ : ByteArray) ++ g i).data.toList) 7) n = 0 := by
    rw [← zu n]; refine zb n fun i hi => ?_
    rw [pd i hi]
    rw [zv, zd (k := 4) (t := 6) (by rw [ze, hg i hi]) (by decide), zd (k := 4) (t := 7) (by rw [ze, hg i hi]) (by decide)]; decide +kernel
  have e8 : vN (fun i => wdL (zJ ((⟨#[0]⟩ : ByteArray) ++ g i).data.toList) 8) n = 0 := by
    rw [← zu n]; refine zb n fun i hi => ?_
    rw [pd i hi]
    rw [zv, zd (k := 4) (t := 7) (by rw [ze, hg i hi]) (by decide), zd (k := 4) (t := 8) (by rw [ze, hg i hi]) (by decide)]; decide +kernel
  have e9 : vN (fun i => wdL (zJ ((⟨#[0]⟩ : ByteArray) ++ g i).data.toList) 9) n = 0 := by
    rw [← zu n]; refine zb n fun i hi => ?_
    rw [pd i hi]
    rw [zv, zd (k := 4) (t := 8) (by rw [ze, hg i hi]) (by decide), zd (k := 4) (t := 9) (by rw [ze, hg i hi]) (by decide)]; decide +kernel
  have e10 : vN (fun i => wdL (zJ ((⟨#[0]⟩ : ByteArray) ++ g i).data.toList) 10) n = 0 := by
    rw [← zu n]; refine zb n fun i hi => ?_
    rw [pd i hi]
    rw [zv, zd (k := 4) (t := 9) (by rw [ze, hg i hi]) (by decide), zd (k := 4) (t := 10) (by rw [ze, hg i hi]) (by decide)]; decide +kernel
  have e11 : vN (fun i => wdL (zJ ((⟨#[0]⟩ : ByteArray) ++ g i).data.toList) 11) n = 0 := by
    rw [← zu n]; refine zb n fun i hi => ?_
    rw [pd i hi]
    rw [zv, zd (k := 4) (t := 10) (by rw [ze, hg i hi]) (by decide), zd (k := 4) (t := 11) (by rw [ze, hg i hi]) (by decide)]; decide +kernel
  have e12 : vN (fun i => wdL (zJ ((⟨#[0]⟩ : ByteArray) ++ g i).data.toList) 12) n = 0 := by
    rw [← zu n]; refine zb n fun i hi => ?_
    rw [pd i hi]
    rw [zv, zd (k := 4) (t := 11) (by rw [ze, hg i hi]) (by decide), zd (k := 4) (t := 12) (by rw [ze, hg i hi]) (by decide)]; decide +kernel
  have e13 : vN (fun i => wdL (zJ ((⟨#[0]⟩ : ByteArray) ++ g i).data.toList) 13) n = 0 := by
    rw [← zu n]; refine zb n fun i hi => ?_
    rw [pd i hi]
    rw [zv, zd (k := 4) (t := 12) (by rw [ze, hg i hi]) (by decide), zd (k := 4) (t := 13) (by rw [ze, hg i hi]) (by decide)]; decide +kernel
  have e14 : vN (fun i => wdL (zJ ((⟨#[0]⟩ : ByteArray) ++ g i).data.toList) 14) n = 0 := by
    rw [← zu n]; refine zb n fun i hi => ?_
    rw [pd i hi]
    rw [zv, zd (k := 4) (t := 13) (by rw [ze, hg i hi]) (by decide), zd (k := 4) (t := 14) (by rw [ze, hg i hi]) (by decide)]; decide +kernel
  have e15 : vN (fun i => wdL (zJ ((⟨#[0]⟩ : ByteArray) ++ g i).data.toList) 15) n = Nat.mul (vO n) (136) := by
    rw [yy]; refine zb n fun i hi => ?_
    rw [pd i hi]
    rw [zv, zd (k := 4) (t := 14) (by rw [ze, hg i hi]) (by decide), zd (k := 4) (t := 15) (by rw [ze, hg i hi]) (by decide)]; decide +kernel
  rw [e0, e1, e2, e3, e4, e5, e6, e7, e8, e9, e10, e11, e12, e13, e14, e15] at h
  unfold fLf
  rw [h]
  rw [(zb n fun i _ => (yl ((⟨#[0]⟩ : ByteArray) ++ g i) 0 (by decide)).symm : vN (fun i => wd (sha ((⟨#[0]⟩ : ByteArray) ++ g i)) 0) n = vN (fun i => wd (zL ((⟨#[0]⟩ : ByteArray) ++ g i)) 0) n), (zb n fun i _ => (yl ((⟨#[0]⟩ : ByteArray) ++ g i) 1 (by decide)).symm : vN (fun i => wd (sha ((⟨#[0]⟩ : ByteArray) ++ g i)) 1) n = vN (fun i => wd (zL ((⟨#[0]⟩ : ByteArray) ++ g i)) 1) n), (zb n fun i _ => (yl ((⟨#[0]⟩ : ByteArray) ++ g i) 2 (by decide)).symm : vN (fun i => wd (sha ((⟨#[0]⟩ : ByteArray) ++ g i)) 2) n = vN (fun i => wd (zL ((⟨#[0]⟩ : ByteArray) ++ g i)) 2) n), (zb n fun i _ => (yl ((⟨#[0]⟩ : ByteArray) ++ g i) 3 (by decide)).symm : vN (fun i => wd (sha ((⟨#[0]⟩ : ByteArray) ++ g i)) 3) n = vN (fun i => wd (zL ((⟨#[0]⟩ : ByteArray) ++ g i)) 3) n)]
  all_goals rfl
def fRt (M O  : Nat) (k : Nat → Nat → Nat → Nat → Nat → Nat → Nat → Nat → Bool) (x0 x1 x2 x3 : Nat) : Bool := sC0 M O k (Nat.add (Nat.mul O (33554432)) (Nat.land (Nat.shiftRight x0 8) M)) (Nat.add (Nat.mul (Nat.land x0 (Nat.mul O 255)) 16777216) (Nat.land (Nat.shiftRight x1 8) M)) (Nat.add (Nat.mul (Nat.land x1 (Nat.mul O 255)) 16777216) (Nat.land (Nat.shiftRight x2 8) M)) (Nat.add (Nat.mul (Nat.land x2 (Nat.mul O 255)) 16777216) (Nat.land (Nat.shiftRight x3 8) M)) (Nat.add (Nat.mul (Nat.land x3 (Nat.mul O 255)) 16777216) (Nat.mul O 8388608)) 0 0 0 0 0 0 0 0 0 0 (Nat.mul O (136))
theorem zjY {n : Nat} {g : Nat → ByteArray} (hg : ∀ i, i < n → (g i).size = 16) (k : Nat → Nat → Nat → Nat → Nat → Nat → Nat → Nat → Bool) :
    fRt (vM n) (vO n)  k (vN (fun i => wd (g i) 0) n) (vN (fun i => wd (g i) 1) n) (vN (fun i => wd (g i) 2) n) (vN (fun i => wd (g i) 3) n) = k (vN (fun i => wd (zeW (g i)) 0) n) (vN (fun i => wd (zeW (g i)) 1) n) (vN (fun i => wd (zeW (g i)) 2) n) (vN (fun i => wd (zeW (g i)) 3) n) (vN (fun i => wd (zeW (g i)) 4) n) (vN (fun i => wd (zeW (g i)) 5) n) (vN (fun i => wd (zeW (g i)) 6) n) (vN (fun i => wd (zeW (g i)) 7) n) := by
  have pd : ∀ i, i < n → zJ (((⟨#[2]⟩ : ByteArray) ++ g i).data.toList) = 2 :: ((g i).data.toList ++ 128 :: (List.replicate 38 0 ++ xo 8 136)) := fun i hi => by
    rw [qv]; show zJ (2 :: (g i).data.toList) = _; exact zbk 2 _ 4 38 136 (by rw [ze, hg i hi]) rfl rfl
  have h := qy (n := n) (fun i => (⟨#[2]⟩ : ByteArray) ++ g i) (fun i hi => by rw [pd i hi]; simp [hg i hi, xC]) k
  have e0 : vN (fun i => wdL (zJ ((⟨#[2]⟩ : ByteArray) ++ g i).data.toList) 0) n = Nat.add (Nat.mul (vO n) (33554432)) (Nat.land (Nat.shiftRight (vN (fun i => wd (g i) 0) n) 8) (vM n)) := by
    rw [xx (fun i hi => yu _ _), yy]
    show _ = vN _ n + vN _ n
    rw [yd]
    refine zb n fun i hi => ?_
    rw [pd i hi, jt, zk (t := 0) (by rw [ze, hg i hi]; omega)]; rfl
  have e1 : vN (fun i => wdL (zJ ((⟨#[2]⟩ : ByteArray) ++ g i).data.toList) 1) n = Nat.add (Nat.mul (Nat.land (vN (fun i => wd (g i) 0) n) (Nat.mul (vO n) 255)) 16777216) (Nat.land (Nat.shiftRight (vN (fun i => wd (g i) 1) n) 8) (vM n)) := by
    rw [xx (fun i hi => yu _ _), xy (fun i hi => yu _ _)]
    show _ = vN _ n * 16777216 + vN _ n
    rw [yM, yd]
    refine zb n fun i hi => ?_
    rw [pd i hi, zv, zk (t := 0) (by rw [ze, hg i hi]; omega), zk (t := 1) (by rw [ze, hg i hi]; omega)]; rfl
  have e2 : vN (fun i => wdL (zJ ((⟨#[2]⟩ : ByteArray) ++ g i).data.toList) 2) n = Nat.add (Nat.mul (Nat.land (vN (fun i => wd (g i) 1) n) (Nat.mul (vO n) 255)) 16777216) (Nat.land (Nat.shiftRight (vN (fun i => wd (g i) 2) n) 8) (vM n)) := by
    rw [xx (fun i hi => yu _ _), xy (fun i hi => yu _ _)]
    show _ = vN _ n * 16777216 + vN _ n
    rw [yM, yd]
    refine zb n fun i hi => ?_
    rw [pd i hi, zv, zk (t := 1) (by rw [ze, hg i hi]; omega), zk (t := 2) (by rw [ze, hg i hi]; omega)]; rfl
  have e3 : vN (fun i => wdL (zJ ((⟨#[2]⟩ : ByteArray) ++ g i).data.toList) 3) n = Nat.add (Nat.mul (Nat.land (vN (fun i => wd (g i) 2) n) (Nat.mul (vO n) 255)) 16777216) (Nat.land (Nat.shiftRight (vN (fun i => wd (g i) 3) n) 8) (vM n)) := by
    rw [xx (fun i hi => yu _ _), xy (fun i hi => yu _ _)]
    show _ = vN _ n * 16777216 + vN _ n
    rw [yM, yd]
    refine zb n fun i hi => ?_
    rw [pd i hi, zv, zk (t := 2) (by rw [ze, hg i hi]; omega), zk (t := 3) (by rw [ze, hg i hi]; omega)]; rfl
  have e4 : vN (fun i => wdL (zJ ((⟨#[2]⟩ : ByteArray) ++ g i).data.toList) 4) n = Nat.add (Nat.mul (Nat.land (vN (fun i => wd (g i) 3) n) (Nat.mul (vO n) 255)) 16777216) (Nat.mul (vO n) 8388608) := by
    rw [xy (fun i hi => yu _ _), yy]
    show _ = vN _ n * 16777216 + vN _ n
    rw [yM, yd]
    refine zb n fun i hi => ?_
    rw [pd i hi, zv, zk (t := 3) (by rw [ze, hg i hi]; omega), zd (k := 4) (t := 4) (by rw [ze, hg i hi]) (by decide)]; rfl
  have e5 : vN (fun i => wdL (zJ ((⟨#[2]⟩ : ByteArray) ++ g i).data.toList) 5) n = 0 := by
    rw [← zu n]; refine zb n fun i hi => ?_
    rw [pd i hi]
    rw [zv, zd (k := 4) (t := 4) (by rw [ze, hg i hi]) (by decide), zd (k := 4) (t := 5) (by rw [ze, hg i hi]) (by decide)]; decide +kernel
  have e6 : vN (fun i => wdL (zJ ((⟨#[2]⟩ : ByteArray) ++ g i).data.toList) 6) n = 0 := by
    rw [← zu n]; refine zb n fun i hi => ?_
    rw [pd i hi]
    rw [zv, zd (k := 4) (t := 5) (by rw [ze, hg i hi]) (by decide), zd (k := 4) (t := 6) (by rw [ze, hg i hi]) (by decide)]; decide +kernel
  have e7 : vN (fun i => wdL (zJ ((⟨#[2]⟩ : ByteArray) ++ g i).data.toList) 7) n = 0 := by
    rw [← zu n]; refine zb n fun i hi => ?_
    rw [pd i hi]
    rw [zv, zd (k := 4) (t := 6) (by rw [ze, hg i hi]) (by decide), zd (k := 4) (t := 7) (by rw [ze, hg i hi]) (by decide)]; decide +kernel
  have e8 : vN (fun i => wdL (zJ ((⟨#[2]⟩ : ByteArray) ++ g i).data.toList) 8) n = 0 := by
    rw [← zu n]; refine zb n fun i hi => ?_
    rw [pd i hi]
    rw [zv, zd (k := 4) (t := 7) (by rw [ze, hg i hi]) (by decide), zd (k := 4) (t := 8) (by rw [ze, hg i hi]) (by decide)]; decide +kernel
  have e9 : vN (fun i => wdL (zJ ((⟨#[2]⟩ : ByteArray) ++ g i).data.toList) 9) n = 0 := by
    rw [← zu n]; refine zb n fun i hi => ?_
    rw [pd i hi]
    rw [zv, zd (k := 4) (t := 8) (by rw [ze, hg i hi]) (by decide), zd (k := 4) (t := 9) (by rw [ze, hg i hi]) (by decide)]; decide +kernel
  have e10 : vN (fun i => wdL (zJ ((⟨#[2]⟩ : ByteArray) ++ g i).data.toList) 10) n = 0 := by
    rw [← zu n]; refine zb n fun i hi => ?_
    rw [pd i hi]
    rw [zv, zd (k := 4) (t := 9) (by rw [ze, hg i hi]) (by decide), zd (k := 4) (t := 10) (by rw [ze, hg i hi]) (by decide)]; decide +kernel
  have e11 : vN (fun i => wdL (zJ ((⟨#[2]⟩ : ByteArray) ++ g i).data.toList) 11) n = 0 := by
    rw [← zu n]; refine zb n fun i hi => ?_
    rw [pd i hi]
    rw [zv, zd (k := 4) (t := 10) (by rw [ze, hg i hi]) (by decide), zd (k := 4) (t := 11) (by rw [ze, hg i hi]) (by decide)]; decide +kernel
  have e12 : vN (fun i => wdL (zJ ((⟨#[2]⟩ : ByteArray) ++ g i).data.toList) 12) n = 0 := by
    rw [← zu n]; refine zb n fun i hi => ?_
    rw [pd i hi]
    rw [zv, zd (k := 4) (t := 11) (by rw [ze, hg i hi]) (by decide), zd (k := 4) (t := 12) (by rw [ze, hg i hi]) (by decide)]; decide +kernel
  have e13 : vN (fun i => wdL (zJ ((⟨#[2]⟩ : ByteArray) ++ g i).data.toList) 13) n = 0 := by
    rw [← zu n]; refine zb n fun i hi => ?_
    rw [pd i hi]
    rw [zv, zd (k := 4) (t := 12) (by rw [ze, hg i hi]) (by decide), zd (k := 4) (t := 13) (by rw [ze, hg i hi]) (by decide)]; decide +kernel
  have e14 : vN (fun i => wdL (zJ ((⟨#[2]⟩ : ByteArray) ++ g i).data.toList) 14) n = 0 := by
    rw [← zu n]; refine zb n fun i hi => ?_
    rw [pd i hi]
    rw [zv, zd (k := 4) (t := 13) (by rw [ze, hg i hi]) (by decide), zd (k := 4) (t := 14) (by rw [ze, hg i hi]) (by decide)]; decide +kernel
  have e15 : vN (fun i => wdL (zJ ((⟨#[2]⟩ : ByteArray) ++ g i).data.toList) 15) n = Nat.mul (vO n) (136) := by
    rw [yy]; refine zb n fun i hi => ?_
    rw [pd i hi]
    rw [zv, zd (k := 4) (t := 14) (by rw [ze, hg i hi]) (by decide), zd (k := 4) (t := 15) (by rw [ze, hg i hi]) (by decide)]; decide +kernel
  rw [e0, e1, e2, e3, e4, e5, e6, e7, e8, e9, e10, e11, e12, e13, e14, e15] at h
  unfold fRt
  exact h
def zku (M O  : Nat) (k : Nat → Nat → Nat → Nat → Bool) (x0 x1 x2 x3 x4 x5 x6 x7 : Nat) : Bool := sC0 M O (fun y0 y1 y2 y3 _ _ _ _ => k y0 y1 y2 y3) (Nat.add (Nat.mul O (16777216)) (Nat.land (Nat.shiftRight x0 8) M)) (Nat.add (Nat.mul (Nat.land x0 (Nat.mul O 255)) 16777216) (Nat.land (Nat.shiftRight x1 8) M)) (Nat.add (Nat.mul (Nat.land x1 (Nat.mul O 255)) 16777216) (Nat.land (Nat.shiftRight x2 8) M)) (Nat.add (Nat.mul (Nat.land x2 (Nat.mul O 255)) 16777216) (Nat.land (Nat.shiftRight x3 8) M)) (Nat.add (Nat.mul (Nat.land x3 (Nat.mul O 255)) 16777216) (Nat.land (Nat.shiftRight x4 8) M)) (Nat.add (Nat.mul (Nat.land x4 (Nat.mul O 255)) 16777216) (Nat.land (Nat.shiftRight x5 8) M)) (Nat.add (Nat.mul (Nat.land x5 (Nat.mul O 255)) 16777216) (Nat.land (Nat.shiftRight x6 8) M)) (Nat.add (Nat.mul (Nat.land x6 (Nat.mul O 255)) 16777216) (Nat.land (Nat.shiftRight x7 8) M)) (Nat.add (Nat.mul (Nat.land x7 (Nat.mul O 255)) 16777216) (Nat.mul O 8388608)) 0 0 0 0 0 0 (Nat.mul O (264))
theorem ziP {n : Nat} {g : Nat → ByteArray} (hg : ∀ i, i < n → (g i).size = 32) (k : Nat → Nat → Nat → Nat → Bool) :
    zku (vM n) (vO n)  k (vN (fun i => wd (g i) 0) n) (vN (fun i => wd (g i) 1) n) (vN (fun i => wd (g i) 2) n) (vN (fun i => wd (g i) 3) n) (vN (fun i => wd (g i) 4) n) (vN (fun i => wd (g i) 5) n) (vN (fun i => wd (g i) 6) n) (vN (fun i => wd (g i) 7) n) = k (vN (fun i => wd (zL ((⟨#[1]⟩ : ByteArray) ++ g i)) 0) n) (vN (fun i => wd (zL ((⟨#[1]⟩ : ByteArray) ++ g i)) 1) n) (vN (fun i => wd (zL ((⟨#[1]⟩ : ByteArray) ++ g i)) 2) n) (vN (fun i => wd (zL ((⟨#[1]⟩ : ByteArray) ++ g i)) 3) n) := by
  have pd : ∀ i, i < n → zJ (((⟨#[1]⟩ : ByteArray) ++ g i).data.toList) = 1 :: ((g i).data.toList ++ 128 :: (List.replicate 22 0 ++ xo 8 264)) := fun i hi => by
    rw [qv]; show zJ (1 :: (g i).data.toList) = _; exact zbk 1 _ 8 22 264 (by rw [ze, hg i hi]) rfl rfl
  have h := qy (n := n) (fun i => (⟨#[1]⟩ : ByteArray) ++ g i) (fun i hi => by rw [pd i hi]; simp [hg i hi, xC]) (fun y0 y1 y2 y3 _ _ _ _ => k y0 y1 y2 y3)
  have e0 : vN (fun i => wdL (zJ ((⟨#[1]⟩ : ByteArray) ++ g i).data.toList) 0) n = Nat.add (Nat.mul (vO n) (16777216)) (Nat.land (Nat.shiftRight (vN (fun i => wd (g i) 0) n) 8) (vM n)) := by
    rw [xx (fun i hi => yu _ _), yy]
    show _ = vN _ n + vN _ n
    rw [yd]
    refine zb n fun i hi => ?_
    rw [pd i hi, jt, zk (t := 0) (by rw [ze, hg i hi]; omega)]; rfl
  have e1 : vN (fun i => wdL (zJ ((⟨#[1]⟩ : ByteArray) ++ g i).data.toList) 1) n = Nat.add (Nat.mul (Nat.land (vN (fun i => wd (g i) 0) n) (Nat.mul (vO n) 255)) 16777216) (Nat.land (Nat.shiftRight (vN (fun i => wd (g i) 1) n) 8) (vM n)) := by
    rw [xx (fun i hi => yu _ _), xy (fun i hi => yu _ _)]
    show _ = vN _ n * 16777216 + vN _ n
    rw [yM, yd]
    refine zb n fun i hi => ?_
    rw [pd i hi, zv, zk (t := 0) (by rw [ze, hg i hi]; omega), zk (t := 1) (by rw [ze, hg i hi]; omega)]; rfl
  have e2 : vN (fun i => wdL (zJ ((⟨#[1]⟩ : ByteArray) ++ g i).data.toList) 2) n = Nat.add (Nat.mul (Nat.land (vN (fun i => wd (g i) 1) n) (Nat.mul (vO n) 255)) 16777216) (Nat.land (Nat.shiftRight (vN (fun i => wd (g i) 2) n) 8) (vM n)) := by
    rw [xx (fun i hi => yu _ _), xy (fun i hi => yu _ _)]
    show _ = vN _ n * 16777216 + vN _ n
    rw [yM, yd]
    refine zb n fun i hi => ?_
    rw [pd i hi, zv, zk (t := 1) (by rw [ze, hg i hi]; omega), zk (t := 2) (by rw [ze, hg i hi]; omega)]; rfl
  have e3 : vN (fun i => wdL (zJ ((⟨#[1]⟩ : ByteArray) ++ g i).data.toList) 3) n = Nat.add (Nat.mul (Nat.land (vN (fun i => wd (g i) 2) n) (Nat.mul (vO n) 255)) 16777216) (Nat.land (Nat.shiftRight (vN (fun i => wd (g i) 3) n) 8) (vM n)) := by
    rw [xx (fun i hi => yu _ _), xy (fun i hi => yu _ _)]
    show _ = vN _ n * 16777216 + vN _ n
    rw [yM, yd]
    refine zb n fun i hi => ?_
    rw [pd i hi, zv, zk (t := 2) (by rw [ze, hg i hi]; omega), zk (t := 3) (by rw [ze, hg i hi]; omega)]; rfl
  have e4 : vN (fun i => wdL (zJ ((⟨#[1]⟩ : ByteArray) ++ g i).data.toList) 4) n = Nat.add (Nat.mul (Nat.land (vN (fun i => wd (g i) 3) n) (Nat.mul (vO n) 255)) 16777216) (Nat.land (Nat.shiftRight (vN (fun i => wd (g i) 4) n) 8) (vM n)) := by
    rw [xx (fun i hi => yu _ _), xy (fun i hi => yu _ _)]
    show _ = vN _ n * 16777216 + vN _ n
    rw [yM, yd]
    refine zb n fun i hi => ?_
    rw [pd i hi, zv, zk (t := 3) (by rw [ze, hg i hi]; omega), zk (t := 4) (by rw [ze, hg i hi]; omega)]; rfl
  have e5 : vN (fun i => wdL (zJ ((⟨#[1]⟩ : ByteArray) ++ g i).data.toList) 5) n = Nat.add (Nat.mul (Nat.land (vN (fun i => wd (g i) 4) n) (Nat.mul (vO n) 255)) 16777216) (Nat.land (Nat.shiftRight (vN (fun i => wd (g i) 5) n) 8) (vM n)) := by
    rw [xx (fun i hi => yu _ _), xy (fun i hi => yu _ _)]
    show _ = vN _ n * 16777216 + vN _ n
    rw [yM, yd]
    refine zb n fun i hi => ?_
    rw [pd i hi, zv, zk (t := 4) (by rw [ze, hg i hi]; omega), zk (t := 5) (by rw [ze, hg i hi]; omega)]; rfl
  have e6 : vN (fun i => wdL (zJ ((⟨#[1]⟩ : ByteArray) ++ g i).data.toList) 6) n = Nat.add (Nat.mul (Nat.land (vN (fun i => wd (g i) 5) n) (Nat.mul (vO n) 255)) 16777216) (Nat.land (Nat.shiftRight (vN (fun i => wd (g i) 6) n) 8) (vM n)) := by
    rw [xx (fun i hi => yu _ _), xy (fun i hi => yu _ _)]
    show _ = vN _ n * 16777216 + vN _ n
    rw [yM, yd]
    refine zb n fun i hi => ?_
    rw [pd i hi, zv, zk (t := 5) (by rw [ze, hg i hi]; omega), zk (t := 6) (by rw [ze, hg i hi]; omega)]; rfl
  have e7 : vN (fun i => wdL (zJ ((⟨#[1]⟩ : ByteArray) ++ g i).data.toList) 7) n = Nat.add (Nat.mul (Nat.land (vN (fun i => wd (g i) 6) n) (Nat.mul (vO n) 255)) 16777216) (Nat.land (Nat.shiftRight (vN (fun i => wd (g i) 7) n) 8) (vM n)) := by
    rw [xx (fun i hi => yu _ _), xy (fun i hi => yu _ _)]
    show _ = vN _ n * 16777216 + vN _ n
    rw [yM, yd]
    refine zb n fun i hi => ?_
    rw [pd i hi, zv, zk (t := 6) (by rw [ze, hg i hi]; omega), zk (t := 7) (by rw [ze, hg i hi]; omega)]; rfl
  have e8 : vN (fun i => wdL (zJ ((⟨#[1]⟩ : ByteArray) ++ g i).data.toList) 8) n = Nat.add (Nat.mul (Nat.land (vN (fun i => wd (g i) 7) n) (Nat.mul (vO n) 255)) 16777216) (Nat.mul (vO n) 8388608) := by
    rw [xy (fun i hi => yu _ _), yy]
    show _ = vN _ n * 16777216 + vN _ n
    rw [yM, yd]
    refine zb n fun i hi => ?_
    rw [pd i hi, zv, zk (t := 7) (by rw [ze, hg i hi]; omega), zd (k := 8) (t := 8) (by rw [ze, hg i hi]) (by decide)]; rfl
  have e9 : vN (fun i => wdL (zJ ((⟨#[1]⟩ : ByteArray) ++ g i).data.toList) 9) n = 0 := by
    rw [← zu n]; refine zb n fun i hi => ?_
    rw [pd i hi]
    rw [zv, zd (k := 8) (t := 8) (by rw [ze, hg i hi]) (by decide), zd (k := 8) (t := 9) (by rw [ze, hg i hi]) (by decide)]; decide +kernel
  have e10 : vN (fun i => wdL (zJ ((⟨#[1]⟩ : ByteArray) ++ g i).data.toList) 10) n = 0 := by
    rw [← zu n]; refine zb n fun i hi => ?_
    rw [pd i hi]
    rw [zv, zd (k := 8) (t := 9) (by rw [ze, hg i hi]) (by decide), zd (k := 8) (t := 10) (by rw [ze, hg i hi]) (by decide)]; decide +kernel
  have e11 : vN (fun i => wdL (zJ ((⟨#[1]⟩ : ByteArray) ++ g i).data.toList) 11) n = 0 := by
    rw [← zu n]; refine zb n fun i hi => ?_
    rw [pd i hi]
    rw [zv, zd (k := 8) (t := 10) (by rw [ze, hg i hi]) (by decide), zd (k := 8) (t := 11) (by rw [ze, hg i hi]) (by decide)]; decide +kernel
  have e12 : vN (fun i => wdL (zJ ((⟨#[1]⟩ : ByteArray) ++ g i).data.toList) 12) n = 0 := by
    rw [← zu n]; refine zb n fun i hi => ?_
    rw [pd i hi]
    rw [zv, zd (k := 8) (t := 11) (by rw [ze, hg i hi]) (by decide), zd (k := 8) (t := 12) (by rw [ze, hg i hi]) (by decide)]; decide +kernel
  have e13 : vN (fun i => wdL (zJ ((⟨#[1]⟩ : ByteArray) ++ g i).data.toList) 13) n = 0 := by
    rw [← zu n]; refine zb n fun i hi => ?_
    rw [pd i hi]
    rw [zv, zd (k := 8) (t := 12) (by rw [ze, hg i hi]) (by decide), zd (k := 8) (t := 13) (by rw [ze, hg i hi]) (by decide)]; decide +kernel
  have e14 : vN (fun i => wdL (zJ ((⟨#[1]⟩ : ByteArray) ++ g i).data.toList) 14) n = 0 := by
    rw [← zu n]; refine zb n fun i hi => ?_
    rw [pd i hi]
    rw [zv, zd (k := 8) (t := 13) (by rw [ze, hg i hi]) (by decide), zd (k := 8) (t := 14) (by rw [ze, hg i hi]) (by decide)]; decide +kernel
  have e15 : vN (fun i => wdL (zJ ((⟨#[1]⟩ : ByteArray) ++ g i).data.toList) 15) n = Nat.mul (vO n) (264) := by
    rw [yy]; refine zb n fun i hi => ?_
    rw [pd i hi]
    rw [zv, zd (k := 8) (t := 14) (by rw [ze, hg i hi]) (by decide), zd (k := 8) (t := 15) (by rw [ze, hg i hi]) (by decide)]; decide +kernel
  rw [e0, e1, e2, e3, e4, e5, e6, e7, e8, e9, e10, e11, e12, e13, e14, e15] at h
  unfold zku
  rw [h]
  rw [(zb n fun i _ => (yl ((⟨#[1]⟩ : ByteArray) ++ g i) 0 (by decide)).symm : vN (fun i => wd (sha ((⟨#[1]⟩ : ByteArray) ++ g i)) 0) n = vN (fun i => wd (zL ((⟨#[1]⟩ : ByteArray) ++ g i)) 0) n), (zb n fun i _ => (yl ((⟨#[1]⟩ : ByteArray) ++ g i) 1 (by decide)).symm : vN (fun i => wd (sha ((⟨#[1]⟩ : ByteArray) ++ g i)) 1) n = vN (fun i => wd (zL ((⟨#[1]⟩ : ByteArray) ++ g i)) 1) n), (zb n fun i _ => (yl ((⟨#[1]⟩ : ByteArray) ++ g i) 2 (by decide)).symm : vN (fun i => wd (sha ((⟨#[1]⟩ : ByteArray) ++ g i)) 2) n = vN (fun i => wd (zL ((⟨#[1]⟩ : ByteArray) ++ g i)) 2) n), (zb n fun i _ => (yl ((⟨#[1]⟩ : ByteArray) ++ g i) 3 (by decide)).symm : vN (fun i => wd (sha ((⟨#[1]⟩ : ByteArray) ++ g i)) 3) n = vN (fun i => wd (zL ((⟨#[1]⟩ : ByteArray) ++ g i)) 3) n)]
  all_goals rfl
def fSd (M O  : Nat) (k : Nat → Nat → Nat → Nat → Nat → Nat → Nat → Nat → Bool) (x0 x1 x2 x3 x4 x5 x6 x7 x8 : Nat) : Bool := sC0 M O k x0 x1 x2 x3 x4 x5 x6 x7 (x8) 0 0 0 0 0 0 (Nat.mul O (264))
theorem zj6 {n : Nat} {g : Nat → ByteArray} {U : Nat → Nat} (hU : ∀ i, i < n → U i < 256) (hg : ∀ i, i < n → (g i).size = 32) (k : Nat → Nat → Nat → Nat → Nat → Nat → Nat → Nat → Bool) :
    fSd (vM n) (vO n)  k (vN (fun i => wd (g i) 0) n) (vN (fun i => wd (g i) 1) n) (vN (fun i => wd (g i) 2) n) (vN (fun i => wd (g i) 3) n) (vN (fun i => wd (g i) 4) n) (vN (fun i => wd (g i) 5) n) (vN (fun i => wd (g i) 6) n) (vN (fun i => wd (g i) 7) n) (vN (fun i => U i * 16777216 + 8388608) n) = k (vN (fun i => wd (va (g i) (U i : Int)) 0) n) (vN (fun i => wd (va (g i) (U i : Int)) 1) n) (vN (fun i => wd (va (g i) (U i : Int)) 2) n) (vN (fun i => wd (va (g i) (U i : Int)) 3) n) (vN (fun i => wd (va (g i) (U i : Int)) 4) n) (vN (fun i => wd (va (g i) (U i : Int)) 5) n) (vN (fun i => wd (va (g i) (U i : Int)) 6) n) (vN (fun i => wd (va (g i) (U i : Int)) 7) n) := by
  have pd : ∀ i, i < n → zJ ((g i ++ byS (U i : Int)).data.toList) = (g i).data.toList ++ ([UInt8.ofNat (U i), 128, 0, 0] ++ (List.replicate 20 0 ++ xo 8 264)) := fun i hi => by
    rw [qv, zkO _ (hU i hi)]; exact zhc _ _ 8 20 264 (by rw [ze, hg i hi]) rfl rfl
  have h := qy (n := n) (fun i => g i ++ byS (U i : Int)) (fun i hi => by rw [pd i hi]; simp [hg i hi, xC]) k
  have e0 : vN (fun i => wdL (zJ (g i ++ byS (U i : Int)).data.toList) 0) n = (vN (fun i => wd (g i) 0) n) := by
    refine zb n fun i hi => ?_
    rw [pd i hi, zk (by rw [ze, hg i hi]; omega)]; rfl
  have e1 : vN (fun i => wdL (zJ (g i ++ byS (U i : Int)).data.toList) 1) n = (vN (fun i => wd (g i) 1) n) := by
    refine zb n fun i hi => ?_
    rw [pd i hi, zk (by rw [ze, hg i hi]; omega)]; rfl
  have e2 : vN (fun i => wdL (zJ (g i ++ byS (U i : Int)).data.toList) 2) n = (vN (fun i => wd (g i) 2) n) := by
    refine zb n fun i hi => ?_
    rw [pd i hi, zk (by rw [ze, hg i hi]; omega)]; rfl
  have e3 : vN (fun i => wdL (zJ (g i ++ byS (U i : Int)).data.toList) 3) n = (vN (fun i => wd (g i) 3) n) := by
    refine zb n fun i hi => ?_
    rw [pd i hi, zk (by rw [ze, hg i hi]; omega)]; rfl
  have e4 : vN (fun i => wdL (zJ (g i ++ byS (U i : Int)).data.toList) 4) n = (vN (fun i => wd (g i) 4) n) := by
    refine zb n fun i hi => ?_
    rw [pd i hi, zk (by rw [ze, hg i hi]; omega)]; rfl
  have e5 : vN (fun i => wdL (zJ (g i ++ byS (U i : Int)).data.toList) 5) n = (vN (fun i => wd (g i) 5) n) := by
    refine zb n fun i hi => ?_
    rw [pd i hi, zk (by rw [ze, hg i hi]; omega)]; rfl
  have e6 : vN (fun i => wdL (zJ (g i ++ byS (U i : Int)).data.toList) 6) n = (vN (fun i => wd (g i) 6) n) := by
    refine zb n fun i hi => ?_
    rw [pd i hi, zk (by rw [ze, hg i hi]; omega)]; rfl
  have e7 : vN (fun i => wdL (zJ (g i ++ byS (U i : Int)).data.toList) 7) n = (vN (fun i => wd (g i) 7) n) := by
    refine zb n fun i hi => ?_
    rw [pd i hi, zk (by rw [ze, hg i hi]; omega)]; rfl
  have e8 : vN (fun i => wdL (zJ (g i ++ byS (U i : Int)).data.toList) 8) n = (vN (fun i => U i * 16777216 + 8388608) n) := by
    refine zb n fun i hi => ?_
    rw [pd i hi, zd (k := 8) (by rw [ze, hg i hi]) (by decide)]; exact (ziM (U i) (hU i hi) _)
  have e9 : vN (fun i => wdL (zJ (g i ++ byS (U i : Int)).data.toList) 9) n = 0 := by
    rw [← zu n]; refine zb n fun i hi => ?_
    rw [pd i hi]
    rw [zd (k := 8) (by rw [ze, hg i hi]) (by decide)]; exact (zf _ _ _ _ _ 0).trans (by decide +kernel)
  have e10 : vN (fun i => wdL (zJ (g i ++ byS (U i : Int)).data.toList) 10) n = 0 := by
    rw [← zu n]; refine zb n fun i hi => ?_
    rw [pd i hi]
    rw [zd (k := 8) (by rw [ze, hg i hi]) (by decide)]; exact (zf _ _ _ _ _ 1).trans (by decide +kernel)
  have e11 : vN (fun i => wdL (zJ (g i ++ byS (U i : Int)).data.toList) 11) n = 0 := by
    rw [← zu n]; refine zb n fun i hi => ?_
    rw [pd i hi]
    rw [zd (k := 8) (by rw [ze, hg i hi]) (by decide)]; exact (zf _ _ _ _ _ 2).trans (by decide +kernel)
  have e12 : vN (fun i => wdL (zJ (g i ++ byS (U i : Int)).data.toList) 12) n = 0 := by
    rw [← zu n]; refine zb n fun i hi => ?_
    rw [pd i hi]
    rw [zd (k := 8) (by rw [ze, hg i hi]) (by decide)]; exact (zf _ _ _ _ _ 3).trans (by decide +kernel)
  have e13 : vN (fun i => wdL (zJ (g i ++ byS (U i : Int)).data.toList) 13) n = 0 := by
    rw [← zu n]; refine zb n fun i hi => ?_
    rw [pd i hi]
    rw [zd (k := 8) (by rw [ze, hg i hi]) (by decide)]; exact (zf _ _ _ _ _ 4).trans (by decide +kernel)
  have e14 : vN (fun i => wdL (zJ (g i ++ byS (U i : Int)).data.toList) 14) n = 0 := by
    rw [← zu n]; refine zb n fun i hi => ?_
    rw [pd i hi]
    rw [zd (k := 8) (by rw [ze, hg i hi]) (by decide)]; exact (zf _ _ _ _ _ 5).trans (by decide +kernel)
  have e15 : vN (fun i => wdL (zJ (g i ++ byS (U i : Int)).data.toList) 15) n = Nat.mul (vO n) (264) := by
    rw [yy]; refine zb n fun i hi => ?_
    rw [pd i hi]
    rw [zd (k := 8) (by rw [ze, hg i hi]) (by decide)]; exact (zf _ _ _ _ _ 6).trans (by decide +kernel)
  rw [e0, e1, e2, e3, e4, e5, e6, e7, e8, e9, e10, e11, e12, e13, e14, e15] at h
  unfold fSd
  exact h
def zaj (M O c : Nat) (k : Nat → Nat → Nat → Nat → Bool) (t0 t1 t2 t3 t4 t5 t6 t7 : Nat) : Bool :=
  zkG M O c (fun x0 x1 x2 x3 => zgk M O c 0 (fun y0 y1 y2 y3 => zgk M O c 1 (fun z0 z1 z2 z3 => zgk M O c 2 k z0 z1 z2 z3) y0 y1 y2 y3) x0 x1 x2 x3) t0 t1 t2 t3 t4 t5 t6 t7
def wl3 (v : ByteArray) (c : Nat) : ByteArray := zgr v (fun _ => 3) c
theorem zka (v : ByteArray) (c : Nat) : wl3 v c = vQ (vQ (vQ (zeY v (c : Int)) (c : Int) ((0 : Nat) : Int)) (c : Int) ((1 : Nat) : Int)) (c : Int) ((2 : Nat) : Int) := by
  unfold wl3 zgr
  rw [yq, yq, yq, yq]
theorem zdu (v : ByteArray) (c : Nat) : (wl3 v c).size = 16 := qw _ _ _
theorem v8 {n : Nat} (c : Nat) (hc : c < 256) {g : Nat → ByteArray} (hg : ∀ i, i < n → (g i).size = 32) (k : Nat → Nat → Nat → Nat → Bool) :
    zaj (vM n) (vO n) c k (vN (fun i => wd (g i) 0) n) (vN (fun i => wd (g i) 1) n) (vN (fun i => wd (g i) 2) n) (vN (fun i => wd (g i) 3) n) (vN (fun i => wd (g i) 4) n) (vN (fun i => wd (g i) 5) n) (vN (fun i => wd (g i) 6) n) (vN (fun i => wd (g i) 7) n) = k (vN (fun i => wd (wl3 (g i) c) 0) n) (vN (fun i => wd (wl3 (g i) c) 1) n) (vN (fun i => wd (wl3 (g i) c) 2) n) (vN (fun i => wd (wl3 (g i) c) 3) n) := by
  unfold zaj
  rw [zhT c hc hg, zaU c 0 hc (by decide) (fun _ _ => k7 _ _), zaU c 1 hc (by decide) (fun _ _ => vu _ _ _), zaU c 2 hc (by decide) (fun _ _ => vu _ _ _)]
  simp only [zka]
def zji (M O t0 t1 t2 t3 t4 t5 t6 t7 : Nat) : List Nat → (Nat → Nat → Nat → Nat → Nat → Nat → Nat → Nat → Bool) → (a b c d e f g h : Nat) → Bool
  | [], k, a, b, c, d, e, f, g, h => k a b c d e f g h
  | z :: cs, k, a, b, c, d, e, f, g, h => zaj M O z (fun p0 p1 p2 p3 => zaj M O (z + 1) (fun q0 q1 q2 q3 => zaj M O (z + 2) (fun r0 r1 r2 r3 => zaj M O (z + 3) (fun s0 s1 s2 s3 =>
      sC M O (fun a b c d e f g h => zji M O t0 t1 t2 t3 t4 t5 t6 t7 cs k a b c d e f g h) a b c d e f g h p0 p1 p2 p3 q0 q1 q2 q3 r0 r1 r2 r3 s0 s1 s2 s3) t0 t1 t2 t3 t4 t5 t6 t7) t0 t1 t2 t3 t4 t5 t6 t7) t0 t1 t2 t3 t4 t5 t6 t7) t0 t1 t2 t3 t4 t5 t6 t7
def kn (v : ByteArray) (c : Nat) : List UInt8 := (wl3 v c).data.toList ++ ((wl3 v (c + 1)).data.toList ++ ((wl3 v (c + 2)).data.toList ++ (wl3 v (c + 3)).data.toList))
def stB (v : ByteArray) (cs : List Nat) (h : N8) : N8 := cs.foldl (fun h c => xl h (wdL (kn v c))) h
theorem zdv (v : ByteArray) (c : Nat) (cs : List Nat) (h : N8) : stB v (c :: cs) h = stB v cs (xl h (wdL (kn v c))) := by unfold stB; rw [List.foldl_cons]
theorem zcF (v : ByteArray) (h : N8) : stB v [] h = h := by unfold stB; rw [List.foldl_nil]
theorem zhO (v : ByteArray) : ∀ (cs : List Nat) (h : N8), h.In → (stB v cs h).In
  | [], h, hh => by rw [zcF]; exact hh
  | c :: cs, h, _ => by rw [zdv]; exact zhO v cs _ (zaS _ _)
theorem ziq (v : ByteArray) (c q r : Nat) (hq : q < 4) (hr : r < 4) : wdL (kn v c) (4 * q + r) = wd (wl3 v (c + q)) r := by
  have l : ∀ x, (wl3 v x).data.toList.length = 4 * 4 := fun x => by rw [ze, zdu]
  have : q = 0 ∨ q = 1 ∨ q = 2 ∨ q = 3 := by omega
  unfold kn wd
  rcases this with rfl | rfl | rfl | rfl
  · rw [Nat.mul_zero, Nat.zero_add, zk (by rw [l]; omega)]; rfl
  · rw [zd (l _) (by omega), show 4 * 1 + r - 4 = r by omega, zk (by rw [l]; omega)]
  · rw [zd (l _) (by omega), zd (l _) (by omega), show 4 * 2 + r - 4 - 4 = r by omega, zk (by rw [l]; omega)]
  · rw [zd (l _) (by omega), zd (l _) (by omega), zd (l _) (by omega), show 4 * 3 + r - 4 - 4 - 4 = r by omega]
theorem zfL {n : Nat} {g : Nat → ByteArray} (hg : ∀ i, i < n → (g i).size = 32) (k : Nat → Nat → Nat → Nat → Nat → Nat → Nat → Nat → Bool) : ∀ (cs : List Nat) (h : Nat → N8), (∀ c ∈ cs, c + 3 < 256) → (∀ i, i < n → (h i).In) →
    zji (vM n) (vO n) (vN (fun i => wd (g i) 0) n) (vN (fun i => wd (g i) 1) n) (vN (fun i => wd (g i) 2) n) (vN (fun i => wd (g i) 3) n) (vN (fun i => wd (g i) 4) n) (vN (fun i => wd (g i) 5) n) (vN (fun i => wd (g i) 6) n) (vN (fun i => wd (g i) 7) n) cs k (vN (fun i => (h i).a) n) (vN (fun i => (h i).b) n) (vN (fun i => (h i).c) n) (vN (fun i => (h i).d) n) (vN (fun i => (h i).e) n) (vN (fun i => (h i).f) n) (vN (fun i => (h i).g) n) (vN (fun i => (h i).h) n) = k (vN (fun i => (stB (g i) cs (h i)).a) n) (vN (fun i => (stB (g i) cs (h i)).b) n) (vN (fun i => (stB (g i) cs (h i)).c) n) (vN (fun i => (stB (g i) cs (h i)).d) n) (vN (fun i => (stB (g i) cs (h i)).e) n) (vN (fun i => (stB (g i) cs (h i)).f) n) (vN (fun i => (stB (g i) cs (h i)).g) n) (vN (fun i => (stB (g i) cs (h i)).h) n)
  | [], h, _, _ => by simp only [zji, zcF]
  | c :: cs, h, hc, hh => by
    have hc0 := hc c (List.mem_cons_self ..)
    rw [zji, v8 c (by omega) hg, v8 (c + 1) (by omega) hg, v8 (c + 2) (by omega) hg, v8 (c + 3) hc0 hg]
    have e : ∀ q r, q < 4 → r < 4 → vN (fun i => wdL (kn (g i) c) (4 * q + r)) n = vN (fun i => wd (wl3 (g i) (c + q)) r) n := fun q r hq hr => zb n fun i _ => ziq _ _ _ _ hq hr
    have h1 := zfl (W := fun i => wdL (kn (g i) c)) hh (fun _ _ _ _ => js _ _) (fun u0 u1 u2 u3 u4 u5 u6 u7 => zji (vM n) (vO n) (vN (fun i => wd (g i) 0) n) (vN (fun i => wd (g i) 1) n) (vN (fun i => wd (g i) 2) n) (vN (fun i => wd (g i) 3) n) (vN (fun i => wd (g i) 4) n) (vN (fun i => wd (g i) 5) n) (vN (fun i => wd (g i) 6) n) (vN (fun i => wd (g i) 7) n) cs k u0 u1 u2 u3 u4 u5 u6 u7)
    have e0 : vN (fun i => wdL (kn (g i) c) 0) n = vN (fun i => wd (wl3 (g i) c) 0) n := e 0 0 (by decide) (by decide)
    have e1 : vN (fun i => wdL (kn (g i) c) 1) n = vN (fun i => wd (wl3 (g i) c) 1) n := e 0 1 (by decide) (by decide)
    have e2 : vN (fun i => wdL (kn (g i) c) 2) n = vN (fun i => wd (wl3 (g i) c) 2) n := e 0 2 (by decide) (by decide)
    have e3 : vN (fun i => wdL (kn (g i) c) 3) n = vN (fun i => wd (wl3 (g i) c) 3) n := e 0 3 (by decide) (by decide)
    have e4 : vN (fun i => wdL (kn (g i) c) 4) n = vN (fun i => wd (wl3 (g i) (c + 1)) 0) n := e 1 0 (by decide) (by decide)
    have e5 : vN (fun i => wdL (kn (g i) c) 5) n = vN (fun i => wd (wl3 (g i) (c + 1)) 1) n := e 1 1 (by decide) (by decide)
    have e6 : vN (fun i => wdL (kn (g i) c) 6) n = vN (fun i => wd (wl3 (g i) (c + 1)) 2) n := e 1 2 (by decide) (by decide)
    have e7 : vN (fun i => wdL (kn (g i) c) 7) n = vN (fun i => wd (wl3 (g i) (c + 1)) 3) n := e 1 3 (by decide) (by decide)
    have e8 : vN (fun i => wdL (kn (g i) c) 8) n = vN (fun i => wd (wl3 (g i) (c + 2)) 0) n := e 2 0 (by decide) (by decide)
    have e9 : vN (fun i => wdL (kn (g i) c) 9) n = vN (fun i => wd (wl3 (g i) (c + 2)) 1) n := e 2 1 (by decide) (by decide)
    have e10 : vN (fun i => wdL (kn (g i) c) 10) n = vN (fun i => wd (wl3 (g i) (c + 2)) 2) n := e 2 2 (by decide) (by decide)
    have e11 : vN (fun i => wdL (kn (g i) c) 11) n = vN (fun i => wd (wl3 (g i) (c + 2)) 3) n := e 2 3 (by decide) (by decide)
    have e12 : vN (fun i => wdL (kn (g i) c) 12) n = vN (fun i => wd (wl3 (g i) (c + 3)) 0) n := e 3 0 (by decide) (by decide)
    have e13 : vN (fun i => wdL (kn (g i) c) 13) n = vN (fun i => wd (wl3 (g i) (c + 3)) 1) n := e 3 1 (by decide) (by decide)
    have e14 : vN (fun i => wdL (kn (g i) c) 14) n = vN (fun i => wd (wl3 (g i) (c + 3)) 2) n := e 3 2 (by decide) (by decide)
    have e15 : vN (fun i => wdL (kn (g i) c) 15) n = vN (fun i => wd (wl3 (g i) (c + 3)) 3) n := e 3 3 (by decide) (by decide)
    rw [e0, e1, e2, e3, e4, e5, e6, e7, e8, e9, e10, e11, e12, e13, e14, e15] at h1
    rw [h1]
    have h2 := zfL hg k cs (fun i => xl (h i) (wdL (kn (g i) c))) (fun x hx => hc x (List.mem_cons_of_mem _ hx)) (fun _ _ => zaS _ _)
    rw [h2]
    simp only [zdv]
theorem zk8 (v : ByteArray) (m : Nat) : (kg (wl3 v) (4 * (m + 1))).data.toList = (kg (wl3 v) (4 * m)).data.toList ++ kn v (4 * m) := by
  rw [show 4 * (m + 1) = 4 * m + 1 + 1 + 1 + 1 by omega, kg, kg, kg, kg]
  simp only [qv]
  unfold kn
  simp only [List.append_assoc]
theorem zgh (v : ByteArray) (m : Nat) : (kg (wl3 v) m).data.toList.length = 16 * m := by
  rw [ze, vZ (zdu v)]
theorem zhI (v : ByteArray) : ∀ m, stB v ((List.range m).map (4 * ·)) hN = nGo m hN (kg (wl3 v) (4 * m)).data.toList
  | 0 => by rw [wP]; exact zcF v hN
  | m + 1 => by
    rw [zk8, qG 1 _ m _ _ (by rw [zgh]; omega), xU, wP, ← zhI v m, List.range_succ, List.map_append]
    unfold stB
    rw [List.foldl_append, List.map_cons, List.map_nil, List.foldl_cons, List.foldl_nil]
def zkn (M O : Nat) (k : Nat → Nat → Nat → Nat → Bool) (t0 t1 t2 t3 t4 t5 t6 t7 : Nat) : Bool :=
  zji M O t0 t1 t2 t3 t4 t5 t6 t7 [0, 4, 8, 12, 16, 20, 24, 28, 32] (fun a b c d e f g h => sC M O (fun x0 x1 x2 x3 _ _ _ _ => k x0 x1 x2 x3) a b c d e f g h (Nat.mul O 2147483648) 0 0 0 0 0 0 0 0 0 0 0 0 0 0 (Nat.mul O 4608)) (Nat.mul O hN.a) (Nat.mul O hN.b) (Nat.mul O hN.c) (Nat.mul O hN.d) (Nat.mul O hN.e) (Nat.mul O hN.f) (Nat.mul O hN.g) (Nat.mul O hN.h)
def ko : List UInt8 := 128 :: (List.replicate 55 0 ++ xo 8 4608)
theorem ziS : (wdL ko 0 = 2147483648 ∧ wdL ko 15 = 4608) ∧ ∀ t, t < 14 → wdL ko (t + 1) = 0 := by decide +kernel
theorem zdX (v : ByteArray) (j : Nat) (hj : j < 4) : wd (kc v) j = (xl (stB v [0, 4, 8, 12, 16, 20, 24, 28, 32] hN) (wdL ko)).l.getD j 0 := by
  have hl : (kg (wl3 v) 36).data.toList.length = 576 := zgh v 36
  have hp : zJ (kg (wl3 v) 36).data.toList = (kg (wl3 v) 36).data.toList ++ ko := by
    have := zcy (kg (wl3 v) 36).data.toList [] 144 55 4608 hl rfl rfl
    rw [List.append_nil, List.nil_append] at this
    exact this
  have hs : kc v = zL (kg (wl3 v) 36) := rfl
  rw [hs, yl _ j hj, zgg _ 10 (by rw [hp, List.length_append, hl]; rfl) j (by omega), hp, qG 1 ko 9 hN _ hl, xU, wP]
  have := zhI v 9
  rw [show (List.range 9).map (4 * ·) = [0, 4, 8, 12, 16, 20, 24, 28, 32] by decide] at this
  rw [this]
theorem zi2 {n : Nat} {g : Nat → ByteArray} (hg : ∀ i, i < n → (g i).size = 32) (k : Nat → Nat → Nat → Nat → Bool) :
    zkn (vM n) (vO n) k (vN (fun i => wd (g i) 0) n) (vN (fun i => wd (g i) 1) n) (vN (fun i => wd (g i) 2) n) (vN (fun i => wd (g i) 3) n) (vN (fun i => wd (g i) 4) n) (vN (fun i => wd (g i) 5) n) (vN (fun i => wd (g i) 6) n) (vN (fun i => wd (g i) 7) n) = k (vN (fun i => wd (kc (g i)) 0) n) (vN (fun i => wd (kc (g i)) 1) n) (vN (fun i => wd (kc (g i)) 2) n) (vN (fun i => wd (kc (g i)) 3) n) := by
  unfold zkn
  have h0 := zfL hg (fun u0 u1 u2 u3 u4 u5 u6 u7 => sC (vM n) (vO n) (fun x0 x1 x2 x3 _ _ _ _ => k x0 x1 x2 x3) u0 u1 u2 u3 u4 u5 u6 u7 (Nat.mul (vO n) 2147483648) 0 0 0 0 0 0 0 0 0 0 0 0 0 0 (Nat.mul (vO n) 4608)) [0, 4, 8, 12, 16, 20, 24, 28, 32] (fun _ => hN) (by decide) (fun _ _ => zfj)
  simp only [← yy] at h0
  rw [h0]
  have h1 := zfl (n := n) (W := fun _ => wdL ko) (h := fun i => stB (g i) [0, 4, 8, 12, 16, 20, 24, 28, 32] hN) (fun _ _ => zhO _ _ _ zfj) (fun _ _ _ _ => js _ _) (fun x0 x1 x2 x3 _ _ _ _ => k x0 x1 x2 x3)
  obtain ⟨⟨w0, w15⟩, wz⟩ := ziS
  have w1 : wdL ko 1 = 0 := wz 0 (by decide)
  have w2 : wdL ko 2 = 0 := wz 1 (by decide)
  have w3 : wdL ko 3 = 0 := wz 2 (by decide)
  have w4 : wdL ko 4 = 0 := wz 3 (by decide)
  have w5 : wdL ko 5 = 0 := wz 4 (by decide)
  have w6 : wdL ko 6 = 0 := wz 5 (by decide)
  have w7 : wdL ko 7 = 0 := wz 6 (by decide)
  have w8 : wdL ko 8 = 0 := wz 7 (by decide)
  have w9 : wdL ko 9 = 0 := wz 8 (by decide)
  have w10 : wdL ko 10 = 0 := wz 9 (by decide)
  have w11 : wdL ko 11 = 0 := wz 10 (by decide)
  have w12 : wdL ko 12 = 0 := wz 11 (by decide)
  have w13 : wdL ko 13 = 0 := wz 12 (by decide)
  have w14 : wdL ko 14 = 0 := wz 13 (by decide)
  rw [w0, w1, w2, w3, w4, w5, w6, w7, w8, w9, w10, w11, w12, w13, w14, w15, zu] at h1
  rw [← yy, ← yy] at h1
  rw [h1]
  have p0 : vN (fun i => wd (kc (g i)) 0) n = vN (fun i => (xl (stB (g i) [0, 4, 8, 12, 16, 20, 24, 28, 32] hN) (wdL ko)).a) n := zb n fun i hi => (zdX (g i) 0 (by decide)).trans (zkz _)
  have p1 : vN (fun i => wd (kc (g i)) 1) n = vN (fun i => (xl (stB (g i) [0, 4, 8, 12, 16, 20, 24, 28, 32] hN) (wdL ko)).b) n := zb n fun i hi => (zdX (g i) 1 (by decide)).trans (zkH _)
  have p2 : vN (fun i => wd (kc (g i)) 2) n = vN (fun i => (xl (stB (g i) [0, 4, 8, 12, 16, 20, 24, 28, 32] hN) (wdL ko)).c) n := zb n fun i hi => (zdX (g i) 2 (by decide)).trans (zkC _)
  have p3 : vN (fun i => wd (kc (g i)) 3) n = vN (fun i => (xl (stB (g i) [0, 4, 8, 12, 16, 20, 24, 28, 32] hN) (wdL ko)).d) n := zb n fun i hi => (zdX (g i) 3 (by decide)).trans (zkT _)
  rw [p0, p1, p2, p3]
theorem vf (f : Nat → Nat) (a : Nat) : ∀ b, vN f (a + b) = vN f a + 2 ^ (64 * a) * vN (fun i => f (a + i)) b
  | 0 => by simp [vN]
  | b + 1 => by
    rw [← Nat.add_assoc, vN, vf f a b, vN, Nat.mul_add (2 ^ (64 * a)), show 64 * (a + b) = 64 * a + 64 * b by omega, Nat.pow_add, Nat.mul_assoc]
    omega
theorem zfQ {f : Nat → Nat} {a b : Nat} (h : ∀ i, i < a → f i < 2 ^ 64) : vN f (a + b) % 2 ^ (64 * a) = vN f a := by
  rw [vf, Nat.add_mul_mod_self_left, Nat.mod_eq_of_lt (zgO a h)]
theorem ze9 {f : Nat → Nat} {a b : Nat} (h : ∀ i, i < a → f i < 2 ^ 64) : vN f (a + b) >>> (64 * a) = vN (fun i => f (a + i)) b := by
  rw [vf, Nat.shiftRight_eq_div_pow, Nat.add_mul_div_left _ _ (Nat.two_pow_pos _), Nat.div_eq_of_lt (zgO a h), Nat.zero_add]
def cQ (B : Nat) : List Nat → Nat
  | [] => 0
  | h :: hs => h + B * cQ B hs
theorem zi7 (f : Nat → Nat) (K : Nat) (hK : 0 < K) : ∀ hs : List Nat, vN (fun l => hs.getD (l / K) 0 * f (l % K)) (K * hs.length) = vN f K * cQ (2 ^ (64 * K)) hs
  | [] => by simp [vN, cQ]
  | h :: hs => by
    rw [List.length_cons, Nat.mul_add, Nat.mul_one, Nat.add_comm, vf, cQ, Nat.mul_add, ← Nat.mul_assoc, Nat.mul_comm (vN f K) (2 ^ (64 * K)), Nat.mul_assoc, ← zi7 f K hK hs, yM]
    congr 1
    · exact zb K fun i hi => by rw [Nat.div_eq_of_lt hi, Nat.mod_eq_of_lt hi, List.getD_cons_zero, Nat.mul_comm]
    · congr 1
      exact zb _ fun i hi => by
        rw [Nat.add_comm K i, Nat.add_div_right _ hK, Nat.add_mod_right, List.getD_cons_succ]
def mO (n : Nat) : Nat := (2 ^ (64 * n) - 1) / 18446744073709551615
def mM (n : Nat) : Nat := mO n * 4294967295
theorem zhA : ∀ n, vO n * 18446744073709551615 = 2 ^ (64 * n) - 1
  | 0 => rfl
  | n + 1 => by
    have ih := zhA n
    have e : 2 ^ (64 * (n + 1)) = 2 ^ (64 * n) * 18446744073709551616 := (congrArg (2 ^ ·) (show 64 * (n + 1) = 64 * n + 64 by omega)).trans (Nat.pow_add 2 (64 * n) 64)
    have hp := Nat.two_pow_pos (64 * n)
    rw [e]
    unfold vO at ih ⊢
    have e2 : vN (fun _ => 1) (n + 1) = 2 ^ (64 * n) * 1 + vN (fun _ => 1) n := by rw [vN]
    refine (congrArg (· * 18446744073709551615) e2).trans ?_
    show (2 ^ (64 * n) * 1 + vN (fun _ => 1) n) * 18446744073709551615 = _
    clear e e2
    generalize 2 ^ (64 * n) = X at *
    generalize vN (fun _ => 1) n = Y at *
    have q : ∀ C : Nat, Y * C = X - 1 → (X * 1 + Y) * C = X * (C + 1) - 1 := fun C hC => by
      rw [Nat.add_mul, hC, Nat.mul_one, Nat.mul_succ]; omega
    exact q 18446744073709551615 ih
theorem zhU (n : Nat) : mO n = vO n := by
  unfold mO
  rw [← zhA, Nat.mul_div_cancel _ (by decide)]
theorem zjx (n : Nat) : mM n = vM n := by
  unfold mM
  rw [zhU]
  exact yy 4294967295 n
def fUp (N : Nat) (k : Nat → Nat → Nat → Nat → Bool) (x0 x1 x2 x3 : Nat) : Bool :=
  zku (mM N) (mO N) k (Nat.mod x0 (2 ^ (64 * N))) (Nat.mod x1 (2 ^ (64 * N))) (Nat.mod x2 (2 ^ (64 * N))) (Nat.mod x3 (2 ^ (64 * N))) (Nat.shiftRight x0 (64 * N)) (Nat.shiftRight x1 (64 * N)) (Nat.shiftRight x2 (64 * N)) (Nat.shiftRight x3 (64 * N))
theorem q6 (a b : ByteArray) (ha : a.size = 16) (j : Nat) (hj : j < 4) : wd (a ++ b) j = wd a j ∧ wd (a ++ b) (j + 4) = wd b j := by
  unfold wd
  rw [qv]
  exact ⟨zk (by rw [ze, ha]; omega), by rw [zd (k := 4) (by rw [ze, ha]) (by omega), Nat.add_sub_cancel]⟩
theorem ze4 {n : Nat} {g : Nat → ByteArray} (hg : ∀ i, i < n + n → (g i).size = 16) (k : Nat → Nat → Nat → Nat → Bool) :
    fUp n k (vN (fun i => wd (g i) 0) (n + n)) (vN (fun i => wd (g i) 1) (n + n)) (vN (fun i => wd (g i) 2) (n + n)) (vN (fun i => wd (g i) 3) (n + n)) = k (vN (fun i => wd (jf (g i) (g (n + i))) 0) n) (vN (fun i => wd (jf (g i) (g (n + i))) 1) n) (vN (fun i => wd (jf (g i) (g (n + i))) 2) n) (vN (fun i => wd (jf (g i) (g (n + i))) 3) n) := by
  unfold fUp
  rw [zjx, zhU]
  have h := ziP (n := n) (g := fun i => g i ++ g (n + i)) (fun i hi => by rw [ByteArray.size_append, hg i (by omega), hg (n + i) (by omega)]) k
  have a0 : vN (fun i => wd (g i ++ g (n + i)) 0) n = Nat.mod (vN (fun i => wd (g i) 0) (n + n)) (2 ^ (64 * n)) := (zb n fun i hi => (q6 (g i) (g (n + i)) (hg i (by omega)) 0 (by decide)).1).trans (zfQ fun i hi => Nat.lt_of_lt_of_le (yu _ _) (by decide)).symm
  have a1 : vN (fun i => wd (g i ++ g (n + i)) 1) n = Nat.mod (vN (fun i => wd (g i) 1) (n + n)) (2 ^ (64 * n)) := (zb n fun i hi => (q6 (g i) (g (n + i)) (hg i (by omega)) 1 (by decide)).1).trans (zfQ fun i hi => Nat.lt_of_lt_of_le (yu _ _) (by decide)).symm
  have a2 : vN (fun i => wd (g i ++ g (n + i)) 2) n = Nat.mod (vN (fun i => wd (g i) 2) (n + n)) (2 ^ (64 * n)) := (zb n fun i hi => (q6 (g i) (g (n + i)) (hg i (by omega)) 2 (by decide)).1).trans (zfQ fun i hi => Nat.lt_of_lt_of_le (yu _ _) (by decide)).symm
  have a3 : vN (fun i => wd (g i ++ g (n + i)) 3) n = Nat.mod (vN (fun i => wd (g i) 3) (n + n)) (2 ^ (64 * n)) := (zb n fun i hi => (q6 (g i) (g (n + i)) (hg i (by omega)) 3 (by decide)).1).trans (zfQ fun i hi => Nat.lt_of_lt_of_le (yu _ _) (by decide)).symm
  have b0 : vN (fun i => wd (g i ++ g (n + i)) 4) n = Nat.shiftRight (vN (fun i => wd (g i) 0) (n + n)) (64 * n) := (zb n fun i hi => (q6 (g i) (g (n + i)) (hg i (by omega)) 0 (by decide)).2).trans (ze9 (f := fun i => wd (g i) 0) fun i hi => Nat.lt_of_lt_of_le (yu _ _) (by decide)).symm
  have b1 : vN (fun i => wd (g i ++ g (n + i)) 5) n = Nat.shiftRight (vN (fun i => wd (g i) 1) (n + n)) (64 * n) := (zb n fun i hi => (q6 (g i) (g (n + i)) (hg i (by omega)) 1 (by decide)).2).trans (ze9 (f := fun i => wd (g i) 1) fun i hi => Nat.lt_of_lt_of_le (yu _ _) (by decide)).symm
  have b2 : vN (fun i => wd (g i ++ g (n + i)) 6) n = Nat.shiftRight (vN (fun i => wd (g i) 2) (n + n)) (64 * n) := (zb n fun i hi => (q6 (g i) (g (n + i)) (hg i (by omega)) 2 (by decide)).2).trans (ze9 (f := fun i => wd (g i) 2) fun i hi => Nat.lt_of_lt_of_le (yu _ _) (by decide)).symm
  have b3 : vN (fun i => wd (g i ++ g (n + i)) 7) n = Nat.shiftRight (vN (fun i => wd (g i) 3) (n + n)) (64 * n) := (zb n fun i hi => (q6 (g i) (g (n + i)) (hg i (by omega)) 3 (by decide)).2).trans (ze9 (f := fun i => wd (g i) 3) fun i hi => Nat.lt_of_lt_of_le (yu _ _) (by decide)).symm
  rw [a0, a1, a2, a3, b0, b1, b2, b3] at h
  rw [h]
  have e : ∀ i, zL ((⟨#[1]⟩ : ByteArray) ++ (g i ++ g (n + i))) = jf (g i) (g (n + i)) := fun i => by unfold jf; rw [ByteArray.append_assoc]
  simp only [e]
theorem zhB (x : Nat) (hx : x < 256) : (IntKind.u8.wrap (x : Int)).toNat = x := by
  simp only [IntKind.wrap, IntKind.bits, IntKind.signed, Bool.false_and, Bool.false_eq_true, if_false]; omega
theorem ql (x : Nat) (hx : x < 256) : (yS (x : Int)).data.toList = [0, 0, 0, UInt8.ofNat x] := by
  unfold yS qq
  rw [strOfNums_data]
  have e1 : (x : Int) / 2 ^ 24 = ((0 : Nat) : Int) := by omega
  have e2 : (x : Int) / 2 ^ 16 = ((0 : Nat) : Int) := by omega
  have e3 : (x : Int) / 2 ^ 8 = ((0 : Nat) : Int) := by omega
  rw [e1, e2, e3]
  simp only [List.map_cons, List.map_nil, T.num, zhB x hx, zhB 0 (by decide)]
  rfl
theorem zjV (n : Nat) (hn : n < 256) : (sdN (n : Int)).data.toList = UInt8.ofNat n :: List.replicate 31 0 := by
  unfold sdN qq
  rw [strOfNums_data]
  rfl
def sdP (N G I : UInt8) : List UInt8 :=
  [2, 0, 0, 0] ++ ([3, 0, 0, 0] ++ ([32, N, 0, 0] ++ ([0, 0, 0, 0] ++ ([0, 0, 0, 0] ++ ([0, 0, 0, 0] ++ ([0, 0, 0, 0] ++ ([0, 0, 0, 0] ++ ([0, 0, 0, 0] ++ ([0, 0, 0, 0] ++ ([0, 0, 0, 0] ++ ([4, 0, 0, 0] ++ ([G, 0, 0, 0] ++ ([4, 0, 0, 0] ++ ([I, 128, 0, 0] ++ ([0, 0, 0, 0] ++ (List.replicate 56 0 ++ xo 8 456))))))))))))))))
theorem zjT (n g i : Nat) (hn : n < 256) (hg : g < 256) (hi : i < 256) : zJ (zaH [sdN (n : Int), yS (g : Int), yS (i : Int)]).data.toList = sdP (UInt8.ofNat n) (UInt8.ofNat g) (UInt8.ofNat i) := by
  have e : zaH [sdN (n : Int), yS (g : Int), yS (i : Int)] = ((((⟨#[2]⟩ : ByteArray) ++ yS ((3 : Nat) : Int)) ++ (yS ((sdN (n : Int)).size : Int) ++ sdN (n : Int))) ++ (yS ((yS (g : Int)).size : Int) ++ yS (g : Int))) ++ (yS ((yS (i : Int)).size : Int) ++ yS (i : Int)) := rfl
  rw [e, zaz, yU, yU]
  simp only [qv]
  rw [ql 3 (by decide), ql 32 (by decide), ql 4 (by decide), ql g hg, ql i hi, zjV n hn]
  rfl
theorem zkF (n g i : Nat) (hn : n < 256) (hg : g < 256) (hi : i < 256) : wdL (sdP (UInt8.ofNat n) (UInt8.ofNat g) (UInt8.ofNat i)) 0 = 33554432 := by
  have h : wdL (sdP (UInt8.ofNat n) (UInt8.ofNat g) (UInt8.ofNat i)) 0 = _ := yF _ _ _ _ _
  rw [h]
  rfl
theorem zkE (n g i : Nat) (hn : n < 256) (hg : g < 256) (hi : i < 256) : wdL (sdP (UInt8.ofNat n) (UInt8.ofNat g) (UInt8.ofNat i)) 1 = 50331648 := by
  have h : wdL (sdP (UInt8.ofNat n) (UInt8.ofNat g) (UInt8.ofNat i)) 1 = _ := (zf _ _ _ _ _ 0).trans (yF _ _ _ _ _)
  rw [h]
  rfl
theorem zko (n g i : Nat) (hn : n < 256) (hg : g < 256) (hi : i < 256) : wdL (sdP (UInt8.ofNat n) (UInt8.ofNat g) (UInt8.ofNat i)) 2 = 536870912 + n * 65536 := by
  have h : wdL (sdP (UInt8.ofNat n) (UInt8.ofNat g) (UInt8.ofNat i)) 2 = _ := (zf _ _ _ _ _ 1).trans ((zf _ _ _ _ _ 0).trans (yF _ _ _ _ _))
  rw [h]
  show wE 32 (UInt8.ofNat n).toNat 0 0 = _
  rw [UInt8.toNat_ofNat']; unfold wE; omega
theorem zkX (n g i : Nat) (hn : n < 256) (hg : g < 256) (hi : i < 256) : wdL (sdP (UInt8.ofNat n) (UInt8.ofNat g) (UInt8.ofNat i)) 3 = 0 := by
  have h : wdL (sdP (UInt8.ofNat n) (UInt8.ofNat g) (UInt8.ofNat i)) 3 = _ := (zf _ _ _ _ _ 2).trans ((zf _ _ _ _ _ 1).trans ((zf _ _ _ _ _ 0).trans (yF _ _ _ _ _)))
  rw [h]
  rfl
theorem zkL (n g i : Nat) (hn : n < 256) (hg : g < 256) (hi : i < 256) : wdL (sdP (UInt8.ofNat n) (UInt8.ofNat g) (UInt8.ofNat i)) 4 = 0 := by
  have h : wdL (sdP (UInt8.ofNat n) (UInt8.ofNat g) (UInt8.ofNat i)) 4 = _ := (zf _ _ _ _ _ 3).trans ((zf _ _ _ _ _ 2).trans ((zf _ _ _ _ _ 1).trans ((zf _ _ _ _ _ 0).trans (yF _ _ _ _ _))))
  rw [h]
  rfl
theorem zkt (n g i : Nat) (hn : n < 256) (hg : g < 256) (hi : i < 256) : wdL (sdP (UInt8.ofNat n) (UInt8.ofNat g) (UInt8.ofNat i)) 5 = 0 := by
  have h : wdL (sdP (UInt8.ofNat n) (UInt8.ofNat g) (UInt8.ofNat i)) 5 = _ := (zf _ _ _ _ _ 4).trans ((zf _ _ _ _ _ 3).trans ((zf _ _ _ _ _ 2).trans ((zf _ _ _ _ _ 1).trans ((zf _ _ _ _ _ 0).trans (yF _ _ _ _ _)))))
  rw [h]
  rfl
theorem zkr (n g i : Nat) (hn : n < 256) (hg : g < 256) (hi : i < 256) : wdL (sdP (UInt8.ofNat n) (UInt8.ofNat g) (UInt8.ofNat i)) 6 = 0 := by
  have h : wdL (sdP (UInt8.ofNat n) (UInt8.ofNat g) (UInt8.ofNat i)) 6 = _ := (zf _ _ _ _ _ 5).trans ((zf _ _ _ _ _ 4).trans ((zf _ _ _ _ _ 3).trans ((zf _ _ _ _ _ 2).trans ((zf _ _ _ _ _ 1).trans ((zf _ _ _ _ _ 0).trans (yF _ _ _ _ _))))))
  rw [h]
  rfl
theorem zkp (n g i : Nat) (hn : n < 256) (hg : g < 256) (hi : i < 256) : wdL (sdP (UInt8.ofNat n) (UInt8.ofNat g) (UInt8.ofNat i)) 7 = 0 := by
  have h : wdL (sdP (UInt8.ofNat n) (UInt8.ofNat g) (UInt8.ofNat i)) 7 = _ := (zf _ _ _ _ _ 6).trans ((zf _ _ _ _ _ 5).trans ((zf _ _ _ _ _ 4).trans ((zf _ _ _ _ _ 3).trans ((zf _ _ _ _ _ 2).trans ((zf _ _ _ _ _ 1).trans ((zf _ _ _ _ _ 0).trans (yF _ _ _ _ _)))))))
  rw [h]
  rfl
theorem zkU (n g i : Nat) (hn : n < 256) (hg : g < 256) (hi : i < 256) : wdL (sdP (UInt8.ofNat n) (UInt8.ofNat g) (UInt8.ofNat i)) 8 = 0 := by
  have h : wdL (sdP (UInt8.ofNat n) (UInt8.ofNat g) (UInt8.ofNat i)) 8 = _ := (zf _ _ _ _ _ 7).trans ((zf _ _ _ _ _ 6).trans ((zf _ _ _ _ _ 5).trans ((zf _ _ _ _ _ 4).trans ((zf _ _ _ _ _ 3).trans ((zf _ _ _ _ _ 2).trans ((zf _ _ _ _ _ 1).trans ((zf _ _ _ _ _ 0).trans (yF _ _ _ _ _))))))))
  rw [h]
  rfl
theorem zkD (n g i : Nat) (hn : n < 256) (hg : g < 256) (hi : i < 256) : wdL (sdP (UInt8.ofNat n) (UInt8.ofNat g) (UInt8.ofNat i)) 9 = 0 := by
  have h : wdL (sdP (UInt8.ofNat n) (UInt8.ofNat g) (UInt8.ofNat i)) 9 = _ := (zf _ _ _ _ _ 8).trans ((zf _ _ _ _ _ 7).trans ((zf _ _ _ _ _ 6).trans ((zf _ _ _ _ _ 5).trans ((zf _ _ _ _ _ 4).trans ((zf _ _ _ _ _ 3).trans ((zf _ _ _ _ _ 2).trans ((zf _ _ _ _ _ 1).trans ((zf _ _ _ _ _ 0).trans (yF _ _ _ _ _)))))))))
  rw [h]
  rfl
theorem zjQ (n g i : Nat) (hn : n < 256) (hg : g < 256) (hi : i < 256) : wdL (sdP (UInt8.ofNat n) (UInt8.ofNat g) (UInt8.ofNat i)) 10 = 0 := by
  have h : wdL (sdP (UInt8.ofNat n) (UInt8.ofNat g) (UInt8.ofNat i)) 10 = _ := (zf _ _ _ _ _ 9).trans ((zf _ _ _ _ _ 8).trans ((zf _ _ _ _ _ 7).trans ((zf _ _ _ _ _ 6).trans ((zf _ _ _ _ _ 5).trans ((zf _ _ _ _ _ 4).trans ((zf _ _ _ _ _ 3).trans ((zf _ _ _ _ _ 2).trans ((zf _ _ _ _ _ 1).trans ((zf _ _ _ _ _ 0).trans (yF _ _ _ _ _))))))))))
  rw [h]
  rfl
theorem zjv (n g i : Nat) (hn : n < 256) (hg : g < 256) (hi : i < 256) : wdL (sdP (UInt8.ofNat n) (UInt8.ofNat g) (UInt8.ofNat i)) 11 = 67108864 := by
  have h : wdL (sdP (UInt8.ofNat n) (UInt8.ofNat g) (UInt8.ofNat i)) 11 = _ := (zf _ _ _ _ _ 10).trans ((zf _ _ _ _ _ 9).trans ((zf _ _ _ _ _ 8).trans ((zf _ _ _ _ _ 7).trans ((zf _ _ _ _ _ 6).trans ((zf _ _ _ _ _ 5).trans ((zf _ _ _ _ _ 4).trans ((zf _ _ _ _ _ 3).trans ((zf _ _ _ _ _ 2).trans ((zf _ _ _ _ _ 1).trans ((zf _ _ _ _ _ 0).trans (yF _ _ _ _ _)))))))))))
  rw [h]
  rfl
theorem zjX (n g i : Nat) (hn : n < 256) (hg : g < 256) (hi : i < 256) : wdL (sdP (UInt8.ofNat n) (UInt8.ofNat g) (UInt8.ofNat i)) 12 = g * 16777216 := by
  have h : wdL (sdP (UInt8.ofNat n) (UInt8.ofNat g) (UInt8.ofNat i)) 12 = _ := (zf _ _ _ _ _ 11).trans ((zf _ _ _ _ _ 10).trans ((zf _ _ _ _ _ 9).trans ((zf _ _ _ _ _ 8).trans ((zf _ _ _ _ _ 7).trans ((zf _ _ _ _ _ 6).trans ((zf _ _ _ _ _ 5).trans ((zf _ _ _ _ _ 4).trans ((zf _ _ _ _ _ 3).trans ((zf _ _ _ _ _ 2).trans ((zf _ _ _ _ _ 1).trans ((zf _ _ _ _ _ 0).trans (yF _ _ _ _ _))))))))))))
  rw [h]
  show wE (UInt8.ofNat g).toNat 0 0 0 = _
  rw [UInt8.toNat_ofNat']; unfold wE; omega
theorem zjF (n g i : Nat) (hn : n < 256) (hg : g < 256) (hi : i < 256) : wdL (sdP (UInt8.ofNat n) (UInt8.ofNat g) (UInt8.ofNat i)) 13 = 67108864 := by
  have h : wdL (sdP (UInt8.ofNat n) (UInt8.ofNat g) (UInt8.ofNat i)) 13 = _ := (zf _ _ _ _ _ 12).trans ((zf _ _ _ _ _ 11).trans ((zf _ _ _ _ _ 10).trans ((zf _ _ _ _ _ 9).trans ((zf _ _ _ _ _ 8).trans ((zf _ _ _ _ _ 7).trans ((zf _ _ _ _ _ 6).trans ((zf _ _ _ _ _ 5).trans ((zf _ _ _ _ _ 4).trans ((zf _ _ _ _ _ 3).trans ((zf _ _ _ _ _ 2).trans ((zf _ _ _ _ _ 1).trans ((zf _ _ _ _ _ 0).trans (yF _ _ _ _ _)))))))))))))
  rw [h]
  rfl
theorem zjK (n g i : Nat) (hn : n < 256) (hg : g < 256) (hi : i < 256) : wdL (sdP (UInt8.ofNat n) (UInt8.ofNat g) (UInt8.ofNat i)) 14 = i * 16777216 + 8388608 := by
  have h : wdL (sdP (UInt8.ofNat n) (UInt8.ofNat g) (UInt8.ofNat i)) 14 = _ := (zf _ _ _ _ _ 13).trans ((zf _ _ _ _ _ 12).trans ((zf _ _ _ _ _ 11).trans ((zf _ _ _ _ _ 10).trans ((zf _ _ _ _ _ 9).trans ((zf _ _ _ _ _ 8).trans ((zf _ _ _ _ _ 7).trans ((zf _ _ _ _ _ 6).trans ((zf _ _ _ _ _ 5).trans ((zf _ _ _ _ _ 4).trans ((zf _ _ _ _ _ 3).trans ((zf _ _ _ _ _ 2).trans ((zf _ _ _ _ _ 1).trans ((zf _ _ _ _ _ 0).trans (yF _ _ _ _ _))))))))))))))
  rw [h]
  show wE (UInt8.ofNat i).toNat 128 0 0 = _
  rw [UInt8.toNat_ofNat']; unfold wE; omega
theorem zj4 (n g i : Nat) (hn : n < 256) (hg : g < 256) (hi : i < 256) : wdL (sdP (UInt8.ofNat n) (UInt8.ofNat g) (UInt8.ofNat i)) 15 = 0 := by
  have h : wdL (sdP (UInt8.ofNat n) (UInt8.ofNat g) (UInt8.ofNat i)) 15 = _ := (zf _ _ _ _ _ 14).trans ((zf _ _ _ _ _ 13).trans ((zf _ _ _ _ _ 12).trans ((zf _ _ _ _ _ 11).trans ((zf _ _ _ _ _ 10).trans ((zf _ _ _ _ _ 9).trans ((zf _ _ _ _ _ 8).trans ((zf _ _ _ _ _ 7).trans ((zf _ _ _ _ _ 6).trans ((zf _ _ _ _ _ 5).trans ((zf _ _ _ _ _ 4).trans ((zf _ _ _ _ _ 3).trans ((zf _ _ _ _ _ 2).trans ((zf _ _ _ _ _ 1).trans ((zf _ _ _ _ _ 0).trans (yF _ _ _ _ _)))))))))))))))
  rw [h]
  rfl
set_option maxRecDepth 4000 in
theorem zi5 (N G I : UInt8) : (sdP N G I).length = 128 := rfl
set_option maxRecDepth 4000 in
theorem zgI (N G I : UInt8) : (sdP N G I).drop 64 = List.replicate 56 0 ++ xo 8 456 := rfl
set_option maxRecDepth 4000 in
theorem zjR : wdL (List.replicate 56 0 ++ xo 8 456) 15 = 456 ∧ ∀ t, t < 15 → wdL (List.replicate 56 0 ++ xo 8 456) t = 0 := by decide +kernel
theorem qQ (n g i : Nat) (hn : n < 256) (hg : g < 256) (hi : i < 256) (j : Nat) (hj : j < 8) : wd (sdS (sdN (n : Int)) (g : Int) (i : Int)) j = (xl (xl hN (wdL (sdP (UInt8.ofNat n) (UInt8.ofNat g) (UInt8.ofNat i)))) (wdL (List.replicate 56 0 ++ xo 8 456))).l.getD j 0 := by
  unfold sdS
  rw [zgg _ 2 (by rw [zjT n g i hn hg hi, zi5]) j hj, zjT n g i hn hg hi, xU, xU, wP, zgI]
def zh3 (M O : Nat) (k : Nat → Nat → Nat → Nat → Nat → Nat → Nat → Nat → Bool) (w2 w12 w14 : Nat) : Bool :=
  sC0 M O (fun a b c d e f g h => sC M O k a b c d e f g h 0 0 0 0 0 0 0 0 0 0 0 0 0 0 0 (Nat.mul O 456)) (Nat.mul O 33554432) (Nat.mul O 50331648) w2 0 0 0 0 0 0 0 0 (Nat.mul O 67108864) w12 (Nat.mul O 67108864) w14 0
theorem zgt {n : Nat} {N G I : Nat → Nat} (hN' : ∀ i, i < n → N i < 256) (hG : ∀ i, i < n → G i < 256) (hI : ∀ i, i < n → I i < 256) (k : Nat → Nat → Nat → Nat → Nat → Nat → Nat → Nat → Bool) :
    zh3 (vM n) (vO n) k (vN (fun i => 536870912 + N i * 65536) n) (vN (fun i => G i * 16777216) n) (vN (fun i => I i * 16777216 + 8388608) n) =
    k (vN (fun i => wd (sdS (sdN (N i : Int)) (G i : Int) (I i : Int)) 0) n) (vN (fun i => wd (sdS (sdN (N i : Int)) (G i : Int) (I i : Int)) 1) n) (vN (fun i => wd (sdS (sdN (N i : Int)) (G i : Int) (I i : Int)) 2) n) (vN (fun i => wd (sdS (sdN (N i : Int)) (G i : Int) (I i : Int)) 3) n) (vN (fun i => wd (sdS (sdN (N i : Int)) (G i : Int) (I i : Int)) 4) n) (vN (fun i => wd (sdS (sdN (N i : Int)) (G i : Int) (I i : Int)) 5) n) (vN (fun i => wd (sdS (sdN (N i : Int)) (G i : Int) (I i : Int)) 6) n) (vN (fun i => wd (sdS (sdN (N i : Int)) (G i : Int) (I i : Int)) 7) n) := by
  unfold zh3 sC0
  have h0 := zfl (n := n) (h := fun _ => hN) (W := fun i => wdL (sdP (UInt8.ofNat (N i)) (UInt8.ofNat (G i)) (UInt8.ofNat (I i)))) (fun _ _ => zfj) (fun _ _ _ _ => js _ _) (fun u0 u1 u2 u3 u4 u5 u6 u7 => sC (vM n) (vO n) k u0 u1 u2 u3 u4 u5 u6 u7 0 0 0 0 0 0 0 0 0 0 0 0 0 0 0 (Nat.mul (vO n) 456))
  have e0 : vN (fun i => wdL (sdP (UInt8.ofNat (N i)) (UInt8.ofNat (G i)) (UInt8.ofNat (I i))) 0) n = Nat.mul (vO n) 33554432 := ((zb n fun i hi => zkF _ _ _ (hN' i hi) (hG i hi) (hI i hi)) : vN (fun i => wdL (sdP (UInt8.ofNat (N i)) (UInt8.ofNat (G i)) (UInt8.ofNat (I i))) 0) n = vN (fun _ => 33554432) n).trans (yy _ n).symm
  have e1 : vN (fun i => wdL (sdP (UInt8.ofNat (N i)) (UInt8.ofNat (G i)) (UInt8.ofNat (I i))) 1) n = Nat.mul (vO n) 50331648 := ((zb n fun i hi => zkE _ _ _ (hN' i hi) (hG i hi) (hI i hi)) : vN (fun i => wdL (sdP (UInt8.ofNat (N i)) (UInt8.ofNat (G i)) (UInt8.ofNat (I i))) 1) n = vN (fun _ => 50331648) n).trans (yy _ n).symm
  have e2 : vN (fun i => wdL (sdP (UInt8.ofNat (N i)) (UInt8.ofNat (G i)) (UInt8.ofNat (I i))) 2) n = vN (fun i => 536870912 + N i * 65536) n := zb n fun i hi => zko _ _ _ (hN' i hi) (hG i hi) (hI i hi)
  have e3 : vN (fun i => wdL (sdP (UInt8.ofNat (N i)) (UInt8.ofNat (G i)) (UInt8.ofNat (I i))) 3) n = 0 := ((zb n fun i hi => zkX _ _ _ (hN' i hi) (hG i hi) (hI i hi)) : vN (fun i => wdL (sdP (UInt8.ofNat (N i)) (UInt8.ofNat (G i)) (UInt8.ofNat (I i))) 3) n = vN (fun _ => 0) n).trans (zu n)
  have e4 : vN (fun i => wdL (sdP (UInt8.ofNat (N i)) (UInt8.ofNat (G i)) (UInt8.ofNat (I i))) 4) n = 0 := ((zb n fun i hi => zkL _ _ _ (hN' i hi) (hG i hi) (hI i hi)) : vN (fun i => wdL (sdP (UInt8.ofNat (N i)) (UInt8.ofNat (G i)) (UInt8.ofNat (I i))) 4) n = vN (fun _ => 0) n).trans (zu n)
  have e5 : vN (fun i => wdL (sdP (UInt8.ofNat (N i)) (UInt8.ofNat (G i)) (UInt8.ofNat (I i))) 5) n = 0 := ((zb n fun i hi => zkt _ _ _ (hN' i hi) (hG i hi) (hI i hi)) : vN (fun i => wdL (sdP (UInt8.ofNat (N i)) (UInt8.ofNat (G i)) (UInt8.ofNat (I i))) 5) n = vN (fun _ => 0) n).trans (zu n)
  have e6 : vN (fun i => wdL (sdP (UInt8.ofNat (N i)) (UInt8.ofNat (G i)) (UInt8.ofNat (I i))) 6) n = 0 := ((zb n fun i hi => zkr _ _ _ (hN' i hi) (hG i hi) (hI i hi)) : vN (fun i => wdL (sdP (UInt8.ofNat (N i)) (UInt8.ofNat (G i)) (UInt8.ofNat (I i))) 6) n = vN (fun _ => 0) n).trans (zu n)
  have e7 : vN (fun i => wdL (sdP (UInt8.ofNat (N i)) (UInt8.ofNat (G i)) (UInt8.ofNat (I i))) 7) n = 0 := ((zb n fun i hi => zkp _ _ _ (hN' i hi) (hG i hi) (hI i hi)) : vN (fun i => wdL (sdP (UInt8.ofNat (N i)) (UInt8.ofNat (G i)) (UInt8.ofNat (I i))) 7) n = vN (fun _ => 0) n).trans (zu n)
  have e8 : vN (fun i => wdL (sdP (UInt8.ofNat (N i)) (UInt8.ofNat (G i)) (UInt8.ofNat (I i))) 8) n = 0 := ((zb n fun i hi => zkU _ _ _ (hN' i hi) (hG i hi) (hI i hi)) : vN (fun i => wdL (sdP (UInt8.ofNat (N i)) (UInt8.ofNat (G i)) (UInt8.ofNat (I i))) 8) n = vN (fun _ => 0) n).trans (zu n)
  have e9 : vN (fun i => wdL (sdP (UInt8.ofNat (N i)) (UInt8.ofNat (G i)) (UInt8.ofNat (I i))) 9) n = 0 := ((zb n fun i hi => zkD _ _ _ (hN' i hi) (hG i hi) (hI i hi)) : vN (fun i => wdL (sdP (UInt8.ofNat (N i)) (UInt8.ofNat (G i)) (UInt8.ofNat (I i))) 9) n = vN (fun _ => 0) n).trans (zu n)
  have e10 : vN (fun i => wdL (sdP (UInt8.ofNat (N i)) (UInt8.ofNat (G i)) (UInt8.ofNat (I i))) 10) n = 0 := ((zb n fun i hi => zjQ _ _ _ (hN' i hi) (hG i hi) (hI i hi)) : vN (fun i => wdL (sdP (UInt8.ofNat (N i)) (UInt8.ofNat (G i)) (UInt8.ofNat (I i))) 10) n = vN (fun _ => 0) n).trans (zu n)
  have e11 : vN (fun i => wdL (sdP (UInt8.ofNat (N i)) (UInt8.ofNat (G i)) (UInt8.ofNat (I i))) 11) n = Nat.mul (vO n) 67108864 := ((zb n fun i hi => zjv _ _ _ (hN' i hi) (hG i hi) (hI i hi)) : vN (fun i => wdL (sdP (UInt8.ofNat (N i)) (UInt8.ofNat (G i)) (UInt8.ofNat (I i))) 11) n = vN (fun _ => 67108864) n).trans (yy _ n).symm
  have e12 : vN (fun i => wdL (sdP (UInt8.ofNat (N i)) (UInt8.ofNat (G i)) (UInt8.ofNat (I i))) 12) n = vN (fun i => G i * 16777216) n := zb n fun i hi => zjX _ _ _ (hN' i hi) (hG i hi) (hI i hi)
  have e13 : vN (fun i => wdL (sdP (UInt8.ofNat (N i)) (UInt8.ofNat (G i)) (UInt8.ofNat (I i))) 13) n = Nat.mul (vO n) 67108864 := ((zb n fun i hi => zjF _ _ _ (hN' i hi) (hG i hi) (hI i hi)) : vN (fun i => wdL (sdP (UInt8.ofNat (N i)) (UInt8.ofNat (G i)) (UInt8.ofNat (I i))) 13) n = vN (fun _ => 67108864) n).trans (yy _ n).symm
  have e14 : vN (fun i => wdL (sdP (UInt8.ofNat (N i)) (UInt8.ofNat (G i)) (UInt8.ofNat (I i))) 14) n = vN (fun i => I i * 16777216 + 8388608) n := zb n fun i hi => zjK _ _ _ (hN' i hi) (hG i hi) (hI i hi)
  have e15 : vN (fun i => wdL (sdP (UInt8.ofNat (N i)) (UInt8.ofNat (G i)) (UInt8.ofNat (I i))) 15) n = 0 := ((zb n fun i hi => zj4 _ _ _ (hN' i hi) (hG i hi) (hI i hi)) : vN (fun i => wdL (sdP (UInt8.ofNat (N i)) (UInt8.ofNat (G i)) (UInt8.ofNat (I i))) 15) n = vN (fun _ => 0) n).trans (zu n)
  rw [e0, e1, e2, e3, e4, e5, e6, e7, e8, e9, e10, e11, e12, e13, e14, e15] at h0
  simp only [← yy] at h0
  rw [h0]
  have h1 := zfl (n := n) (h := fun i => xl hN (wdL (sdP (UInt8.ofNat (N i)) (UInt8.ofNat (G i)) (UInt8.ofNat (I i))))) (W := fun _ => wdL (List.replicate 56 0 ++ xo 8 456)) (fun _ _ => zaS _ _) (fun _ _ _ _ => js _ _) k
  obtain ⟨w15, wz⟩ := zjR
  have w0 : wdL (List.replicate 56 0 ++ xo 8 456) 0 = 0 := wz 0 (by decide)
  have w1 : wdL (List.replicate 56 0 ++ xo 8 456) 1 = 0 := wz 1 (by decide)
  have w2 : wdL (List.replicate 56 0 ++ xo 8 456) 2 = 0 := wz 2 (by decide)
  have w3 : wdL (List.replicate 56 0 ++ xo 8 456) 3 = 0 := wz 3 (by decide)
  have w4 : wdL (List.replicate 56 0 ++ xo 8 456) 4 = 0 := wz 4 (by decide)
  have w5 : wdL (List.replicate 56 0 ++ xo 8 456) 5 = 0 := wz 5 (by decide)
  have w6 : wdL (List.replicate 56 0 ++ xo 8 456) 6 = 0 := wz 6 (by decide)
  have w7 : wdL (List.replicate 56 0 ++ xo 8 456) 7 = 0 := wz 7 (by decide)
  have w8 : wdL (List.replicate 56 0 ++ xo 8 456) 8 = 0 := wz 8 (by decide)
  have w9 : wdL (List.replicate 56 0 ++ xo 8 456) 9 = 0 := wz 9 (by decide)
  have w10 : wdL (List.replicate 56 0 ++ xo 8 456) 10 = 0 := wz 10 (by decide)
  have w11 : wdL (List.replicate 56 0 ++ xo 8 456) 11 = 0 := wz 11 (by decide)
  have w12 : wdL (List.replicate 56 0 ++ xo 8 456) 12 = 0 := wz 12 (by decide)
  have w13 : wdL (List.replicate 56 0 ++ xo 8 456) 13 = 0 := wz 13 (by decide)
  have w14 : wdL (List.replicate 56 0 ++ xo 8 456) 14 = 0 := wz 14 (by decide)
  rw [w0, w1, w2, w3, w4, w5, w6, w7, w8, w9, w10, w11, w12, w13, w14, w15, zu] at h1
  rw [← yy] at h1
  rw [h1]
  have p0 : (vN (fun i => wd (sdS (sdN (N i : Int)) (G i : Int) (I i : Int)) 0) n) = vN (fun i => (xl (xl hN (wdL (sdP (UInt8.ofNat (N i)) (UInt8.ofNat (G i)) (UInt8.ofNat (I i))))) (wdL (List.replicate 56 0 ++ xo 8 456))).a) n := zb n fun i hi => (qQ _ _ _ (hN' i hi) (hG i hi) (hI i hi) 0 (by decide)).trans (zkz _)
  have p1 : (vN (fun i => wd (sdS (sdN (N i : Int)) (G i : Int) (I i : Int)) 1) n) = vN (fun i => (xl (xl hN (wdL (sdP (UInt8.ofNat (N i)) (UInt8.ofNat (G i)) (UInt8.ofNat (I i))))) (wdL (List.replicate 56 0 ++ xo 8 456))).b) n := zb n fun i hi => (qQ _ _ _ (hN' i hi) (hG i hi) (hI i hi) 1 (by decide)).trans (zkH _)
  have p2 : (vN (fun i => wd (sdS (sdN (N i : Int)) (G i : Int) (I i : Int)) 2) n) = vN (fun i => (xl (xl hN (wdL (sdP (UInt8.ofNat (N i)) (UInt8.ofNat (G i)) (UInt8.ofNat (I i))))) (wdL (List.replicate 56 0 ++ xo 8 456))).c) n := zb n fun i hi => (qQ _ _ _ (hN' i hi) (hG i hi) (hI i hi) 2 (by decide)).trans (zkC _)
  have p3 : (vN (fun i => wd (sdS (sdN (N i : Int)) (G i : Int) (I i : Int)) 3) n) = vN (fun i => (xl (xl hN (wdL (sdP (UInt8.ofNat (N i)) (UInt8.ofNat (G i)) (UInt8.ofNat (I i))))) (wdL (List.replicate 56 0 ++ xo 8 456))).d) n := zb n fun i hi => (qQ _ _ _ (hN' i hi) (hG i hi) (hI i hi) 3 (by decide)).trans (zkT _)
  have p4 : (vN (fun i => wd (sdS (sdN (N i : Int)) (G i : Int) (I i : Int)) 4) n) = vN (fun i => (xl (xl hN (wdL (sdP (UInt8.ofNat (N i)) (UInt8.ofNat (G i)) (UInt8.ofNat (I i))))) (wdL (List.replicate 56 0 ++ xo 8 456))).e) n := zb n fun i hi => (qQ _ _ _ (hN' i hi) (hG i hi) (hI i hi) 4 (by decide)).trans (zkY _)
  have p5 : (vN (fun i => wd (sdS (sdN (N i : Int)) (G i : Int) (I i : Int)) 5) n) = vN (fun i => (xl (xl hN (wdL (sdP (UInt8.ofNat (N i)) (UInt8.ofNat (G i)) (UInt8.ofNat (I i))))) (wdL (List.replicate 56 0 ++ xo 8 456))).f) n := zb n fun i hi => (qQ _ _ _ (hN' i hi) (hG i hi) (hI i hi) 5 (by decide)).trans (zkZ _)
  have p6 : (vN (fun i => wd (sdS (sdN (N i : Int)) (G i : Int) (I i : Int)) 6) n) = vN (fun i => (xl (xl hN (wdL (sdP (UInt8.ofNat (N i)) (UInt8.ofNat (G i)) (UInt8.ofNat (I i))))) (wdL (List.replicate 56 0 ++ xo 8 456))).g) n := zb n fun i hi => (qQ _ _ _ (hN' i hi) (hG i hi) (hI i hi) 6 (by decide)).trans (zk2 _)
  have p7 : (vN (fun i => wd (sdS (sdN (N i : Int)) (G i : Int) (I i : Int)) 7) n) = vN (fun i => (xl (xl hN (wdL (sdP (UInt8.ofNat (N i)) (UInt8.ofNat (G i)) (UInt8.ofNat (I i))))) (wdL (List.replicate 56 0 ++ xo 8 456))).h) n := zb n fun i hi => (qQ _ _ _ (hN' i hi) (hG i hi) (hI i hi) 7 (by decide)).trans (zk0 _)
  rw [p0, p1, p2, p3, p4, p5, p6, p7]
def rho (q : Nat) : Nat := [0, 4, 2, 6, 1, 5, 3, 7].getD q 0
def zhD (q : Nat) : Nat := [0, 2, 1, 3].getD q 0
theorem zju : ∀ q, q < 4 → rho q = 2 * zhD q ∧ rho (4 + q) = 2 * zhD q + 1 := by decide
theorem zij : ∀ q, q < 2 → zhD q = 2 * id q ∧ zhD (2 + q) = 2 * id q + 1 := by decide
theorem zkB : ∀ q, q < 1 → id q = 2 * (fun _ => 0) q ∧ id (1 + q) = 2 * (fun _ => 0) q + 1 := by decide
theorem zj8 : ∀ q, q < 8 → rho q < 256 := by decide
theorem lev {S : Nat → ByteArray} {K k m : Nat} (hK : 0 < K) {r r' : Nat → Nat} (h : ∀ q, q < m → r q = 2 * r' q ∧ r (m + q) = 2 * r' q + 1) (i : Nat) (hi : i < K * m) :
    jf (ktL (S (i % K)) k (r (i / K))) (ktL (S ((K * m + i) % K)) k (r ((K * m + i) / K))) = ktL (S (i % K)) (k + 1) (r' (i / K)) := by
  have hq : i / K < m := Nat.div_lt_of_lt_mul hi
  obtain ⟨h1, h2⟩ := h (i / K) hq
  rw [Nat.mul_add_mod, Nat.mul_add_div hK, h1, h2, ktL]
def zkK (K : Nat) (k : Nat → Bool) (w2 w12 w14 : Nat) : Bool :=
  zh3 (mM K) (mO K) (fun s0 s1 s2 s3 s4 s5 s6 s7 => fSd (mM (K * 8)) (mO (K * 8)) (fun t0 t1 t2 t3 t4 t5 t6 t7 => zkn (mM (K * 8)) (mO (K * 8)) (fun p0 p1 p2 p3 => fLf (mM (K * 8)) (mO (K * 8)) (fun x0 x1 x2 x3 =>
    fUp (K * 4) (fun y0 y1 y2 y3 => fUp (K * 2) (fun z0 z1 z2 z3 => fUp (K * 1) (fun v0 v1 v2 v3 => fRt (mM K) (mO K) (fun r0 _ _ _ _ _ _ _ => k r0) v0 v1 v2 v3) z0 z1 z2 z3) y0 y1 y2 y3) x0 x1 x2 x3) p0 p1 p2 p3) t0 t1 t2 t3 t4 t5 t6 t7)
    (Nat.mul s0 (cQ (2 ^ (64 * K)) [1, 1, 1, 1, 1, 1, 1, 1])) (Nat.mul s1 (cQ (2 ^ (64 * K)) [1, 1, 1, 1, 1, 1, 1, 1])) (Nat.mul s2 (cQ (2 ^ (64 * K)) [1, 1, 1, 1, 1, 1, 1, 1])) (Nat.mul s3 (cQ (2 ^ (64 * K)) [1, 1, 1, 1, 1, 1, 1, 1])) (Nat.mul s4 (cQ (2 ^ (64 * K)) [1, 1, 1, 1, 1, 1, 1, 1])) (Nat.mul s5 (cQ (2 ^ (64 * K)) [1, 1, 1, 1, 1, 1, 1, 1])) (Nat.mul s6 (cQ (2 ^ (64 * K)) [1, 1, 1, 1, 1, 1, 1, 1])) (Nat.mul s7 (cQ (2 ^ (64 * K)) [1, 1, 1, 1, 1, 1, 1, 1])) (Nat.mul (mO K) (cQ (2 ^ (64 * K)) [8388608, 75497472, 41943040, 109051904, 25165824, 92274688, 58720256, 125829120]))) w2 w12 w14
theorem zky : ∀ q, q < 8 → [1, 1, 1, 1, 1, 1, 1, 1].getD q 0 = 1 := by decide
theorem zkJ : ∀ q, q < 8 → [8388608, 75497472, 41943040, 109051904, 25165824, 92274688, 58720256, 125829120].getD q 0 = rho q * 16777216 + 8388608 := by decide
theorem zh2 {K : Nat} (hK : 0 < K) {N G I : Nat → Nat} (hN' : ∀ i, i < K → N i < 256) (hG : ∀ i, i < K → G i < 256) (hI : ∀ i, i < K → I i < 256) (k : Nat → Bool) :
    zkK K k (vN (fun i => 536870912 + N i * 65536) K) (vN (fun i => G i * 16777216) K) (vN (fun i => I i * 16777216 + 8388608) K) =
    k (vN (fun i => wd (ktP (sdS (sdN (N i : Int)) (G i : Int) (I i : Int))) 0) K) := by
  unfold zkK
  simp only [zjx, zhU]
  rw [zgt hN' hG hI]
  generalize hS : (fun i => sdS (sdN (N i : Int)) (G i : Int) (I i : Int)) = S
  have hS' : ∀ i, sdS (sdN (N i : Int)) (G i : Int) (I i : Int) = S i := fun i => by rw [← hS]
  simp only [hS']
  have zS : ∀ i, (S i).size = 32 := fun i => by rw [← hS]; exact qi _ _ _
  have hq : ∀ i, i < K * 8 → i / K < 8 := fun i hi => Nat.div_lt_of_lt_mul hi
  have rp : ∀ j, Nat.mul (vN (fun i => wd (S i) j) K) (cQ (2 ^ (64 * K)) [1, 1, 1, 1, 1, 1, 1, 1]) = vN (fun i => wd (S (i % K)) j) (K * 8) := fun j =>
    (zi7 (fun i => wd (S i) j) K hK [1, 1, 1, 1, 1, 1, 1, 1]).symm.trans (zb (K * 8) fun i hi => by rw [zky _ (hq i hi), Nat.one_mul])
  have ru : Nat.mul (vO K) (cQ (2 ^ (64 * K)) [8388608, 75497472, 41943040, 109051904, 25165824, 92274688, 58720256, 125829120]) = vN (fun i => rho (i / K) * 16777216 + 8388608) (K * 8) :=
    (zi7 (fun _ => 1) K hK [8388608, 75497472, 41943040, 109051904, 25165824, 92274688, 58720256, 125829120]).symm.trans (zb (K * 8) fun i hi => by rw [zkJ _ (hq i hi), Nat.mul_one])
  rw [rp, rp, rp, rp, rp, rp, rp, rp, ru]
  rw [zj6 (g := fun i => S (i % K)) (U := fun i => rho (i / K)) (fun i hi => zj8 _ (hq i hi)) (fun i hi => zS _)]
  rw [zi2 (fun i hi => kU _ _), zjB (g := fun i => kc (va (S (i % K)) ((rho (i / K) : Nat) : Int))) (fun i hi => yH _)]
  have l0 : ∀ i, zg4 (kc (va (S (i % K)) ((rho (i / K) : Nat) : Int))) = ktL (S (i % K)) 0 (rho (i / K)) := fun i => by rw [ktL]
  simp only [l0]
  rw [show K * 8 = K * 4 + K * 4 by omega, ze4 (g := fun i => ktL (S (i % K)) 0 (rho (i / K))) (fun i hi => zO _ _ _)]
  have c1 : ∀ j, vN (fun i => wd (jf (ktL (S (i % K)) 0 (rho (i / K))) (ktL (S ((K * 4 + i) % K)) 0 (rho ((K * 4 + i) / K)))) j) (K * 4) = vN (fun i => wd (ktL (S (i % K)) 1 (zhD (i / K))) j) (K * 4) := fun j => zb _ fun i hi => by rw [lev hK zju i hi]
  rw [c1, c1, c1, c1, show K * 4 = K * 2 + K * 2 by omega, ze4 (g := fun i => ktL (S (i % K)) 1 (zhD (i / K))) (fun i hi => zO _ _ _)]
  have c2 : ∀ j, vN (fun i => wd (jf (ktL (S (i % K)) 1 (zhD (i / K))) (ktL (S ((K * 2 + i) % K)) 1 (zhD ((K * 2 + i) / K)))) j) (K * 2) = vN (fun i => wd (ktL (S (i % K)) 2 (id (i / K))) j) (K * 2) := fun j => zb _ fun i hi => by rw [lev hK zij i hi]
  rw [c2, c2, c2, c2, show K * 2 = K * 1 + K * 1 by omega, ze4 (g := fun i => ktL (S (i % K)) 2 (id (i / K))) (fun i hi => zO _ _ _)]
  have c3 : ∀ j, vN (fun i => wd (jf (ktL (S (i % K)) 2 (id (i / K))) (ktL (S ((K * 1 + i) % K)) 2 (id ((K * 1 + i) / K)))) j) (K * 1) = vN (fun i => wd (ktL (S i) 3 0) j) K := fun j => by
    rw [Nat.mul_one]
    exact zb _ fun i hi => by
      have := lev (S := S) (k := 2) (m := 1) hK zkB i (by omega)
      rw [Nat.mul_one] at this
      rw [this, Nat.mod_eq_of_lt hi]
  rw [c3, c3, c3, c3, zjY (fun i hi => zO _ _ _)]
  rfl
def neV : Nat → Nat → Nat → Bool
  | 0, _, _ => true
  | n + 1, X, Y => (!(Nat.beq (Nat.mod X 18446744073709551616) (Nat.mod Y 18446744073709551616))) && neV n (Nat.shiftRight X 64) (Nat.shiftRight Y 64)
theorem zhy (f : Nat → Nat) (n : Nat) : vN f (n + 1) = 2 ^ (64 * 1) * vN (fun i => f (1 + i)) n + f 0 := by
  rw [Nat.add_comm n 1, vf]
  simp [vN, Nat.add_comm]
theorem zhM : ∀ (n : Nat) (f g : Nat → Nat), (∀ i, f i < 2 ^ 64) → (∀ i, g i < 2 ^ 64) → neV n (vN f n) (vN g n) = true → ∀ i, i < n → f i ≠ g i
  | 0, _, _, _, _, _ => fun i hi => by omega
  | n + 1, f, g, hf, hg, h => by
    have md : ∀ f : Nat → Nat, (∀ i, f i < 2 ^ 64) → Nat.mod (vN f (n + 1)) 18446744073709551616 = f 0 ∧ Nat.shiftRight (vN f (n + 1)) 64 = vN (fun i => f (1 + i)) n := fun f hf => by
      have h0 := hf 0
      rw [zhy]
      refine ⟨?_, ?_⟩
      · show (2 ^ 64 * _ + f 0) % 2 ^ 64 = f 0
        rw [Nat.mul_add_mod, Nat.mod_eq_of_lt h0]
      · show (2 ^ 64 * _ + f 0) >>> 64 = _
        rw [Nat.shiftRight_eq_div_pow, Nat.mul_add_div (by decide), Nat.div_eq_of_lt h0, Nat.add_zero]
    rw [neV, (md f hf).1, (md f hf).2, (md g hg).1, (md g hg).2, Bool.and_eq_true, Bool.not_eq_true'] at h
    intro i hi
    rcases i with _ | i
    · intro e; rw [e] at h; exact absurd h.1 (by simp)
    · have := zhM n _ _ (fun i => hf (1 + i)) (fun i => hg (1 + i)) h.2 i (by omega)
      rw [Nat.add_comm 1 i] at this
      exact this
def zau (S j r : Nat) : Nat := Nat.mod (Nat.shiftRight r (64 * (S * j))) (2 ^ (64 * S))
theorem zgH {f : Nat → Nat} (h : ∀ i, f i < 2 ^ 64) (m S j : Nat) (hj : j < m) : zau S j (vN f (m * S)) = vN (fun i => f (S * j + i)) S := by
  have h1 : S * (j + 1) ≤ S * m := Nat.mul_le_mul_left S hj
  have e : m * S = S * j + (S + (m * S - (S * j + S))) := by
    rw [Nat.mul_add, Nat.mul_one] at h1
    rw [Nat.mul_comm m S] at *
    omega
  unfold zau
  rw [e]
  have a := ze9 (f := f) (a := S * j) (b := S + (m * S - (S * j + S))) (fun i _ => h i)
  have b := zfQ (f := fun i => f (S * j + i)) (a := S) (b := m * S - (S * j + S)) (fun i _ => h _)
  show (vN f (S * j + (S + (m * S - (S * j + S)))) >>> (64 * (S * j))) % 2 ^ (64 * S) = _
  rw [a, b]
def kw (n g i : Nat) : Nat := wd (ktP (sdS (sdN (n : Int)) (g : Int) (i : Int))) 0
theorem ziC (n g i : Nat) : kw n g i < 2 ^ 64 := Nat.lt_of_lt_of_le (yu _ _) (by decide)
theorem zkR {n g i n' g' i' : Nat} (h : kw n g i ≠ kw n' g' i') : ktP (sdS (sdN (n : Int)) (g : Int) (i : Int)) ≠ ktP (sdS (sdN (n' : Int)) (g' : Int) (i' : Int)) := fun e => h (congrArg (wd · 0) e)
def zjc (S b m : Nat) (G I : Nat → Nat) (k : Nat → Bool) : Bool :=
  zkK (m * S) k (vN (fun l => 536870912 + (b + l % S) * 65536) (m * S)) (vN (fun l => G (l / S) * 16777216) (m * S)) (vN (fun l => I (l / S) * 16777216 + 8388608) (m * S))
theorem zgT {S b m : Nat} {G I : Nat → Nat} (hS : 0 < S) (hm : 0 < m) (hb : b + S ≤ 256) (hG : ∀ q, G q < 256) (hI : ∀ q, I q < 256) (k : Nat → Bool) :
    zjc S b m G I k = k (vN (fun l => kw (b + l % S) (G (l / S)) (I (l / S))) (m * S)) := by
  unfold zjc
  rw [zh2 (K := m * S) (Nat.mul_pos hm hS) (N := fun l => b + l % S) (G := fun l => G (l / S)) (I := fun l => I (l / S)) (fun i _ => by have := Nat.mod_lt i hS; omega) (fun i _ => hG _) (fun i _ => hI _)]
  rfl
theorem zaX {S b m : Nat} {G I : Nat → Nat} (hS : 0 < S) (j : Nat) (hj : j < m) : zau S j (vN (fun l => kw (b + l % S) (G (l / S)) (I (l / S))) (m * S)) = vN (fun s => kw (b + s) (G j) (I j)) S := by
  rw [zgH (fun i => ziC _ _ _) m S j hj]
  refine zb S fun s hs => ?_
  rw [Nat.mul_add_mod, Nat.mod_eq_of_lt hs, Nat.mul_add_div hS, Nat.div_eq_of_lt hs, Nat.add_zero]
theorem ze1 {S b : Nat} {g i g' i' : Nat} (h : neV S (vN (fun s => kw (b + s) g i) S) (vN (fun s => kw (b + s) g' i') S) = true) {s : Nat} (hs : s < S) : kw (b + s) g i ≠ kw (b + s) g' i' :=
  zhM S _ _ (fun _ => ziC _ _ _) (fun _ => ziC _ _ _) h s hs
def gE (q : Nat) : Nat := [0, 1, 2].getD q 0
def iE (q : Nat) : Nat := [0, 0, 0].getD q 0
theorem zks (q : Nat) : gE q < 256 := by
  rcases Nat.lt_or_ge q 3 with h | h
  · exact (by decide : ∀ q, q < 3 → gE q < 256) q h
  · unfold gE; rw [List.getD_eq_getElem?_getD, List.getElem?_eq_none (by simpa using h)]; decide
theorem zkW (q : Nat) : iE q < 256 := by
  rcases Nat.lt_or_ge q 3 with h | h
  · exact (by decide : ∀ q, q < 3 → iE q < 256) q h
  · unfold iE; rw [List.getD_eq_getElem?_getD, List.getElem?_eq_none (by simpa using h)]; decide
def zbm (S b : Nat) : Bool := zjc S b 3 gE iE (fun r => (neV S (zau S 1 r) (zau S 0 r) && (neV S (zau S 2 r) (zau S 0 r) && neV S (zau S 2 r) (zau S 1 r))))
theorem yN {S b : Nat} (hS : 0 < S) (hb : b + S ≤ 256) (h : zbm S b = true) {s : Nat} (hs : s < S) : kw (b + s) 1 0 ≠ kw (b + s) 0 0 ∧ kw (b + s) 2 0 ≠ kw (b + s) 0 0 ∧ kw (b + s) 2 0 ≠ kw (b + s) 1 0 := by
  unfold zbm at h
  rw [zgT hS (by decide) hb zks zkW] at h
  simp only [Bool.and_eq_true] at h
  rw [zaX hS 0 (by decide), zaX hS 1 (by decide), zaX hS 2 (by decide)] at h
  obtain ⟨h0, h1, h2⟩ := h
  exact ⟨ze1 h0 hs, ze1 h1 hs, ze1 h2 hs⟩
set_option maxRecDepth 10000 in
theorem zjM : zbm 16 0 = true := by decide +kernel
set_option maxRecDepth 10000 in
theorem zjC : zbm 16 16 = true := by decide +kernel
set_option maxRecDepth 10000 in
theorem zjm : zbm 16 32 = true := by decide +kernel
set_option maxRecDepth 10000 in
theorem zjO : zbm 16 48 = true := by decide +kernel
set_option maxRecDepth 10000 in
theorem zkb : zbm 16 64 = true := by decide +kernel
set_option maxRecDepth 10000 in
theorem zjp : zbm 16 80 = true := by decide +kernel
set_option maxRecDepth 10000 in
theorem zjU : zbm 16 96 = true := by decide +kernel
set_option maxRecDepth 10000 in
theorem zkd : zbm 16 112 = true := by decide +kernel
set_option maxRecDepth 10000 in
theorem zj5 : zbm 16 128 = true := by decide +kernel
set_option maxRecDepth 10000 in
theorem zkf : zbm 16 144 = true := by decide +kernel
set_option maxRecDepth 10000 in
theorem ziv : zbm 16 160 = true := by decide +kernel
set_option maxRecDepth 10000 in
theorem zib : zbm 16 176 = true := by decide +kernel
set_option maxRecDepth 10000 in
theorem zih : zbm 16 192 = true := by decide +kernel
set_option maxRecDepth 10000 in
theorem ziT : zbm 16 208 = true := by decide +kernel
set_option maxRecDepth 10000 in
theorem ziQ : zbm 16 224 = true := by decide +kernel
set_option maxRecDepth 10000 in
theorem ziK : zbm 16 240 = true := by decide +kernel
theorem zhu (n : Nat) (hn : n < 256) : kw n 1 0 ≠ kw n 0 0 ∧ kw n 2 0 ≠ kw n 0 0 ∧ kw n 2 0 ≠ kw n 1 0 := by
  have hq : n / 16 < 16 := by omega
  have hr : n % 16 < 16 := by omega
  have e : n = 16 * (n / 16) + n % 16 := by omega
  rw [e]
  generalize n / 16 = q at *
  generalize n % 16 = r at *
  have : q = 0 ∨ q = 1 ∨ q = 2 ∨ q = 3 ∨ q = 4 ∨ q = 5 ∨ q = 6 ∨ q = 7 ∨ q = 8 ∨ q = 9 ∨ q = 10 ∨ q = 11 ∨ q = 12 ∨ q = 13 ∨ q = 14 ∨ q = 15 := by omega
  rcases this with rfl | rfl | rfl | rfl | rfl | rfl | rfl | rfl | rfl | rfl | rfl | rfl | rfl | rfl | rfl | rfl
  · exact yN (by decide) (by decide) zjM hr
  · exact yN (by decide) (by decide) zjC hr
  · exact yN (by decide) (by decide) zjm hr
  · exact yN (by decide) (by decide) zjO hr
  · exact yN (by decide) (by decide) zkb hr
  · exact yN (by decide) (by decide) zjp hr
  · exact yN (by decide) (by decide) zjU hr
  · exact yN (by decide) (by decide) zkd hr
  · exact yN (by decide) (by decide) zj5 hr
  · exact yN (by decide) (by decide) zkf hr
  · exact yN (by decide) (by decide) ziv hr
  · exact yN (by decide) (by decide) zib hr
  · exact yN (by decide) (by decide) zih hr
  · exact yN (by decide) (by decide) ziT hr
  · exact yN (by decide) (by decide) ziQ hr
  · exact yN (by decide) (by decide) ziK hr
end Go.AL
