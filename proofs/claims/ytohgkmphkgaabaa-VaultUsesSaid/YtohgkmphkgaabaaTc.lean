/- What functions of the program and of the document answer, and the plain laws behind it; each under the conditions that its own theorem names. -/
import Derived.Test.YtohgkmphkgaabaaTb
import Derived.Test.YtohgkmphkgaabaaAl3
set_option linter.unusedVariables false
namespace Go.AL
open Go Go.Proofs Go.RowKit
def usL (u : Nat → Nat) (k : Nat) : List Int := (List.range k).map (fun i => (u i : Int))
theorem ja (u : Nat → Nat) (k : Nat) : (usL u k).length = k := by simp [usL]
theorem zd5 (u : Nat → Nat) (k : Nat) {x : Int} (h : x ∈ usL u k) : ∃ i, i < k ∧ x = (u i : Int) := by
  obtain ⟨i, hi, rfl⟩ := List.mem_map.1 h
  exact ⟨i, List.mem_range.1 hi, rfl⟩
theorem zbY (u : Nat → Nat) (k : Nat) (hk : 1 ≤ k) : ∃ t, usL u k = (u 0 : Int) :: t := by
  obtain ⟨k, rfl⟩ : ∃ j, k = j + 1 := ⟨k - 1, by omega⟩
  exact ⟨(List.range k).map (fun i => (u (i + 1) : Int)), by unfold usL; rw [List.range_succ_eq_map]; simp [Function.comp_def]⟩
theorem zdQ (B : Int) : ∀ (l : List Int) (a : Int), a < B → (∀ x ∈ l, x < B) → zbn a l < B
  | [], a, h, _ => h
  | x :: l, a, h, hl => by
    unfold zbn
    apply zdQ B l
    · split
      · exact hl x (by simp)
      · exact h
    · exact fun y hy => hl y (List.mem_cons_of_mem _ hy)
theorem zaU : ∀ (l : List Int) (a : Int), a ≤ zbn a l ∧ ∀ x ∈ l, x ≤ zbn a l
  | [], a => ⟨Int.le_refl _, fun x h => by cases h⟩
  | x :: l, a => by
    unfold zbn
    have := zaU l (if x > a then x else a)
    refine ⟨?_, ?_⟩
    · refine Int.le_trans ?_ this.1
      split <;> omega
    · intro y hy
      rcases List.mem_cons.1 hy with rfl | hy
      · refine Int.le_trans ?_ this.1
        split <;> omega
      · exact this.2 y hy
theorem zbb (s : ByteArray) (p n : Int) (k : Nat) (u : Nat → Nat) (hs : s.size = 32) (hp : 0 ≤ p) (hp1 : p < 65536) (hk1 : 1 ≤ k) (hk : k ≤ 8) (hn : 0 ≤ n) (hn8 : n ≤ 8) (hu : ∀ i, i < k → u i ≤ 8) : zgQ s p (k : Int) n (usL u k) = true := by
  have ha : (usL u k).any zgf = false := by
    rw [List.any_eq_false]
    intro x hx
    obtain ⟨i, hi, rfl⟩ := zd5 u k hx
    have := hu i hi
    simp [zgf]; omega
  unfold zgQ
  rw [ha, ja]
  simp [hs, hp, hp1, hn, hn8]; omega
def sgT (s : ByteArray) (p : Int) (u : Nat → Nat) (m : ByteArray) (i : Nat) : T := .agg [.int .i64 (i : Int), .str (ktS (sdS s p (i : Int)) (u i) m)]
def sgL (s : ByteArray) (p : Int) (u : Nat → Nat) (m : ByteArray) (k : Nat) : List T := (List.range k).map (sgT s p u m)
theorem zfz (s : ByteArray) (p : Int) (u : Nat → Nat) (m : ByteArray) (k : Nat) : (sgL s p u m k).length = k := by simp [sgL]
theorem zeS (s : ByteArray) (p : Int) (u : Nat → Nat) (m : ByteArray) (k : Nat) : sgL s p u m (k + 1) = sgL s p u m k ++ [sgT s p u m k] := by simp [sgL, List.range_succ]
set_option maxHeartbeats 8000000 in
theorem zaZ (s m : ByteArray) (p n : Int) (k : Nat) (u : Nat → Nat) (hs : s.size = 32) (hp : 0 ≤ p) (hp1 : p < 65536) (hk1 : 1 ≤ k) (hk : k ≤ 8) (hn : 0 ≤ n) (hn8 : n ≤ 8) (hu : ∀ i, i < k → u i ≤ 8) (i8 : Nat) (hi8 : i8 < k) (he8 : u i8 = 8) : Spec Try.prog 57 [.t (vaT s p (k : Int) n (usL u k)), .t (.str m)] [] (.tup [.t .nilsl, .t (vaT s p (k : Int) n (usL u k)), .t (.int .i64 25)]) [] := by
  have hln := ja u k
  have hO := ql s p (k : Int) n (usL u k) (by omega) (by omega)
  have hV := wS s p (k : Int) n (usL u k) (by omega)
  rw [zbb s p n k u hs hp hp1 hk1 hk hn hn8 hu] at hV
  obtain ⟨t, ht⟩ := zbY u k hk1
  have htl : t.length = k - 1 := by have := congrArg List.length ht; rw [hln, List.length_cons] at this; omega
  have hM := zb5 (u 0 : Int) t (by omega)
  have hX : 8 ≤ zbn (u 0 : Int) t := by
    have h8 : (8 : Int) ∈ usL u k := List.mem_map.2 ⟨i8, List.mem_range.2 hi8, by rw [he8]; rfl⟩
    rw [ht] at h8
    rcases List.mem_cons.1 h8 with h | h
    · rw [h]; exact (zaU t _).1
    · exact (zaU t _).2 _ h
  rw [← ht] at hM
  generalize zbn (u 0 : Int) t = X at *
  clear ht htl
  generalize usL u k = U at *
  refine wIG Try.func57 ?_
  repeat' (first | refine wC ?_ | (exfalso; omega) | refine wK ?_ | ((with_reducible refine zk ?_); first | refine wN (.agg [.t (.str s), .t (.int .i64 p), .t (.int .i64 (k : Int)), .t (.int .i64 n), .row (.loc 900)]) [(.res 0, .loc 900)] hO ?_ | refine wL hV ?_ | refine wL hM ?_) | refine zm rfl ?_ ?_ <;> intro hc | fail)
  refine zV (za [4, 5, 6] [.loc 5, .loc 900] rfl rfl) ?_
  refine zV (zz (id := .loc 900) rfl rfl rfl) ?_
  refine yI (zx ?_ (by simp)); refine xx rfl rfl rfl inferInstance rfl inferInstance rfl ?_ ?_ ?_; exact AVLE.refl _; exact TLe.av wT; exact AVLE.refl _
theorem zf0 (u : Nat → Nat) (k : Nat) : ke (fun i => ((u i : Nat) : Int) + 1) (fun i => ((u i : Nat) : Int)) k k = usL (fun i => u i + 1) k := by
  rw [zfm]; unfold usL
  apply List.map_congr_left; intro i _; rfl
set_option maxHeartbeats 16000000 in
theorem zcE (s m : ByteArray) (p n : Int) (k : Nat) (u : Nat → Nat) (hm : m.size ≤ 900000) (hs : s.size = 32) (hp : 0 ≤ p) (hp1 : p < 65536) (hk1 : 1 ≤ k) (hk : k ≤ 8) (hn : 0 ≤ n) (hn8 : n ≤ 8) (hu : ∀ i, i < k → u i < 8) : Spec Try.prog 57 [.t (vaT s p (k : Int) n (usL u k)), .t (.str m)] [] (.tup [.t (.sl 2 (sgL s p u m k)), .t (vaT s p (k : Int) n (usL (fun i => u i + 1) k)), .t (.int .i64 0)]) [] := by
  rw [← zf0]
  have hln := ja u k
  have hO := ql s p (k : Int) n (usL u k) (by omega) (by omega)
  have hV := wS s p (k : Int) n (usL u k) (by omega)
  rw [zbb s p n k u hs hp hp1 hk1 hk hn hn8 (fun i hi => Nat.le_of_lt (hu i hi))] at hV
  have hS := zbw s p n (usL u k) k (by omega) hk
  obtain ⟨t, ht⟩ := zbY u k hk1
  have htl : t.length = k - 1 := by have := congrArg List.length ht; rw [hln, List.length_cons] at this; omega
  have hM := zb5 (u 0 : Int) t (by omega)
  have hX : zbn (u 0 : Int) t < 8 := by
    apply zdQ
    · exact Int.ofNat_lt.2 (hu 0 hk1)
    · intro x hx
      have hx' : x ∈ usL u k := by rw [ht]; exact List.mem_cons_of_mem _ hx
      obtain ⟨i, hi, rfl⟩ := zd5 u k hx'
      exact Int.ofNat_lt.2 (hu i hi)
  rw [← ht] at hM
  generalize zbn (u 0 : Int) t = X at *
  clear ht htl
  have hL := zdB s p k
  have hat := fun j (hj : j < k) => (show (sdL s p k).getD (j : Int).toNat default = sdS s p (j : Int) from by
    unfold sdL; rw [Int.toNat_natCast, List.getD_eq_getElem?_getD, List.getElem?_map, List.getElem?_range hj]; rfl)
  have hau := fun j (hj : j < k) => (show (usL u k).getD (j : Int).toNat default = (u j : Int) from by
    unfold usL; rw [Int.toNat_natCast, List.getD_eq_getElem?_getD, List.getElem?_map, List.getElem?_range hj]; rfl)
  have h0 : usL u k = ke (fun i => ((u i : Nat) : Int) + 1) (fun i => ((u i : Nat) : Int)) k 0 := (zfn _ _ _).symm
  rw [show (Row.slt 3 1 ((usL u k).map (T.int .i64))) = Row.slt 3 1 ((ke (fun i => ((u i : Nat) : Int) + 1) (fun i => ((u i : Nat) : Int)) k 0).map (T.int .i64)) from by rw [h0]] at hO
  clear h0
  generalize sdL s p k = D at *
  generalize usL u k = U at *
  refine wIG Try.func57 ?_
  repeat' (first | refine wC ?_ | (exfalso; omega) | refine wK ?_ | ((with_reducible refine zk ?_); first | refine wN (.agg [.t (.str s), .t (.int .i64 p), .t (.int .i64 (k : Int)), .t (.int .i64 n), .row (.loc 900)]) [(.res 0, .loc 900)] hO ?_ | refine wN (.row (.loc 902)) [(.res 0, .loc 902)] hS ?_ | refine wL hV ?_ | refine wL hM ?_) | refine zm rfl ?_ ?_ <;> intro hc | fail)
  refine zb (xv 8 (.loc 901) 75 2 rfl rfl rfl) ?_
  rw [hL]
  refine zb (za [1, 2, 5, 6, 7, 8, 27, 28, 29] [.loc 2, .loc 5, .loc 7, .loc 900, .loc 901, .loc 902] rfl rfl) ?_
  clear hO hV hS hM
  refine zf (fun q env st => ∃ (j : Nat), j ≤ k ∧ q = k - j ∧ env = EnvL.get [(1, .t (.str m)), (2, .ref (.loc 2) 0 0 0), (5, .ref (.loc 5) 0 0 0), (6, .t (.int .i64 0)), (7, .ref (.loc 7) 0 0 0), (8, .row (.loc 901)), (27, .row (.loc 902)), (28, .t (.int .i64 (k : Int))), (29, .t (.int .i64 (j : Int)))] ∧ st = StO.get [(.loc 2, some (.var 66 [.t (.str s), .t (.int .i64 p), .t (.int .i64 (k : Int)), .t (.int .i64 n), .t (.sl 1 (U.map (T.int .i64)))])), (.loc 5, some (.var 66 [.t (.str ⟨#[]⟩), .t (.int .i64 0), .t (.int .i64 0), .t (.int .i64 0), .t .nilsl])), (.loc 7, some (.var 66 [.t (.str s), .t (.int .i64 p), .t (.int .i64 (k : Int)), .t (.int .i64 n), .row (.loc 900)])), (.loc 900, some (.slt 3 1 ((ke (fun i => ((u i : Nat) : Int) + 1) (fun i => ((u i : Nat) : Int)) k j).map (T.int .i64)))), (.loc 901, some (.slt 75 2 (sgL s p u m j))), (.loc 902, some (.slt 9 1 (D.map .str)))])
    ?_ (n := k) ⟨0, by omega, rfl, rfl, rfl⟩
  rintro q env st ⟨j, hj, rfl, rfl, rfl⟩
  have wj : IntKind.i64.wrap ((j : Int) + 1) = ((j + 1 : Nat) : Int) := by rw [zj (by omega) (by omega)]; omega
  by_cases hlt : j < k
  · have hK := zaQ (sdS s p (j : Int)) m (u j) (hu j hlt) (by rw [jc]; decide) hm
    have hsg := zeS s p u m j
    have hsl := zfz s p u m j
    have hmm := zdI (fun i => ((u i : Nat) : Int) + 1) (fun i => ((u i : Nat) : Int)) k j hlt
    have hms := zcj (fun i => ((u i : Nat) : Int) + 1) (fun i => ((u i : Nat) : Int)) k j
    have hml := kX (fun i => ((u i : Nat) : Int) + 1) (fun i => ((u i : Nat) : Int)) k j
    have hwu : IntKind.i64.wrap ((ke (fun i => ((u i : Nat) : Int) + 1) (fun i => ((u i : Nat) : Int)) k j).getD (j : Int).toNat default + 1) = ((u j : Nat) : Int) + 1 := by
      rw [Int.toNat_natCast, hmm]
      have := hu j hlt
      exact zj (by omega) (by omega)
    have hset : ((ke (fun i => ((u i : Nat) : Int) + 1) (fun i => ((u i : Nat) : Int)) k j).map (T.int .i64)).set (j : Int).toNat (.int .i64 (IntKind.i64.wrap ((ke (fun i => ((u i : Nat) : Int) + 1) (fun i => ((u i : Nat) : Int)) k j).getD (j : Int).toNat default + 1))) = (ke (fun i => ((u i : Nat) : Int) + 1) (fun i => ((u i : Nat) : Int)) k (j + 1)).map (T.int .i64) := by
      rw [hwu, Int.toNat_natCast, ← hms, List.map_set]
    unfold sgT at hsg
    clear hmm hms hwu
    rw [← hat j hlt, ← hau j hlt] at hK
    rw [← hat j hlt] at hsg
    generalize ktS (D.getD (j : Int).toNat default) (u j) m = Z at *
    generalize ke (fun i => ((u i : Nat) : Int) + 1) (fun i => ((u i : Nat) : Int)) k j = M at *
    clear hat hau
    repeat' (first | refine wC ?_ | (exfalso; omega) | refine wK ?_ | ((with_reducible refine xR ?_); refine vK rfl rfl rfl rfl rfl rfl rfl rfl ?_ ?_) | ((with_reducible refine yS ?_); refine xp rfl rfl rfl rfl rfl rfl ?_ ?_ ?_) | ((with_reducible refine ze ?_); first | refine zi rfl rfl rfl rfl rfl rfl ?_ ?_ ?_ | refine yx rfl rfl rfl rfl rfl rfl rfl ?_ ?_ ?_) | ((with_reducible refine zQ ?_); refine zq rfl rfl rfl rfl rfl rfl rfl rfl rfl rfl ?_ ?_ ?_) | ((with_reducible refine zk ?_); refine wL hK ?_) | refine zm rfl ?_ ?_ <;> intro hc | fail)
    all_goals try (simp only [List.length_map, List.length_cons, List.length_nil]; omega)
    all_goals try omega
    all_goals first | rfl | exact zv (n' := k - (j + 1)) (by omega) ((za [1, 2, 5, 6, 7, 8, 27, 28, 29] [.loc 2, .loc 5, .loc 7, .loc 900, .loc 50, .loc 902] rfl rfl).trans (zo (.loc 50) (.loc 901) rfl rfl rfl rfl)) ⟨j + 1, by omega, rfl, by rw [wj]; rfl, by rw [← hset, hsg]; rfl⟩
  · obtain rfl : j = k := by omega
    repeat' (first | refine wC ?_ | (exfalso; omega) | refine wK ?_ | refine zm rfl ?_ ?_ <;> intro hc | fail)
    refine zV (za [4, 5, 6] [.loc 5, .loc 900, .loc 901] rfl rfl) ?_
    refine zV (zz (id := .loc 900) rfl rfl rfl) ?_
    refine zV (zz (id := .loc 901) rfl rfl rfl) ?_
    refine yI (zx ?_ (by simp)); refine xx rfl rfl rfl inferInstance rfl inferInstance rfl ?_ ?_ ?_; exact AVLE.refl _; exact TLe.av wT; exact AVLE.refl _
set_option maxHeartbeats 8000000 in
theorem zaa (s : ByteArray) (p n nx : Int) (k : Nat) (u : Nat → Nat) (hs : s.size = 32) (hp : 0 ≤ p) (hp1 : p < 65535) (hk1 : 1 ≤ k) (hk : k ≤ 8) (hn : 1 ≤ n) (hn8 : n ≤ 8) (hx : 0 ≤ nx) (hx8 : nx ≤ 8) (hu : ∀ i, i < k → u i ≤ 8) : Spec Try.prog 58 [.t (vaT s p (k : Int) n (usL u k)), .t (.int .i64 nx)] [] (.tup [.t (vaT s (p + 1) n nx (List.replicate n.toNat 0)), .t (.int .i64 0)]) [] := by
  have hln := ja u k
  have hO := ql s p (k : Int) n (usL u k) (by omega) (by omega)
  have hV := wS s p (k : Int) n (usL u k) (by omega)
  rw [zbb s p n k u hs hp (by omega) hk1 hk (by omega) hn8 hu] at hV
  have hk2 := xC nx 0
  rw [show (decide (0 ≤ nx) && decide (nx ≤ 8)) = true from by simp [hx, hx8]] at hk2
  have wp : IntKind.i64.wrap (p + 1) = p + 1 := zj (by omega) (by omega)
  rw [show vaT s (p + 1) n nx (List.replicate n.toNat 0) = .agg [.str s, .int .i64 (p + 1), .int .i64 n, .int .i64 nx, .sl 1 (List.replicate n.toNat (T.int .i64 0))] from by unfold vaT; rw [List.map_replicate]]
  rw [← wp]
  clear wp
  generalize usL u k = U at *
  refine wIG Try.func58 ?_
  repeat' (first | refine wC ?_ | (exfalso; omega) | refine jr (r := .agg [.t (.str s), .t (.int .i64 (IntKind.i64.wrap (p + 1))), .t (.int .i64 n), .t (.int .i64 nx), .row (.loc 39)]) rfl rfl rfl rfl rfl rfl rfl ?_ | refine wK ?_ | ((with_reducible refine yJ ?_); refine yB (zT := .int _ _) rfl rfl rfl rfl rfl rfl rfl rfl rfl ?_ ?_ ?_ ?_ ?_) | ((with_reducible refine zk ?_); first | refine wN (.agg [.t (.str s), .t (.int .i64 p), .t (.int .i64 (k : Int)), .t (.int .i64 n), .row (.loc 900)]) [(.res 0, .loc 900)] hO ?_ | refine wL hV ?_ | refine wL hk2 ?_) | refine zm rfl ?_ ?_ <;> intro hc | fail)
  · omega
  · omega
  · omega
  · omega
  refine zV (zz (id := .loc 39) rfl rfl rfl) ?_
  refine yI (zx ?_ (by simp)); refine w5 rfl rfl rfl inferInstance rfl inferInstance rfl ?_ ?_; exact TLe.av wT; exact AVLE.refl _
def sdN (n : Int) : ByteArray := vZ ((List.replicate 32 (T.int .u8 0)).set 0 (.int .u8 n))
theorem zbM (n : Int) : (sdN n).size = 32 := x5 _
set_option maxHeartbeats 2000000 in
theorem kN (n : Int) (h0 : 0 ≤ n) (h1 : n < 256) : Spec Try.prog 56 [.t (.int .u8 n)] [] (.t (.str (sdN n))) [] := by
  refine wI Try.func56 ?_
  repeat' (first | refine wC ?_ | refine wK ?_ | ((with_reducible refine yS ?_); refine xp rfl rfl rfl rfl rfl rfl ?_ ?_ ?_) | ((with_reducible refine ze ?_); refine yx rfl rfl rfl rfl rfl rfl rfl ?_ ?_ ?_) | ((with_reducible refine zN ?_); refine zw rfl rfl rfl rfl rfl rfl ?_ ?_) | ((with_reducible refine yJ ?_); refine yB (zT := .int _ _) rfl rfl rfl rfl rfl rfl rfl rfl rfl ?_ ?_ ?_ ?_ ?_) | fail)
  all_goals first | decide | rfl | skip
  · intro e he
    rcases List.mem_or_eq_of_mem_set he with h | h
    · rw [List.eq_of_mem_replicate h]; rfl
    · rw [h]; rfl
  · exact zx (zd rfl rfl rfl) (by simp)
theorem wV (s m : ByteArray) (p n : Int) (u : Nat) (hm : m.size ≤ 900000) (hs : s.size = 32) (hp : 0 ≤ p) (hp1 : p < 65536) (hn : 0 ≤ n) (hn8 : n ≤ 8) (hu : u < 8) : Spec Try.prog 57 [.t (vaT s p 1 n [(u : Int)]), .t (.str m)] [] (.tup [.t (.sl 2 [.agg [.int .i64 0, .str (ktS (sdS s p 0) u m)]]), .t (vaT s p 1 n [((u + 1 : Nat) : Int)]), .t (.int .i64 0)]) [] :=
  zcE s m p n 1 (fun _ => u) hm hs hp hp1 (by omega) (by omega) hn hn8 (fun _ _ => hu)
theorem zaz (s m : ByteArray) (p n : Int) (hs : s.size = 32) (hp : 0 ≤ p) (hp1 : p < 65536) (hn : 0 ≤ n) (hn8 : n ≤ 8) : Spec Try.prog 57 [.t (vaT s p 1 n [((8 : Nat) : Int)]), .t (.str m)] [] (.tup [.t .nilsl, .t (vaT s p 1 n [((8 : Nat) : Int)]), .t (.int .i64 25)]) [] :=
  zaZ s m p n 1 (fun _ => 8) hs hp hp1 (by omega) (by omega) hn hn8 (fun _ _ => by omega) 0 (by omega) rfl
theorem kq (s : ByteArray) (hs : s.size = 32) : Spec Try.prog 55 [.t (.str s), .t (.int .i64 1), .t (.int .i64 1)] [] (.tup [.t (vaT s 0 1 1 [((0 : Nat) : Int)]), .t (.int .i64 0)]) [] :=
  zdO s 1 1 hs (by decide) (by decide) (by decide) (by decide)
theorem je (s : ByteArray) (p : Int) (hs : s.size = 32) (hp : 0 ≤ p) (hp1 : p < 65535) : Spec Try.prog 58 [.t (vaT s p 1 1 [((8 : Nat) : Int)]), .t (.int .i64 1)] [] (.tup [.t (vaT s (p + 1) 1 1 [((0 : Nat) : Int)]), .t (.int .i64 0)]) [] :=
  zaa s p 1 1 1 (fun _ => 8) hs hp hp1 (by decide) (by decide) (by decide) (by decide) (by decide) (by decide) (fun _ _ => by omega)
theorem zcD (s : ByteArray) (p n : Int) (l : List Int) (hs : s.size ≤ 900000) : Spec Try.prog 83 [.t (vaT s p 1 n l)] [] (.t (.sl 1 [.str (kF 2 (ktP (sdS s p 0)))])) [] :=
  zdF s p n l 1 hs (by decide)
set_option maxRecDepth 8000 in
set_option maxHeartbeats 8000000 in
theorem j4 : Spec Try.prog 54 [] [] (.t (.bool true)) [] := by
  have h0 := kN 1 (by decide) (by decide)
  have z0 := zbM 1
  generalize sdN 1 = S at *
  obtain ⟨M, hM⟩ : ∃ M : ByteArray, M = ⟨#[116, 101, 120, 116]⟩ := ⟨_, rfl⟩
  have hMz : M.size ≤ 900000 := by rw [hM]; decide
  have h1 := kq S z0
  have h2 := wV S M 0 1 0 hMz z0 (by decide) (by decide) (by decide) (by decide) (by decide)
  have h3 := zcD S 0 1 [((0 : Nat) : Int)] (by omega)
  have h4 := za5 (sdS S 0 0) M 0 (by decide) (by rw [jc]; decide) hMz
  rw [hM] at h2 h4
  clear hM hMz
  generalize kF 2 (ktP (sdS S 0 0)) = K at *
  generalize ktS (sdS S 0 0) 0 ⟨#[116, 101, 120, 116]⟩ = G at *
  unfold vaT at h1 h2 h3
  refine wI Try.func54 ?_
  repeat' (first | refine wC ?_ | refine wK ?_ | ((with_reducible refine zk ?_); first | refine wL h0 ?_ | refine wL h1 ?_) | fail)
  refine wL h2 ?_
  repeat' (first | refine wC ?_ | refine wK ?_ | fail)
  refine wL h3 ?_
  repeat' (first | refine wC ?_ | refine yE rfl rfl rfl rfl rfl rfl ?_ ?_ ?_ | refine wK ?_ | ((with_reducible refine zk ?_); refine wL h4 ?_) | fail)
  all_goals first | omega | (simp; done) | exact zx (zd rfl rfl (congrArg T.bool (by simp))) (by simp)
def zgB (j i : Nat) : Bool := decide (i < j)
def vV (j : Nat) : List Bool := (List.range 8).map (zgB j)
theorem zdx (j : Nat) : (vV j).length = 8 := by simp [vV]
theorem ze8 (j : Nat) (hj : j < 8) : (vV j).getD j default = false := by
  unfold vV
  rw [List.getD_eq_getElem?_getD, List.getElem?_map, List.getElem?_range hj]
  simp [zgB]
theorem zdo (j : Nat) (hj : j < 8) : (vV j).set j true = vV (j + 1) := by
  have : j = 0 ∨ j = 1 ∨ j = 2 ∨ j = 3 ∨ j = 4 ∨ j = 5 ∨ j = 6 ∨ j = 7 := by omega
  rcases this with rfl | rfl | rfl | rfl | rfl | rfl | rfl | rfl <;> decide
set_option maxRecDepth 8000 in
set_option maxHeartbeats 16000000 in
theorem kf (n : Int) (m : ByteArray) (h0 : 0 ≤ n) (h1 : n < 256) : Spec Try.prog 13 [.t (.int .u8 n), .t (.str m)] [] (.t (.bool true)) [] := by
  have hA := j4
  have hL := kN n h0 h1
  have z0 := zbM n
  generalize sdN n = S at *
  by_cases hm : (100 : Int) < (m.size : Int)
  · refine wI Try.func13 ?_
    repeat' (first | refine wC ?_ | (exfalso; omega) | refine wK ?_ | ((with_reducible refine zk ?_); refine wL hA ?_) | refine zm rfl ?_ ?_ <;> intro hc | fail)
    exact zx (zd rfl rfl rfl) (by simp)
  have hN := kq S z0
  refine wI Try.func13 ?_
  repeat' (first | refine wC ?_ | (exfalso; omega) | refine wK ?_ | ((with_reducible refine zk ?_); first | refine wL hL ?_ | refine wL hN ?_) | refine zm rfl ?_ ?_ <;> intro hc | fail)
  refine zb (zU (id := .loc 7) rfl (RowLE.arr (es := (vV 0).map T.bool) rfl (by
    intro x hx; obtain ⟨b, _, rfl⟩ := List.mem_map.1 hx; rfl)) rfl) ?_
  refine zb (za [1, 5, 7, 31] [.loc 5, .loc 7] rfl rfl) ?_
  refine zf (fun q env st => ∃ (j : Nat), j ≤ 8 ∧ q = 8 - j ∧ env = EnvL.get [(1, .t (.str m)), (5, .ref (.loc 5) 0 0 0), (7, .ref (.loc 7) 0 0 0), (31, .t (.int .i64 (j : Int)))] ∧ st = StO.get [(.loc 5, some (.var 66 [.t (.str S), .t (.int .i64 0), .t (.int .i64 1), .t (.int .i64 1), .t (.sl 1 ([(j : Int)].map (T.int .i64)))])), (.loc 7, some (.arr 70 1 ((vV j).map T.bool)))])
    ?_ (n := 8) ⟨0, by omega, rfl, rfl, rfl⟩
  clear hL hN
  rintro q env st ⟨j, hj, rfl, rfl, rfl⟩
  have wj : IntKind.i64.wrap ((j : Int) + 1) = ((j + 1 : Nat) : Int) := by rw [zj (by omega) (by omega)]; omega
  by_cases hlt : j < 8
  · have hS := wV S m 0 1 j (by omega) z0 (by decide) (by decide) (by decide) (by decide) hlt
    obtain ⟨p0, _⟩ := zah (sdS S 0 0) m j hlt
    have hz := zbZ (sdS S 0 0) j m
    generalize ktS (sdS S 0 0) j m = G at *
    have hsa := ze8 j hlt
    have hss := zdo j hlt
    have hsl := zdx j
    have hat : (vV j).getD (bAt G 0).toNat default = false := by rw [p0, Int.toNat_natCast]; exact hsa
    have hss' : (vV j).set (bAt G 0).toNat true = vV (j + 1) := by rw [p0, Int.toNat_natCast]; exact hss
    clear hsa hss
    generalize vV j = Z at *
    unfold vaT at hS
    repeat' (first | refine wC ?_ | (exfalso; omega) | refine zdA (congrArg (fun b => AV.t (T.bool b)) hat) ?_ | refine yE rfl rfl rfl rfl rfl rfl ?_ ?_ ?_ | refine wK ?_ | ((with_reducible refine ze ?_); refine zl rfl rfl rfl rfl rfl rfl ?_ ?_ ?_) | ((with_reducible refine yf ?_); refine zy rfl rfl rfl rfl rfl rfl ?_ ?_ ?_) | ((with_reducible refine zk ?_); refine wL hS ?_) | ((with_reducible refine xR ?_); refine yp rfl rfl rfl rfl rfl rfl rfl rfl ?_ ?_) | ((with_reducible refine yS ?_); refine zZ rfl rfl rfl rfl rfl rfl rfl ?_ ?_) | refine zm rfl ?_ ?_ <;> intro hc | refine xG rfl ?_ ?_ <;> intro hc | refine zaC rfl ?_ ?_ <;> intro hc | fail)
    all_goals try omega
    all_goals try (simp; done)
    all_goals exact zv (n' := 8 - (j + 1)) (by omega) (za [1, 5, 7, 31] [.loc 5, .loc 7] rfl rfl) ⟨j + 1, by omega, rfl, by rw [wj]; rfl, by rw [← hss']; rfl⟩
  · obtain rfl : j = 8 := by omega
    have hS := zaz S m 0 1 z0 (by decide) (by decide) (by decide) (by decide)
    have hR := je S 0 z0 (by decide) (by decide)
    have hS2 := wV S m (0 + 1) 1 0 (by omega) z0 (by decide) (by decide) (by decide) (by decide) (by decide)
    generalize ktS (sdS S (0 + 1) 0) 0 m = G at *
    unfold vaT at hS hR hS2
    repeat' (first | refine wC ?_ | refine yE rfl rfl rfl rfl rfl rfl ?_ ?_ ?_ | refine wK ?_ | ((with_reducible refine zk ?_); first | refine wL hA ?_ | refine wL hS ?_ | refine wL hR ?_ | refine wL hS2 ?_) | fail)
    all_goals try omega
    all_goals try (simp; done)
    all_goals exact zx (zd rfl rfl rfl) (by simp)
end Go.AL
