/- What functions of the program and of the document answer, and the plain laws behind it; each under the conditions that its own theorem names. -/
import Derived.Test.YtohgkmphkgaabaaGreatTb
import Derived.Test.YtohgkmphkgaabaaGreatAl4
import Derived.Test.YtohgkmphkgaabaaGreatAl3
import Derived.Test.YtohgkmphkgaabaaGreatTa
set_option linter.unusedVariables false
namespace Go.AL
open Go Go.Proofs Go.RowKit
def sdL (s : ByteArray) (g : Int) (k : Nat) : List ByteArray := (List.range k).map (fun (i : Nat) => sdS s g (i : Int))
theorem zfr (s : ByteArray) (g : Int) (k : Nat) : (sdL s g k).length = k := by simp [sdL]
theorem zg5 (s : ByteArray) (g : Int) (k : Nat) : sdL s g (k + 1) = sdL s g k ++ [sdS s g (k : Int)] := by simp [sdL, List.range_succ]
set_option maxHeartbeats 4000000 in
theorem vz (s : ByteArray) (p c n : Int) (l : List Int) (g : Int) (k : Nat) (hs : s.size ≤ 900000) (hk : k ≤ 8) : Spec Tryz.prog 42 [.t (vaT s p c n l), .t (.int .i64 g), .t (.int .i64 (k : Int))] [] (.row (.res 0)) [(.res 0, .slt 9 1 ((sdL s g k).map .str))] := by
  have hm0 : (if (0 : Int) > (k : Int) then (0 : Int) else (k : Int)) = (k : Int) := if_neg (by omega)
  have hm1 : (if (8 : Int) < (k : Int) then (8 : Int) else (k : Int)) = (k : Int) := if_neg (by omega)
  refine wIG Tryz.func42 ?_
  repeat' (first | refine wC ?_ | refine wK ?_ | fail)
  rw [hm0, hm1]
  clear hm0 hm1
  refine zb (z8 7 (.loc 900) 9 1 rfl rfl rfl) ?_
  refine zb (za [1, 3, 7, 11, 12] [.loc 3, .loc 900] rfl rfl) ?_
  refine ze (fun q env st => ∃ (j : Nat), j ≤ k ∧ q = k - j ∧ env = EnvL.get [(1, .t (.int .i64 g)), (3, .ref (.loc 3) 0 0 0), (7, .row (.loc 900)), (11, .t (.int .i64 (k : Int))), (12, .t (.int .i64 (j : Int)))] ∧ st = StO.get [(.loc 3, some (.var 24 [.t (.str s), .t (.int .i64 p), .t (.int .i64 c), .t (.int .i64 n), .t (.sl 1 (l.map (T.int .i64)))])), (.loc 900, some (.slt 9 1 ((sdL s g j).map .str)))])
    ?_ (n := k) ⟨0, by omega, rfl, rfl, rfl⟩
  rintro q env st ⟨j, hj, rfl, rfl, rfl⟩
  have wj : IntKind.i64.wrap ((j : Int) + 1) = ((j + 1 : Nat) : Int) := by rw [zj (by omega) (by omega)]; omega
  by_cases hlt : j < k
  · have hS := jZ s g (j : Int) hs
    have hsuc := zg5 s g j
    have hln := zfr s g j
    generalize sdS s g (j : Int) = Y at *
    repeat' (first | refine wC ?_ | (exfalso; omega) | refine wK ?_ | ((with_reducible refine zD ?_); refine zn rfl rfl rfl rfl rfl rfl rfl rfl rfl rfl ?_ ?_ ?_) | ((with_reducible refine zg ?_); refine wL hS ?_) | refine zi rfl ?_ ?_ <;> intro hc)
    · simp only [List.length_map, List.length_cons, List.length_nil]; omega
    · simp only [List.length_map, List.length_cons, List.length_nil]; omega
    · exact zr (n' := k - (j + 1)) (by omega) ((za [1, 3, 7, 11, 12] [.loc 3, .loc 22] rfl rfl).trans (zk (.loc 22) (.loc 900) rfl rfl rfl rfl)) ⟨j + 1, by omega, rfl, by rw [wj]; rfl, by rw [hsuc, List.map_append, List.map_singleton]; rfl⟩
  · obtain rfl : j = k := by omega
    repeat' (first | refine wC ?_ | (exfalso; omega) | refine wK ?_ | refine zi rfl ?_ ?_ <;> intro hc)
    refine zx ((za [6] [.loc 900] rfl rfl).trans (zk (.loc 900) (.res 0) rfl rfl rfl rfl)) ?_
    exact zQ (zo (yl rfl (AVLE.refl _)) (zv ⟨rfl, trivial⟩))
set_option maxHeartbeats 4000000 in
theorem zcG (s : ByteArray) (p n : Int) (l : List Int) (k : Nat) (hs : s.size ≤ 900000) (hk : k ≤ 8) : Spec Tryz.prog 24 [.t (vaT s p (k : Int) n l)] [] (.row (.res 0)) [(.res 0, .slt 9 1 ((sdL s p k).map .str))] := by
  have hS := vz s p (k : Int) n l p k hs hk
  refine wIG Tryz.func24 ?_
  repeat' (first | refine wC ?_ | refine wK ?_ | ((with_reducible refine zg ?_); refine wN (.row (.loc 900)) [(.res 0, .loc 900)] hS ?_) | fail)
  refine zx ((za [2] [.loc 900] rfl rfl).trans (zk (.loc 900) (.res 0) rfl rfl rfl rfl)) ?_
  exact zQ (zo (yl rfl (AVLE.refl _)) (zv ⟨rfl, trivial⟩))
def vF {α : Type} (f h : Nat → α) (k j : Nat) : List α := (List.range k).map (fun i => if i < j then f i else h i)
theorem vv {α : Type} (f h : Nat → α) (k j : Nat) : (vF f h k j).length = k := by simp [vF]
theorem za0 {α : Type} [Inhabited α] (f h : Nat → α) (k j : Nat) (hj : j < k) : (vF f h k j).getD j default = h j := by
  unfold vF
  rw [List.getD_eq_getElem?_getD, List.getElem?_map, List.getElem?_range hj]
  simp
theorem zdK {α : Type} (f h : Nat → α) (k : Nat) : vF f h k 0 = (List.range k).map h := by
  unfold vF; apply List.map_congr_left; intro i _; simp
theorem zfZ {α : Type} (f h : Nat → α) (k : Nat) : vF f h k k = (List.range k).map f := by
  unfold vF; apply List.map_congr_left; intro i hi; simp [List.mem_range.1 hi]
theorem kE {α : Type} (f h : Nat → α) (k j : Nat) : (vF f h k j).set j (f j) = vF f h k (j + 1) := by
  apply List.ext_getElem?
  intro i
  unfold vF
  rw [List.getElem?_set]
  by_cases e : j = i
  · subst e
    rw [if_pos rfl]
    by_cases hj : j < k
    · rw [if_pos (by simpa using hj), List.getElem?_map, List.getElem?_range hj]; simp
    · rw [if_neg (by simpa using hj), List.getElem?_map, List.getElem?_eq_none (by simpa using hj)]; rfl
  · rw [if_neg e, List.getElem?_map, List.getElem?_map]
    by_cases hk : i < k
    · rw [List.getElem?_range hk]
      simp only [Option.map_some]
      congr 1
      by_cases h1 : i < j
      · rw [if_pos h1, if_pos (by omega)]
      · rw [if_neg h1, if_neg (by omega)]
    · rw [List.getElem?_eq_none (by simpa using hk)]; rfl
def kyS (s : ByteArray) (g : Int) (i : Nat) : ByteArray := wZ 2 (ktP (sdS s g (i : Int)))
set_option maxHeartbeats 4000000 in
theorem zbF (s : ByteArray) (p n : Int) (l : List Int) (k : Nat) (hs : s.size ≤ 900000) (hk : k ≤ 8) : Spec Tryz.prog 22 [.t (vaT s p (k : Int) n l)] [] (.t (.sl 1 (((List.range k).map (kyS s p)).map .str))) [] := by
  have hS := vz s p (k : Int) n l p k hs hk
  rw [show sdL s p k = (List.range k).map (fun (i : Nat) => sdS s p (i : Int)) from rfl, ← zdK (kyS s p)] at hS
  rw [← zfZ (kyS s p) (fun (i : Nat) => sdS s p (i : Int))]
  refine wIG Tryz.func22 ?_
  repeat' (first | refine wC ?_ | refine wK ?_ | ((with_reducible refine zg ?_); refine wN (.row (.loc 900)) [(.res 0, .loc 900)] hS ?_) | fail)
  have hln0 := vv (kyS s p) (fun (i : Nat) => sdS s p (i : Int)) k 0
  rw [hln0]
  refine zb (za [3, 12, 13, 14] [.loc 900] rfl rfl) ?_
  refine ze (fun q env st => ∃ (j : Nat), j ≤ k ∧ q = k - j ∧ env = EnvL.get [(3, .row (.loc 900)), (12, .row (.loc 900)), (13, .t (.int .i64 (k : Int))), (14, .t (.int .i64 (j : Int)))] ∧ st = StO.get [(.loc 900, some (.slt 9 1 ((vF (kyS s p) (fun (i : Nat) => sdS s p (i : Int)) k j).map .str)))])
    ?_ (n := k) ⟨0, by omega, rfl, rfl, rfl⟩
  clear hln0
  rintro q env st ⟨j, hj, rfl, rfl, rfl⟩
  have wj : IntKind.i64.wrap ((j : Int) + 1) = ((j + 1 : Nat) : Int) := by rw [zj (by omega) (by omega)]; omega
  by_cases hlt : j < k
  · have hK := jT (sdS s p (j : Int)) (by rw [wO]; decide)
    rw [show wZ 2 (ktP (sdS s p (j : Int))) = kyS s p j from rfl] at hK
    have hat := za0 (kyS s p) (fun (i : Nat) => sdS s p (i : Int)) k j hlt
    have hset := kE (kyS s p) (fun (i : Nat) => sdS s p (i : Int)) k j
    have hln := vv (kyS s p) (fun (i : Nat) => sdS s p (i : Int)) k j
    rw [← hat, ← Int.toNat_natCast j] at hK
    rw [Int.toNat_natCast j] at hK
    clear hat
    generalize vF (kyS s p) (fun (i : Nat) => sdS s p (i : Int)) k j = M at *
    generalize kyS s p j = Y at *
    rw [show M.getD j default = M.getD (j : Int).toNat default from rfl] at hK
    repeat' (first | refine wC ?_ | (exfalso; omega) | refine wK ?_ | ((with_reducible refine xu ?_); refine yN rfl rfl rfl rfl rfl rfl rfl rfl ?_ ?_) | ((with_reducible refine yY ?_); refine yP rfl rfl rfl rfl rfl rfl ?_ ?_ ?_) | ((with_reducible refine zd ?_); refine zO rfl rfl rfl rfl rfl rfl rfl ?_ ?_ ?_) | ((with_reducible refine zg ?_); refine wL hK ?_) | refine zi rfl ?_ ?_ <;> intro hc)
    all_goals try (simp only [List.length_map]; omega)
    all_goals try omega
    all_goals first | rfl | exact zr (n' := k - (j + 1)) (by omega) (za [3, 12, 13, 14] [.loc 900] rfl rfl) ⟨j + 1, by omega, rfl, by rw [wj]; rfl, by rw [← hset, List.map_set]; rfl⟩
  · obtain rfl : j = k := by omega
    repeat' (first | refine wC ?_ | (exfalso; omega) | refine wK ?_ | refine zi rfl ?_ ?_ <;> intro hc)
    refine zx (zh (id := .loc 900) rfl rfl rfl) ?_
    exact zQ (zo (yl rfl (AVLE.refl _)) (by simp))
def usL (u : Nat → Nat) (k : Nat) : List Int := (List.range k).map (fun i => (u i : Int))
theorem va (u : Nat → Nat) (k : Nat) : (usL u k).length = k := by simp [usL]
theorem zgf (u : Nat → Nat) (k : Nat) {x : Int} (h : x ∈ usL u k) : ∃ i, i < k ∧ x = (u i : Int) := by
  obtain ⟨i, hi, rfl⟩ := List.mem_map.1 h
  exact ⟨i, List.mem_range.1 hi, rfl⟩
theorem zdx (u : Nat → Nat) (k : Nat) (hk : 1 ≤ k) : ∃ t, usL u k = (u 0 : Int) :: t := by
  obtain ⟨k, rfl⟩ : ∃ j, k = j + 1 := ⟨k - 1, by omega⟩
  exact ⟨(List.range k).map (fun i => (u (i + 1) : Int)), by unfold usL; rw [List.range_succ_eq_map]; simp [Function.comp_def]⟩
theorem zff (B : Int) : ∀ (l : List Int) (a : Int), a < B → (∀ x ∈ l, x < B) → zct a l < B
  | [], a, h, _ => h
  | x :: l, a, h, hl => by
    unfold zct
    apply zff B l
    · split
      · exact hl x (by simp)
      · exact h
    · exact fun y hy => hl y (List.mem_cons_of_mem _ hy)
theorem zck : ∀ (l : List Int) (a : Int), a ≤ zct a l ∧ ∀ x ∈ l, x ≤ zct a l
  | [], a => ⟨Int.le_refl _, fun x h => by cases h⟩
  | x :: l, a => by
    unfold zct
    have := zck l (if x > a then x else a)
    refine ⟨?_, ?_⟩
    · refine Int.le_trans ?_ this.1
      split <;> omega
    · intro y hy
      rcases List.mem_cons.1 hy with rfl | hy
      · refine Int.le_trans ?_ this.1
        split <;> omega
      · exact this.2 y hy
theorem qy (s : ByteArray) (p n : Int) (k : Nat) (u : Nat → Nat) (hs : s.size = 32) (hp : 0 ≤ p) (hp1 : p < 65536) (hk1 : 1 ≤ k) (hk : k ≤ 8) (hn : 0 ≤ n) (hn8 : n ≤ 8) (hu : ∀ i, i < k → u i ≤ 8) : qq s p (k : Int) n (usL u k) = true := by
  have ha : (usL u k).any za9 = false := by
    rw [List.any_eq_false]
    intro x hx
    obtain ⟨i, hi, rfl⟩ := zgf u k hx
    have := hu i hi
    simp [za9]; omega
  unfold qq
  rw [ha, va]
  simp [hs, hp, hp1, hn, hn8]; omega
def sgT (s : ByteArray) (p : Int) (u : Nat → Nat) (m : ByteArray) (i : Nat) : T := .agg [.int .i64 (i : Int), .str (ktS (sdS s p (i : Int)) (u i) m)]
def sgL (s : ByteArray) (p : Int) (u : Nat → Nat) (m : ByteArray) (k : Nat) : List T := (List.range k).map (sgT s p u m)
theorem zfn (s : ByteArray) (p : Int) (u : Nat → Nat) (m : ByteArray) (k : Nat) : (sgL s p u m k).length = k := by simp [sgL]
theorem zdP (s : ByteArray) (p : Int) (u : Nat → Nat) (m : ByteArray) (k : Nat) : sgL s p u m (k + 1) = sgL s p u m k ++ [sgT s p u m k] := by simp [sgL, List.range_succ]
set_option maxHeartbeats 8000000 in
theorem zdg (s m : ByteArray) (p n : Int) (k : Nat) (u : Nat → Nat) (hs : s.size = 32) (hp : 0 ≤ p) (hp1 : p < 65536) (hk1 : 1 ≤ k) (hk : k ≤ 8) (hn : 0 ≤ n) (hn8 : n ≤ 8) (hu : ∀ i, i < k → u i ≤ 8) (i8 : Nat) (hi8 : i8 < k) (he8 : u i8 = 8) : Spec Tryz.prog 18 [.t (vaT s p (k : Int) n (usL u k)), .t (.str m)] [] (.tup [.t .nilsl, .t (vaT s p (k : Int) n (usL u k)), .t (.int .i64 25)]) [] := by
  have hln := va u k
  have hO := vT s p (k : Int) n (usL u k) (by omega) (by omega)
  have hV := yQ s p (k : Int) n (usL u k) (by omega)
  rw [qy s p n k u hs hp hp1 hk1 hk hn hn8 hu] at hV
  obtain ⟨t, ht⟩ := zdx u k hk1
  have htl : t.length = k - 1 := by have := congrArg List.length ht; rw [hln, List.length_cons] at this; omega
  have hM := zdV (u 0 : Int) t (by omega)
  have hX : 8 ≤ zct (u 0 : Int) t := by
    have h8 : (8 : Int) ∈ usL u k := List.mem_map.2 ⟨i8, List.mem_range.2 hi8, by rw [he8]; rfl⟩
    rw [ht] at h8
    rcases List.mem_cons.1 h8 with h | h
    · rw [h]; exact (zck t _).1
    · exact (zck t _).2 _ h
  rw [← ht] at hM
  generalize zct (u 0 : Int) t = X at *
  clear ht htl
  generalize usL u k = U at *
  refine wIG Tryz.func18 ?_
  repeat' (first | refine wC ?_ | (exfalso; omega) | refine wK ?_ | ((with_reducible refine zg ?_); first | refine wN (.agg [.t (.str s), .t (.int .i64 p), .t (.int .i64 (k : Int)), .t (.int .i64 n), .row (.loc 900)]) [(.res 0, .loc 900)] hO ?_ | refine wL hV ?_ | refine wL hM ?_) | refine zi rfl ?_ ?_ <;> intro hc)
  refine zx (za [4, 5, 6] [.loc 5, .loc 900] rfl rfl) ?_
  refine zx (zh (id := .loc 900) rfl rfl rfl) ?_
  refine zQ (zo ?_ (by simp)); refine yg rfl rfl rfl inferInstance rfl inferInstance rfl ?_ ?_ ?_; exact AVLE.refl _; exact TLe.av wT; exact AVLE.refl _
theorem zfM (u : Nat → Nat) (k : Nat) : vF (fun i => ((u i : Nat) : Int) + 1) (fun i => ((u i : Nat) : Int)) k k = usL (fun i => u i + 1) k := by
  rw [zfZ]; unfold usL
  apply List.map_congr_left; intro i _; rfl
set_option maxHeartbeats 16000000 in
theorem zah (s m : ByteArray) (p n : Int) (k : Nat) (u : Nat → Nat) (hm : m.size ≤ 900000) (hs : s.size = 32) (hp : 0 ≤ p) (hp1 : p < 65536) (hk1 : 1 ≤ k) (hk : k ≤ 8) (hn : 0 ≤ n) (hn8 : n ≤ 8) (hu : ∀ i, i < k → u i < 8) : Spec Tryz.prog 18 [.t (vaT s p (k : Int) n (usL u k)), .t (.str m)] [] (.tup [.t (.sl 2 (sgL s p u m k)), .t (vaT s p (k : Int) n (usL (fun i => u i + 1) k)), .t (.int .i64 0)]) [] := by
  rw [← zfM]
  have hln := va u k
  have hO := vT s p (k : Int) n (usL u k) (by omega) (by omega)
  have hV := yQ s p (k : Int) n (usL u k) (by omega)
  rw [qy s p n k u hs hp hp1 hk1 hk hn hn8 (fun i hi => Nat.le_of_lt (hu i hi))] at hV
  have hS := zcG s p n (usL u k) k (by omega) hk
  obtain ⟨t, ht⟩ := zdx u k hk1
  have htl : t.length = k - 1 := by have := congrArg List.length ht; rw [hln, List.length_cons] at this; omega
  have hM := zdV (u 0 : Int) t (by omega)
  have hX : zct (u 0 : Int) t < 8 := by
    apply zff
    · exact Int.ofNat_lt.2 (hu 0 hk1)
    · intro x hx
      have hx' : x ∈ usL u k := by rw [ht]; exact List.mem_cons_of_mem _ hx
      obtain ⟨i, hi, rfl⟩ := zgf u k hx'
      exact Int.ofNat_lt.2 (hu i hi)
  rw [← ht] at hM
  generalize zct (u 0 : Int) t = X at *
  clear ht htl
  have hL := zfr s p k
  have hat := fun j (hj : j < k) => (show (sdL s p k).getD (j : Int).toNat default = sdS s p (j : Int) from by
    unfold sdL; rw [Int.toNat_natCast, List.getD_eq_getElem?_getD, List.getElem?_map, List.getElem?_range hj]; rfl)
  have hau := fun j (hj : j < k) => (show (usL u k).getD (j : Int).toNat default = (u j : Int) from by
    unfold usL; rw [Int.toNat_natCast, List.getD_eq_getElem?_getD, List.getElem?_map, List.getElem?_range hj]; rfl)
  have h0 : usL u k = vF (fun i => ((u i : Nat) : Int) + 1) (fun i => ((u i : Nat) : Int)) k 0 := (zdK _ _ _).symm
  rw [show (Row.slt 3 1 ((usL u k).map (T.int .i64))) = Row.slt 3 1 ((vF (fun i => ((u i : Nat) : Int) + 1) (fun i => ((u i : Nat) : Int)) k 0).map (T.int .i64)) from by rw [h0]] at hO
  clear h0
  generalize sdL s p k = D at *
  generalize usL u k = U at *
  refine wIG Tryz.func18 ?_
  repeat' (first | refine wC ?_ | (exfalso; omega) | refine wK ?_ | ((with_reducible refine zg ?_); first | refine wN (.agg [.t (.str s), .t (.int .i64 p), .t (.int .i64 (k : Int)), .t (.int .i64 n), .row (.loc 900)]) [(.res 0, .loc 900)] hO ?_ | refine wN (.row (.loc 902)) [(.res 0, .loc 902)] hS ?_ | refine wL hV ?_ | refine wL hM ?_) | refine zi rfl ?_ ?_ <;> intro hc)
  refine zb (z8 8 (.loc 901) 47 2 rfl rfl rfl) ?_
  rw [hL]
  refine zb (za [1, 2, 5, 6, 7, 8, 27, 28, 29] [.loc 2, .loc 5, .loc 7, .loc 900, .loc 901, .loc 902] rfl rfl) ?_
  clear hO hV hS hM
  refine ze (fun q env st => ∃ (j : Nat), j ≤ k ∧ q = k - j ∧ env = EnvL.get [(1, .t (.str m)), (2, .ref (.loc 2) 0 0 0), (5, .ref (.loc 5) 0 0 0), (6, .t (.int .i64 0)), (7, .ref (.loc 7) 0 0 0), (8, .row (.loc 901)), (27, .row (.loc 902)), (28, .t (.int .i64 (k : Int))), (29, .t (.int .i64 (j : Int)))] ∧ st = StO.get [(.loc 2, some (.var 24 [.t (.str s), .t (.int .i64 p), .t (.int .i64 (k : Int)), .t (.int .i64 n), .t (.sl 1 (U.map (T.int .i64)))])), (.loc 5, some (.var 24 [.t (.str ⟨#[]⟩), .t (.int .i64 0), .t (.int .i64 0), .t (.int .i64 0), .t .nilsl])), (.loc 7, some (.var 24 [.t (.str s), .t (.int .i64 p), .t (.int .i64 (k : Int)), .t (.int .i64 n), .row (.loc 900)])), (.loc 900, some (.slt 3 1 ((vF (fun i => ((u i : Nat) : Int) + 1) (fun i => ((u i : Nat) : Int)) k j).map (T.int .i64)))), (.loc 901, some (.slt 47 2 (sgL s p u m j))), (.loc 902, some (.slt 9 1 (D.map .str)))])
    ?_ (n := k) ⟨0, by omega, rfl, rfl, rfl⟩
  rintro q env st ⟨j, hj, rfl, rfl, rfl⟩
  have wj : IntKind.i64.wrap ((j : Int) + 1) = ((j + 1 : Nat) : Int) := by rw [zj (by omega) (by omega)]; omega
  by_cases hlt : j < k
  · have hK := zcE (sdS s p (j : Int)) m (u j) (hu j hlt) (by rw [wO]; decide) hm
    have hsg := zdP s p u m j
    have hsl := zfn s p u m j
    have hmm := za0 (fun i => ((u i : Nat) : Int) + 1) (fun i => ((u i : Nat) : Int)) k j hlt
    have hms := kE (fun i => ((u i : Nat) : Int) + 1) (fun i => ((u i : Nat) : Int)) k j
    have hml := vv (fun i => ((u i : Nat) : Int) + 1) (fun i => ((u i : Nat) : Int)) k j
    have hwu : IntKind.i64.wrap ((vF (fun i => ((u i : Nat) : Int) + 1) (fun i => ((u i : Nat) : Int)) k j).getD (j : Int).toNat default + 1) = ((u j : Nat) : Int) + 1 := by
      rw [Int.toNat_natCast, hmm]
      have := hu j hlt
      exact zj (by omega) (by omega)
    have hset : ((vF (fun i => ((u i : Nat) : Int) + 1) (fun i => ((u i : Nat) : Int)) k j).map (T.int .i64)).set (j : Int).toNat (.int .i64 (IntKind.i64.wrap ((vF (fun i => ((u i : Nat) : Int) + 1) (fun i => ((u i : Nat) : Int)) k j).getD (j : Int).toNat default + 1))) = (vF (fun i => ((u i : Nat) : Int) + 1) (fun i => ((u i : Nat) : Int)) k (j + 1)).map (T.int .i64) := by
      rw [hwu, Int.toNat_natCast, ← hms, List.map_set]
    unfold sgT at hsg
    clear hmm hms hwu
    rw [← hat j hlt, ← hau j hlt] at hK
    rw [← hat j hlt] at hsg
    generalize ktS (D.getD (j : Int).toNat default) (u j) m = Z at *
    generalize vF (fun i => ((u i : Nat) : Int) + 1) (fun i => ((u i : Nat) : Int)) k j = M at *
    clear hat hau
    repeat' (first | refine wC ?_ | (exfalso; omega) | refine wK ?_ | ((with_reducible refine xu ?_); refine yN rfl rfl rfl rfl rfl rfl rfl rfl ?_ ?_) | ((with_reducible refine yY ?_); refine yP rfl rfl rfl rfl rfl rfl ?_ ?_ ?_) | ((with_reducible refine zd ?_); first | refine zc rfl rfl rfl rfl rfl rfl ?_ ?_ ?_ | refine zO rfl rfl rfl rfl rfl rfl rfl ?_ ?_ ?_) | ((with_reducible refine zD ?_); refine zn rfl rfl rfl rfl rfl rfl rfl rfl rfl rfl ?_ ?_ ?_) | ((with_reducible refine zg ?_); refine wL hK ?_) | refine zi rfl ?_ ?_ <;> intro hc)
    all_goals try (simp only [List.length_map, List.length_cons, List.length_nil]; omega)
    all_goals try omega
    all_goals first | rfl | exact zr (n' := k - (j + 1)) (by omega) ((za [1, 2, 5, 6, 7, 8, 27, 28, 29] [.loc 2, .loc 5, .loc 7, .loc 900, .loc 50, .loc 902] rfl rfl).trans (zk (.loc 50) (.loc 901) rfl rfl rfl rfl)) ⟨j + 1, by omega, rfl, by rw [wj]; rfl, by rw [← hset, hsg]; rfl⟩
  · obtain rfl : j = k := by omega
    repeat' (first | refine wC ?_ | (exfalso; omega) | refine wK ?_ | refine zi rfl ?_ ?_ <;> intro hc)
    refine zx (za [4, 5, 6] [.loc 5, .loc 900, .loc 901] rfl rfl) ?_
    refine zx (zh (id := .loc 900) rfl rfl rfl) ?_
    refine zx (zh (id := .loc 901) rfl rfl rfl) ?_
    refine zQ (zo ?_ (by simp)); refine yg rfl rfl rfl inferInstance rfl inferInstance rfl ?_ ?_ ?_; exact AVLE.refl _; exact TLe.av wT; exact AVLE.refl _
set_option maxHeartbeats 8000000 in
theorem zbv (s : ByteArray) (p n nx : Int) (k : Nat) (u : Nat → Nat) (hs : s.size = 32) (hp : 0 ≤ p) (hp1 : p < 65535) (hk1 : 1 ≤ k) (hk : k ≤ 8) (hn : 1 ≤ n) (hn8 : n ≤ 8) (hx : 0 ≤ nx) (hx8 : nx ≤ 8) (hu : ∀ i, i < k → u i ≤ 8) : Spec Tryz.prog 20 [.t (vaT s p (k : Int) n (usL u k)), .t (.int .i64 nx)] [] (.tup [.t (vaT s (p + 1) n nx (List.replicate n.toNat 0)), .t (.int .i64 0)]) [] := by
  have hln := va u k
  have hO := vT s p (k : Int) n (usL u k) (by omega) (by omega)
  have hV := yQ s p (k : Int) n (usL u k) (by omega)
  rw [qy s p n k u hs hp (by omega) hk1 hk (by omega) hn8 hu] at hV
  have hk2 := y5 nx 0
  rw [show (decide (0 ≤ nx) && decide (nx ≤ 8)) = true from by simp [hx, hx8]] at hk2
  have wp : IntKind.i64.wrap (p + 1) = p + 1 := zj (by omega) (by omega)
  rw [show vaT s (p + 1) n nx (List.replicate n.toNat 0) = .agg [.str s, .int .i64 (p + 1), .int .i64 n, .int .i64 nx, .sl 1 (List.replicate n.toNat (T.int .i64 0))] from by unfold vaT; rw [List.map_replicate]]
  rw [← wp]
  clear wp
  generalize usL u k = U at *
  refine wIG Tryz.func20 ?_
  repeat' (first | refine wC ?_ | (exfalso; omega) | refine vw (r := .agg [.t (.str s), .t (.int .i64 (IntKind.i64.wrap (p + 1))), .t (.int .i64 n), .t (.int .i64 nx), .row (.loc 39)]) rfl rfl rfl rfl rfl rfl rfl ?_ | refine wK ?_ | ((with_reducible refine yG ?_); refine yo (zT := .int _ _) rfl rfl rfl rfl rfl rfl rfl rfl rfl ?_ ?_ ?_ ?_ ?_) | ((with_reducible refine zg ?_); first | refine wN (.agg [.t (.str s), .t (.int .i64 p), .t (.int .i64 (k : Int)), .t (.int .i64 n), .row (.loc 900)]) [(.res 0, .loc 900)] hO ?_ | refine wL hV ?_ | refine wL hk2 ?_) | refine zi rfl ?_ ?_ <;> intro hc)
  · omega
  · omega
  · omega
  · omega
  refine zx (zh (id := .loc 39) rfl rfl rfl) ?_
  refine zQ (zo ?_ (by simp)); refine zL rfl rfl rfl inferInstance rfl inferInstance rfl ?_ ?_; exact TLe.av wT; exact AVLE.refl _
def sdN (n : Int) : ByteArray := vE ((List.replicate 32 (T.int .u8 0)).set 0 (.int .u8 n))
theorem zdI (n : Int) : (sdN n).size = 32 := xP _
set_option maxHeartbeats 2000000 in
theorem qH (n : Int) (h0 : 0 ≤ n) (h1 : n < 256) : Spec Tryz.prog 9 [.t (.int .u8 n)] [] (.t (.str (sdN n))) [] := by
  refine wI Tryz.func9 ?_
  repeat' (first | refine wC ?_ | refine wK ?_ | ((with_reducible refine yY ?_); refine yP rfl rfl rfl rfl rfl rfl ?_ ?_ ?_) | ((with_reducible refine zd ?_); refine zO rfl rfl rfl rfl rfl rfl rfl ?_ ?_ ?_) | ((with_reducible refine zN ?_); refine zw rfl rfl rfl rfl rfl rfl ?_ ?_) | ((with_reducible refine yG ?_); refine yo (zT := .int _ _) rfl rfl rfl rfl rfl rfl rfl rfl rfl ?_ ?_ ?_ ?_ ?_))
  all_goals first | decide | rfl | skip
  · intro e he
    rcases List.mem_or_eq_of_mem_set he with h | h
    · rw [List.eq_of_mem_replicate h]; rfl
    · rw [h]; rfl
  · exact zo (zf rfl rfl rfl) (by simp)
theorem zcv (s m : ByteArray) (p n : Int) (u : Nat) (hm : m.size ≤ 900000) (hs : s.size = 32) (hp : 0 ≤ p) (hp1 : p < 65536) (hn : 0 ≤ n) (hn8 : n ≤ 8) (hu : u < 8) : Spec Tryz.prog 18 [.t (vaT s p 1 n [(u : Int)]), .t (.str m)] [] (.tup [.t (.sl 2 [.agg [.int .i64 0, .str (ktS (sdS s p 0) u m)]]), .t (vaT s p 1 n [((u + 1 : Nat) : Int)]), .t (.int .i64 0)]) [] :=
  zah s m p n 1 (fun _ => u) hm hs hp hp1 (by omega) (by omega) hn hn8 (fun _ _ => hu)
theorem zd6 (s : ByteArray) (hs : s.size = 32) : Spec Tryz.prog 10 [.t (.str s), .t (.int .i64 1), .t (.int .i64 1)] [] (.tup [.t (vaT s 0 1 1 [((0 : Nat) : Int)]), .t (.int .i64 0)]) [] :=
  zbj s 1 1 hs (by decide) (by decide) (by decide) (by decide)
theorem zd8 (s : ByteArray) (p n : Int) (l : List Int) (hs : s.size ≤ 900000) : Spec Tryz.prog 22 [.t (vaT s p 1 n l)] [] (.t (.sl 1 [.str (wZ 2 (ktP (sdS s p 0)))])) [] :=
  zbF s p n l 1 hs (by decide)
set_option maxRecDepth 8000 in
set_option maxHeartbeats 8000000 in
theorem zbR : Spec Tryz.prog 5 [] [] (.t (.bool true)) [] := by
  have h0 := qH 1 (by decide) (by decide)
  have z0 := zdI 1
  generalize sdN 1 = S at *
  obtain ⟨M, hM⟩ : ∃ M : ByteArray, M = ⟨#[116, 101, 120, 116]⟩ := ⟨_, rfl⟩
  have hMz : M.size ≤ 900000 := by rw [hM]; decide
  have h1 := zd6 S z0
  have h2 := zcv S M 0 1 0 hMz z0 (by decide) (by decide) (by decide) (by decide) (by decide)
  have h3 := zd8 S 0 1 [((0 : Nat) : Int)] (by omega)
  have h4 := zdm (sdS S 0 0) M 0 (by decide) (by rw [wO]; decide) hMz
  rw [hM] at h2 h4
  clear hM hMz
  generalize wZ 2 (ktP (sdS S 0 0)) = K at *
  generalize ktS (sdS S 0 0) 0 ⟨#[116, 101, 120, 116]⟩ = G at *
  unfold vaT at h1 h2 h3
  refine wI Tryz.func5 ?_
  repeat' (first | refine wC ?_ | refine wK ?_ | ((with_reducible refine zg ?_); first | refine wL h0 ?_ | refine wL h1 ?_) | fail)
  refine wL h2 ?_
  repeat' (first | refine wC ?_ | refine wK ?_ | fail)
  refine wL h3 ?_
  repeat' (first | refine wC ?_ | refine yj rfl rfl rfl rfl rfl rfl ?_ ?_ ?_ | refine wK ?_ | ((with_reducible refine zg ?_); refine wL h4 ?_) | fail)
  all_goals first | omega | (simp; done) | exact zo (zf rfl rfl (congrArg T.bool (by simp))) (by simp)
theorem zdO (s : ByteArray) (g : Int) (i : Nat) : (kyS s g i).size = 44 := by
  obtain ⟨X, x1, x2, _⟩ := zdR (ktP (sdS s g (i : Int))) (ky _)
  unfold kyS
  rw [x1, ByteArray.size_append, x2]; rfl
def dgS (s : ByteArray) : ByteArray := wZ 1 (sha s)
set_option maxHeartbeats 2000000 in
theorem zbm (s : ByteArray) (hs : s.size ≤ 900000) : Spec Tryz.prog 44 [.t (.str s)] [] (.t (.str (dgS s))) [] := by
  have hP := vq s (by omega)
  have hM := zcb 1 (by omega) (by omega) (sha s) (by rw [xc]; rfl)
  unfold dgS
  generalize wZ 1 (sha s) = Z at *
  generalize sha s = Y at *
  refine wI Tryz.func44 ?_
  repeat' (first | refine wC ?_ | refine wK ?_ | ((with_reducible refine zg ?_); first | refine wL hP ?_ | refine wL hM ?_) | fail)
  exact zo (zf rfl rfl rfl) (by simp)
def nxS (s : ByteArray) (g : Int) (i : Nat) : ByteArray := dgS (kyS s g i)
set_option maxHeartbeats 4000000 in
theorem ze2 (s : ByteArray) (p c : Int) (l : List Int) (k : Nat) (hs : s.size ≤ 900000) (hk : k ≤ 8) (hp : 0 ≤ p) (hp1 : p < 65536) : Spec Tryz.prog 23 [.t (vaT s p c (k : Int) l)] [] (.t (.sl 1 (((List.range k).map (nxS s (p + 1))).map .str))) [] := by
  have hS := vz s p c (k : Int) l (p + 1) k hs hk
  have wp : IntKind.i64.wrap (p + 1) = p + 1 := zj (by omega) (by omega)
  rw [show sdL s (p + 1) k = (List.range k).map (fun (i : Nat) => sdS s (p + 1) (i : Int)) from rfl, ← zdK (nxS s (p + 1))] at hS
  rw [← zfZ (nxS s (p + 1)) (fun (i : Nat) => sdS s (p + 1) (i : Int))]
  rw [← wp] at hS ⊢
  rw [show sdS s (IntKind.i64.wrap (p + 1)) = sdS s (p + 1) from by rw [wp]] at hS
  rw [show nxS s (IntKind.i64.wrap (p + 1)) = nxS s (p + 1) from by rw [wp]] at hS ⊢
  rw [show sdS s (IntKind.i64.wrap (p + 1)) = sdS s (p + 1) from by rw [wp]]
  refine wIG Tryz.func23 ?_
  repeat' (first | refine wC ?_ | refine wK ?_ | ((with_reducible refine zg ?_); refine wN (.row (.loc 900)) [(.res 0, .loc 900)] hS ?_) | fail)
  have hln0 := vv (nxS s (p + 1)) (fun (i : Nat) => sdS s (p + 1) (i : Int)) k 0
  rw [hln0]
  refine zb (za [3, 13, 14, 15] [.loc 900] rfl rfl) ?_
  refine ze (fun q env st => ∃ (j : Nat), j ≤ k ∧ q = k - j ∧ env = EnvL.get [(3, .row (.loc 900)), (13, .row (.loc 900)), (14, .t (.int .i64 (k : Int))), (15, .t (.int .i64 (j : Int)))] ∧ st = StO.get [(.loc 900, some (.slt 9 1 ((vF (nxS s (p + 1)) (fun (i : Nat) => sdS s (p + 1) (i : Int)) k j).map .str)))])
    ?_ (n := k) ⟨0, by omega, rfl, rfl, rfl⟩
  clear hln0
  rintro q env st ⟨j, hj, rfl, rfl, rfl⟩
  have wj : IntKind.i64.wrap ((j : Int) + 1) = ((j + 1 : Nat) : Int) := by rw [zj (by omega) (by omega)]; omega
  by_cases hlt : j < k
  · have hK := jT (sdS s (p + 1) (j : Int)) (by rw [wO]; decide)
    rw [show wZ 2 (ktP (sdS s (p + 1) (j : Int))) = kyS s (p + 1) j from rfl] at hK
    have hD := zbm (kyS s (p + 1) j) (by rw [zdO]; decide)
    rw [show dgS (kyS s (p + 1) j) = nxS s (p + 1) j from rfl] at hD
    have hat := za0 (nxS s (p + 1)) (fun (i : Nat) => sdS s (p + 1) (i : Int)) k j hlt
    have hset := kE (nxS s (p + 1)) (fun (i : Nat) => sdS s (p + 1) (i : Int)) k j
    have hln := vv (nxS s (p + 1)) (fun (i : Nat) => sdS s (p + 1) (i : Int)) k j
    rw [← hat, ← Int.toNat_natCast j] at hK
    rw [Int.toNat_natCast j] at hK
    clear hat hS
    generalize vF (nxS s (p + 1)) (fun (i : Nat) => sdS s (p + 1) (i : Int)) k j = M at *
    generalize nxS s (p + 1) j = Y at *
    generalize kyS s (p + 1) j = X at *
    rw [show M.getD j default = M.getD (j : Int).toNat default from rfl] at hK
    repeat' (first | refine wC ?_ | (exfalso; omega) | refine wK ?_ | ((with_reducible refine xu ?_); refine yN rfl rfl rfl rfl rfl rfl rfl rfl ?_ ?_) | ((with_reducible refine yY ?_); refine yP rfl rfl rfl rfl rfl rfl ?_ ?_ ?_) | ((with_reducible refine zd ?_); refine zO rfl rfl rfl rfl rfl rfl rfl ?_ ?_ ?_) | ((with_reducible refine zg ?_); first | refine wL hK ?_ | refine wL hD ?_) | refine zi rfl ?_ ?_ <;> intro hc)
    all_goals try (simp only [List.length_map]; omega)
    all_goals try omega
    all_goals first | rfl | exact zr (n' := k - (j + 1)) (by omega) (za [3, 13, 14, 15] [.loc 900] rfl rfl) ⟨j + 1, by omega, rfl, by rw [wj]; rfl, by rw [← hset, List.map_set]; rfl⟩
  · obtain rfl : j = k := by omega
    repeat' (first | refine wC ?_ | (exfalso; omega) | refine wK ?_ | refine zi rfl ?_ ?_ <;> intro hc)
    refine zx (zh (id := .loc 900) rfl rfl rfl) ?_
    exact zQ (zo (yl rfl (AVLE.refl _)) (by simp))
set_option maxHeartbeats 8000000 in
theorem ju (s : ByteArray) (p nx : Int) (k : Nat) (u : Nat → Nat) (hs : s.size = 32) (hp : 0 ≤ p) (hp1 : p < 65535) (hk1 : 1 ≤ k) (hk : k ≤ 8) (hu : ∀ i, i < k → u i ≤ 8) : Spec Tryz.prog 20 [.t (vaT s p (k : Int) 0 (usL u k)), .t (.int .i64 nx)] [] (.tup [.t (vaT s p (k : Int) 0 (usL u k)), .t (.int .i64 26)]) [] := by
  have hln := va u k
  have hO := vT s p (k : Int) 0 (usL u k) (by omega) (by omega)
  have hV := yQ s p (k : Int) 0 (usL u k) (by omega)
  rw [qy s p 0 k u hs hp (by omega) hk1 hk (by omega) (by omega) hu] at hV
  generalize usL u k = U at *
  refine wIG Tryz.func20 ?_
  repeat' (first | refine wC ?_ | (exfalso; omega) | refine wK ?_ | ((with_reducible refine zg ?_); first | refine wN (.agg [.t (.str s), .t (.int .i64 p), .t (.int .i64 (k : Int)), .t (.int .i64 0), .row (.loc 900)]) [(.res 0, .loc 900)] hO ?_ | refine wL hV ?_) | refine zi rfl ?_ ?_ <;> intro hc)
  refine zx (zh (id := .loc 900) rfl rfl rfl) ?_
  refine zQ (zo ?_ (by simp)); refine zL rfl rfl rfl inferInstance rfl inferInstance rfl ?_ ?_; exact TLe.av wT; exact AVLE.refl _
set_option maxHeartbeats 2000000 in
theorem zbc (s : ByteArray) (hs : s.size ≤ 9223372036854775807) : Spec Tryz.prog 111 [.t (.str s)] [] (.tup [.t (.str (vS s).1), .t (.int .i64 (vS s).2)]) [] := by
  refine wI Tryz.func111 ?_
  repeat' (first | refine wC ?_ | refine wK ?_ | refine zi rfl ?_ ?_ <;> intro hc | refine zR rfl ?_ ?_ <;> intro hc)
  case' refine_1 =>
    refine zo (yd rfl rfl rfl ?_ ?_) (by simp) <;> simp [vS, hc]
  case' refine_2.refine_2 =>
    refine zo (yd rfl rfl rfl ?_ ?_) (by simp) <;> simp [vS, *]
  have q3 : (s.size : Int).tmod 3 = ((s.size % 3 : Nat) : Int) := rfl
  rw [q3] at hc
  have q0 : 3 * (s.size / 3) = s.size := by omega
  refine zb (za [0, 2, 3, 4, 5] [] rfl rfl) ?_
  refine zb (z8 4 (.loc 1000) 5 1 rfl rfl rfl) ?_
  refine zb (za [0, 2, 3, 4, 5] [.loc 1000] rfl rfl) ?_
  refine ze (fun n env st => ∃ (k j : Nat) (es : List T), j + k = s.size / 3 ∧ n = k ∧ IsU8 es ∧ es.length = 4 * j ∧ es ++ zhT k j s = zhT (s.size / 3) 0 s ∧
      env = EnvL.get [(0, .t (.str s)), (2, .t (.str ⟨#[]⟩)), (3, .t (.int .i64 0)), (4, .row (.loc 1000)), (5, .t (.int .i64 ((3 * j : Nat) : Int)))] ∧ st = StO.get [(.loc 1000, some (.slt 5 1 es))]) ?_ (n := s.size / 3) ⟨s.size / 3, 0, _, by omega, rfl, ?_, ?_, ?_, rfl, rfl⟩
  · rintro n env st ⟨k, j, es, hr, rfl, hu, hl, he, rfl, rfl⟩
    repeat' (first | refine wC ?_ | refine wK ?_ | ((with_reducible refine yx ?_); refine zK rfl rfl rfl rfl rfl rfl ?_ ?_ ?_) | ((with_reducible refine zN ?_); refine zw rfl rfl rfl rfl rfl rfl ?_ ?_) | ((with_reducible refine zD ?_); refine zn rfl rfl rfl rfl rfl rfl rfl rfl rfl rfl ?_ ?_ ?_) | refine zi rfl ?_ ?_ <;> intro hc)
    all_goals try rw [zj (n := ((3 * j : Nat) : Int) + 1) (by omega) (by omega)]
    all_goals try rw [zj (n := ((3 * j : Nat) : Int) + 2) (by omega) (by omega)]
    all_goals try first | omega | exact hu | exact (qi (qg (wQ _ _) (wQ _ _) (wQ _ _))).1 | exact (qi (qg (wQ _ _) (wQ _ _) (wQ _ _))).2 | exact (kz _).1 | exact (kz _).2 | (simp only [List.length_cons, List.length_nil]; omega)
    · obtain ⟨m, rfl⟩ : ∃ m, n = m + 1 := ⟨n - 1, by omega⟩
      refine zr (n' := m) (by omega) ((za [0, 2, 3, 4, 5] [.loc 56] rfl rfl).trans (zk (.loc 56) (.loc 1000) rfl rfl rfl rfl)) ⟨m, j + 1, _, ?_, rfl, ?_, ?_, ?_, ?_, rfl⟩
      · omega
      · exact hu.append (zfm _)
      · simp; omega
      · rw [List.append_assoc]; exact he
      · rw [zj (by omega) (by omega)]; rfl
    · have hn : n = 0 := by omega
      subst hn
      simp [zhT] at he
      subst he
      refine zo (yd rfl rfl rfl ?_ ?_) (by simp) <;> simp [vS, *]
  · intro e he; simp at he
  · simp
  · simp
theorem zcX (s : ByteArray) (a i : Nat) (h : a + i < s.size) : bAt (s.extract a s.size) (i : Int) = bAt s ((a + i : Nat) : Int) := by
  have e : s.extract a s.size = ofL (s.data.toList.drop a) := by
    have := yM s.data.toList a s.size
    rw [wW] at this
    rw [this, List.take_of_length_le (by rw [List.length_drop, Array.length_toList]; exact Nat.le_refl _)]
  rw [e]
  unfold bAt
  simp only [Int.toNat_natCast, vA]
  rw [List.getD_eq_getElem?_getD, List.getD_eq_getElem?_getD, List.getElem?_drop]
theorem zfK : ∀ (k j : Nat) (s : ByteArray), s.size = 3 * (j + k) → zhT k j s = zd7 k (s.extract (3 * j) s.size)
  | 0, _, _, _ => rfl
  | k + 1, j, s, h => by
    rw [zhT, zd7, zfK k (j + 1) s (by omega)]
    have a0 := zcX s (3 * j) 0 (by omega)
    have a1 := zcX s (3 * j) 1 (by omega)
    have a2 := zcX s (3 * j) 2 (by omega)
    rw [Nat.add_zero] at a0
    rw [← a0, ← a1, ← a2]
    have e : (s.extract (3 * j) s.size).extract 3 (s.extract (3 * j) s.size).size = s.extract (3 * (j + 1)) s.size := by
      rw [ByteArray.size_extract, ByteArray.extract_extract]
      congr 1
      omega
    rw [e]; rfl
theorem zba (s : ByteArray) (hs : s.size = 33) : Spec Tryz.prog 111 [.t (.str s)] [] (.tup [.t (.str (yZ s).1), .t (.int .i64 0)]) [] := by
  have h := zbc s (by omega)
  have h3 : (s.size : Int).tmod 3 = 0 := by rw [hs]; decide
  have e : vS s = ((yZ s).1, 0) := by
    unfold vS yZ
    rw [if_neg (by omega), if_neg (by rw [h3]; decide), if_neg (by omega), if_neg (by rw [h3]; decide), zfK _ 0 s (by rw [hs]), Nat.mul_zero, ByteArray.extract_zero_size]
  rw [e] at h
  exact h
set_option maxHeartbeats 2000000 in
theorem jP : Spec Tryz.prog 110 [.t (.int .i64 1)] [] (.t (.int .i64 32)) [] := by
  refine wI Tryz.func110 ?_
  repeat' (first | refine wC ?_ | refine zW (es := [0, 32, 32, 32, 32, 16, 2, 626, 6].map (T.int .i64)) rfl rfl rfl rfl rfl rfl ?_ | refine wK ?_ | ((with_reducible refine zd ?_); refine zc rfl rfl rfl rfl rfl rfl ?_ ?_ ?_))
  all_goals first | decide | rfl | exact zo (zf rfl rfl rfl) (by simp)
set_option maxHeartbeats 2000000 in
theorem zdu : Spec Tryz.prog 91 [.t (.int .i64 1)] [] (.t (.int .i64 1)) [] := by
  have hR := jP
  refine wI Tryz.func91 ?_
  repeat' (first | refine wC ?_ | refine wK ?_ | ((with_reducible refine zg ?_); refine wL hR ?_) | fail)
  all_goals first | decide | rfl | exact zo (zf rfl rfl (congrArg (T.int .i64) (by decide))) (by simp)
theorem zhe (x : Int) (c r : ByteArray) (hx : zin x = c) (hl : (ldS (kl x)).toNat = 1) (hr : r.size = 32) : wZ x r = c ++ (yZ (⟨#[0]⟩ ++ r)).1.extract 1 44 := by
  have hz : ((⟨#[0]⟩ : ByteArray) ++ r).size = 33 := by rw [ByteArray.size_append, hr]; rfl
  have h2 := (zb7 ((⟨#[0]⟩ : ByteArray) ++ r) (by omega) (by omega)).2
  rw [hz] at h2
  unfold wZ
  rw [hx, hl, show zci 1 = ⟨#[0]⟩ from rfl, h2]
set_option maxHeartbeats 4000000 in
theorem zaS (r : ByteArray) (hr : r.size = 32) : Spec Tryz.prog 88 [.t (.agg [.int .i64 1, .str r])] [] (.tup [.t (.str (wZ 1 r)), .t (.int .i64 0)]) [] := by
  have hR := jP
  have hL := zdu
  have hC := js
  have hz : ((⟨#[0]⟩ : ByteArray) ++ r).size = 33 := by rw [ByteArray.size_append, hr]; rfl
  have hE := zba ((⟨#[0]⟩ : ByteArray) ++ r) hz
  have h2 := (zb7 ((⟨#[0]⟩ : ByteArray) ++ r) (by omega) (by omega)).2
  rw [hz] at h2
  rw [zhe 1 ⟨#[69]⟩ r (by decide) (by decide) hr]
  generalize (yZ ((⟨#[0]⟩ : ByteArray) ++ r)).1 = Y at *
  have e44 : Y.size = 44 := h2
  rw [show Y.extract 1 44 = Y.extract 1 Y.size from by rw [e44]]
  refine wI Tryz.func88 ?_
  have hEx : ∀ a b, (Y.extract a b).size ≤ 44 := fun a b => by rw [ByteArray.size_extract]; omega
  repeat' (first | refine wC ?_ | (exfalso; omega) | refine wK ?_ | ((with_reducible refine zF ?_); refine zz rfl rfl rfl rfl rfl rfl ?_ ?_) | ((with_reducible refine yF ?_); first | refine zy rfl rfl rfl ⟨_, rfl⟩ rfl rfl rfl ?_ ?_ ?_ ?_ | refine zy rfl rfl ⟨_, rfl⟩ rfl rfl rfl rfl ?_ ?_ ?_ ?_) | ((with_reducible refine zg ?_); first | refine wL hR ?_ | refine wL hL ?_ | refine wL hC ?_ | refine wL hE ?_) | refine zR rfl ?_ ?_ <;> intro hc)
  all_goals try omega
  all_goals first | decide | (rw [hr]; decide) | (have := hEx (Int.toNat 1) (Y.size : Int).toNat; show 1 + _ ≤ _; omega) | exact zo (yd rfl rfl rfl rfl rfl) (by simp)
set_option maxHeartbeats 2000000 in
theorem zcO (r : ByteArray) (hr : r.size = 32) : Spec Tryz.prog 66 [.t (.int .i64 1), .t (.str r)] [] (.t (.str (wZ 1 r))) [] := by
  have hE := zaS r hr
  generalize wZ 1 r = Y at *
  refine wI Tryz.func66 ?_
  repeat' (first | refine wC ?_ | refine wK ?_ | ((with_reducible refine zg ?_); refine wL hE ?_) | fail)
  exact zo (zf rfl rfl rfl) (by simp)
set_option maxHeartbeats 4000000 in
theorem zas (r : ByteArray) (hr : r.size = 32) : Spec Tryz.prog 88 [.t (.agg [.int .i64 2, .str r])] [] (.tup [.t (.str (wZ 2 r)), .t (.int .i64 0)]) [] := by
  have hR := jg
  have hL := qA
  have hC := vQ
  have hz : ((⟨#[0]⟩ : ByteArray) ++ r).size = 33 := by rw [ByteArray.size_append, hr]; rfl
  have hE := zba ((⟨#[0]⟩ : ByteArray) ++ r) hz
  have h2 := (zb7 ((⟨#[0]⟩ : ByteArray) ++ r) (by omega) (by omega)).2
  rw [hz] at h2
  rw [zhe 2 ⟨#[68]⟩ r (by decide) (by decide) hr]
  generalize (yZ ((⟨#[0]⟩ : ByteArray) ++ r)).1 = Y at *
  have e44 : Y.size = 44 := h2
  rw [show Y.extract 1 44 = Y.extract 1 Y.size from by rw [e44]]
  refine wI Tryz.func88 ?_
  have hEx : ∀ a b, (Y.extract a b).size ≤ 44 := fun a b => by rw [ByteArray.size_extract]; omega
  repeat' (first | refine wC ?_ | (exfalso; omega) | refine wK ?_ | ((with_reducible refine zF ?_); refine zz rfl rfl rfl rfl rfl rfl ?_ ?_) | ((with_reducible refine yF ?_); first | refine zy rfl rfl rfl ⟨_, rfl⟩ rfl rfl rfl ?_ ?_ ?_ ?_ | refine zy rfl rfl ⟨_, rfl⟩ rfl rfl rfl rfl ?_ ?_ ?_ ?_) | ((with_reducible refine zg ?_); first | refine wL hR ?_ | refine wL hL ?_ | refine wL hC ?_ | refine wL hE ?_) | refine zR rfl ?_ ?_ <;> intro hc)
  all_goals try omega
  all_goals first | decide | (rw [hr]; decide) | (have := hEx (Int.toNat 1) (Y.size : Int).toNat; show 1 + _ ≤ _; omega) | exact zo (yd rfl rfl rfl rfl rfl) (by simp)
set_option maxHeartbeats 2000000 in
theorem zds (r : ByteArray) (hr : r.size = 32) : Spec Tryz.prog 66 [.t (.int .i64 2), .t (.str r)] [] (.t (.str (wZ 2 r))) [] := by
  have hE := zas r hr
  generalize wZ 2 r = Y at *
  refine wI Tryz.func66 ?_
  repeat' (first | refine wC ?_ | refine wK ?_ | ((with_reducible refine zg ?_); refine wL hE ?_) | fail)
  exact zo (zf rfl rfl rfl) (by simp)
set_option maxHeartbeats 2000000 in
theorem zbW (s : ByteArray) (hs : s.size ≤ 900000) : Spec Tryz.prog 46 [.t (.str s)] [] (.t (.str (dgS s))) [] := by
  have hP := xv s (by omega)
  have hM := zcO (sha s) (xc s)
  unfold dgS
  generalize wZ 1 (sha s) = Z at *
  generalize sha s = Y at *
  refine wI Tryz.func46 ?_
  repeat' (first | refine wC ?_ | refine wK ?_ | ((with_reducible refine zg ?_); first | refine wL hP ?_ | refine wL hM ?_) | fail)
  exact zo (zf rfl rfl rfl) (by simp)
set_option maxHeartbeats 2000000 in
theorem ka (s : ByteArray) (u : Int) (hs : s.size ≤ 900000) : Spec Tryz.prog 62 [.t (.str s), .t (.int .i64 u)] [] (.t (.str (wF s u))) [] := by
  have hz := vx u
  have hS := xv (s ++ byS u) (by rw [ByteArray.size_append, hz]; omega)
  rw [← zhi] at hS
  unfold wF
  rw [← zhi]
  generalize sha (s ++ vE [T.int .u8 (IntKind.u8.wrap u)]) = Y at *
  unfold byS at hz
  refine wI Tryz.func62 ?_
  repeat' (first | refine wC ?_ | refine wK ?_ | ((with_reducible refine zF ?_); refine zz rfl rfl rfl rfl rfl rfl ?_ ?_) | ((with_reducible refine zN ?_); refine zw rfl rfl rfl rfl rfl rfl ?_ ?_) | ((with_reducible refine zg ?_); refine wL hS ?_) | fail)
  all_goals try exact vC _
  all_goals try omega
  exact zo (zf rfl rfl rfl) (by simp)
set_option maxHeartbeats 2000000 in
theorem zeS (s : ByteArray) (u : Nat) (hs : s.size ≤ 900000) : Spec Tryz.prog 85 [.t (.str s), .t (.int .i64 (u : Int))] [] (.t (.str (ktL s 0 u))) [] := by
  have hS := ka s (u : Int) hs
  have hz := vU s (u : Int)
  have hP := zbX (wF s (u : Int)) (by omega)
  have hz2 : (jF (wF s (u : Int))).size = 16 := yW _
  have hT := yX (⟨#[0]⟩ ++ jF (wF s (u : Int))) (by rw [ByteArray.size_append, hz2]; decide)
  rw [show ktL s 0 u = yB (⟨#[0]⟩ ++ jF (wF s (u : Int))) from by rw [ktL]; rfl]
  generalize yB (⟨#[0]⟩ ++ jF (wF s (u : Int))) = Y at *
  generalize jF (wF s (u : Int)) = Z at *
  generalize wF s (u : Int) = X at *
  refine wI Tryz.func85 ?_
  have z0 : (⟨#[0]⟩ : ByteArray).size = 1 := rfl
  repeat' (first | refine wC ?_ | refine wK ?_ | ((with_reducible refine zF ?_); refine zz rfl rfl rfl rfl rfl rfl ?_ ?_) | ((with_reducible refine zg ?_); first | refine wL hS ?_ | refine wL hP ?_ | refine wL hT ?_) | fail)
  all_goals try omega
  exact zo (zf rfl rfl rfl) (by simp)
set_option maxHeartbeats 16000000 in
theorem kM (s : ByteArray) (hs : s.size ≤ 900000) : Spec Tryz.prog 63 [.t (.str s)] [] (.t (.sl 1 [.sl 1 ((zu s 0 8).map .str), .sl 1 ((zu s 1 4).map .str), .sl 1 ((zu s 2 2).map .str), .sl 1 ((zu s 3 1).map .str)])) [] := by
  have l0 := zE s 0 8
  have l1 := zE s 1 4
  have l2 := zE s 2 2
  have l3 := zE s 3 1
  refine wIG Tryz.func63 ?_
  repeat' (first | refine wC ?_ | refine wK ?_ | fail)
  refine zb (z8 3 (.loc 900) 9 1 rfl rfl rfl) ?_
  refine zb (za [0, 3, 8] [.loc 900] rfl rfl) ?_
  refine ze (fun q env st => ∃ (j : Nat), j ≤ 8 ∧ q = 8 - j ∧ env = EnvL.get [(0, .t (.str s)), (3, .row (.loc 900)), (8, .t (.int .i64 (j : Int)))] ∧ st = StO.get [(.loc 900, some (.slt 9 1 ((zu s 0 j).map .str)))])
    ?_ (n := 8) ⟨0, by omega, rfl, rfl, rfl⟩
  rintro q env st ⟨j, hj, rfl, rfl, rfl⟩
  have wj : IntKind.i64.wrap ((j : Int) + 1) = ((j + 1 : Nat) : Int) := by rw [zj (by omega) (by omega)]; omega
  by_cases hlt : j < 8
  · have hL := zeS s j hs
    have hsuc := y9 s 0 j
    have hln := zE s 0 j
    generalize ktL s 0 j = Y at *
    repeat' (first | refine wC ?_ | (exfalso; omega) | refine wK ?_ | ((with_reducible refine zD ?_); refine zn rfl rfl rfl rfl rfl rfl rfl rfl rfl rfl ?_ ?_ ?_) | ((with_reducible refine zg ?_); refine wL hL ?_) | refine zi rfl ?_ ?_ <;> intro hc)
    all_goals try (simp only [List.length_map, List.length_cons, List.length_nil]; omega)
    all_goals try omega
    all_goals exact zr (n' := 8 - (j + 1)) (by omega) ((za [0, 3, 8] [.loc 16] rfl rfl).trans (zk (.loc 16) (.loc 900) rfl rfl rfl rfl)) ⟨j + 1, by omega, rfl, by rw [wj]; rfl, by rw [hsuc, List.map_append, List.map_singleton]; rfl⟩
  · obtain rfl : j = 8 := by omega
    refine zb (zh (id := .loc 900) rfl rfl rfl) ?_
    repeat' (first | refine wC ?_ | refine wK ?_ | fail)
    refine zb ((za [0, 3, 5] [.loc 19] rfl rfl).trans (zk (.loc 19) (.loc 902) rfl rfl rfl rfl)) ?_
    refine ze (fun q env st => (q = 3 ∧ env = EnvL.get [(0, .t (.str s)), (3, .t (.sl 1 ((zu s 0 8).map .str))), (5, .row (.loc 902))] ∧ st = StO.get [(.loc 902, some (.slt 32 1 [.sl 1 ((zu s 0 8).map .str)]))]) ∨ (q = 2 ∧ env = EnvL.get [(0, .t (.str s)), (3, .t (.sl 1 ((zu s 1 4).map .str))), (5, .row (.loc 902))] ∧ st = StO.get [(.loc 902, some (.slt 32 1 [.sl 1 ((zu s 0 8).map .str), .sl 1 ((zu s 1 4).map .str)]))]) ∨ (q = 1 ∧ env = EnvL.get [(0, .t (.str s)), (3, .t (.sl 1 ((zu s 2 2).map .str))), (5, .row (.loc 902))] ∧ st = StO.get [(.loc 902, some (.slt 32 1 [.sl 1 ((zu s 0 8).map .str), .sl 1 ((zu s 1 4).map .str), .sl 1 ((zu s 2 2).map .str)]))]) ∨ (q = 0 ∧ env = EnvL.get [(0, .t (.str s)), (3, .t (.sl 1 ((zu s 3 1).map .str))), (5, .row (.loc 902))] ∧ st = StO.get [(.loc 902, some (.slt 32 1 [.sl 1 ((zu s 0 8).map .str), .sl 1 ((zu s 1 4).map .str), .sl 1 ((zu s 2 2).map .str), .sl 1 ((zu s 3 1).map .str)]))]))
      ?_ (n := 3) (.inl ⟨rfl, rfl, rfl⟩)
    rintro q env st (⟨rfl, rfl, rfl⟩ | ⟨rfl, rfl, rfl⟩ | ⟨rfl, rfl, rfl⟩ | ⟨rfl, rfl, rfl⟩)
    · repeat' (first | refine wC ?_ | refine wK ?_ | fail)
      refine zb (z8 6 (.loc 901) 9 1 rfl rfl rfl) ?_
      refine zb (za [0, 3, 5, 6, 7] [.loc 902, .loc 901] rfl rfl) ?_
      refine ze (fun q env st => ∃ (m : Nat), m ≤ 4 ∧ q = 4 - m ∧ env = EnvL.get [(0, .t (.str s)), (3, .t (.sl 1 ((zu s 0 8).map .str))), (5, .row (.loc 902)), (6, .row (.loc 901)), (7, .t (.int .i64 ((2 * m : Nat) : Int)))] ∧ st = StO.get [(.loc 902, some (.slt 32 1 [.sl 1 ((zu s 0 8).map .str)])), (.loc 901, some (.slt 9 1 ((zu s 1 m).map .str)))])
        ?_ (n := 4) ⟨0, by omega, rfl, rfl, rfl⟩
      rintro q env st ⟨m, hm, rfl, rfl, rfl⟩
      have wm : IntKind.i64.wrap (((2 * m : Nat) : Int) + 2) = ((2 * (m + 1) : Nat) : Int) := by rw [zj (by omega) (by omega)]; omega
      have wm1 : IntKind.i64.wrap (((2 * m : Nat) : Int) + 1) = ((2 * m + 1 : Nat) : Int) := by rw [zj (by omega) (by omega)]; omega
      by_cases hlm : m < 4
      · have hI := yR (ktL s 0 (2 * m)) (ktL s 0 (2 * m + 1)) (by rw [zJ]; omega) (by rw [zJ]; omega)
        have hsuc := y9 s 1 m
        have hln := zE s 1 m
        rw [show ktL s 1 m = zam (ktL s 0 (2 * m)) (ktL s 0 (2 * m + 1)) from rfl] at hsuc
        rw [← xd s 0 8 (i := ((2 * m : Nat) : Int)) rfl (by omega), ← xd s 0 8 wm1 (by omega)] at hI hsuc
        generalize zam ((zu s 0 8).getD ((2 * m : Nat) : Int).toNat default) ((zu s 0 8).getD (IntKind.i64.wrap (((2 * m : Nat) : Int) + 1)).toNat default) = Y at *
        repeat' (first | refine wC ?_ | (exfalso; omega) | refine wK ?_ | ((with_reducible refine zd ?_); refine zc rfl rfl rfl rfl rfl rfl ?_ ?_ ?_) | ((with_reducible refine zD ?_); refine zn rfl rfl rfl rfl rfl rfl rfl rfl rfl rfl ?_ ?_ ?_) | ((with_reducible refine zg ?_); refine wL hI ?_) | refine zi rfl ?_ ?_ <;> intro hc)
        all_goals try (simp only [List.length_map, List.length_cons, List.length_nil]; omega)
        all_goals try omega
        all_goals first | decide | skip
        all_goals exact zr (n' := 4 - (m + 1)) (by omega) ((za [0, 3, 5, 6, 7] [.loc 902, .loc 41] rfl rfl).trans (zk (.loc 41) (.loc 901) rfl rfl rfl rfl)) ⟨m + 1, by omega, rfl, by rw [wm]; rfl, by rw [hsuc, List.map_append, List.map_singleton]; rfl⟩
      · obtain rfl : m = 4 := by omega
        refine zb (zh (id := .loc 901) rfl rfl rfl) ?_
        repeat' (first | refine wC ?_ | refine wK ?_ | ((with_reducible refine zD ?_); refine zn rfl rfl rfl rfl rfl rfl rfl rfl rfl rfl ?_ ?_ ?_))
        all_goals try (simp only [List.length_map, List.length_cons, List.length_nil]; omega)
        all_goals try omega
        all_goals exact zr (n' := 2) (by omega) ((za [0, 3, 5] [.loc 45] rfl rfl).trans (zk (.loc 45) (.loc 902) rfl rfl rfl rfl)) (.inr (.inl ⟨rfl, rfl, rfl⟩))
    · repeat' (first | refine wC ?_ | refine wK ?_ | fail)
      refine zb (z8 6 (.loc 901) 9 1 rfl rfl rfl) ?_
      refine zb (za [0, 3, 5, 6, 7] [.loc 902, .loc 901] rfl rfl) ?_
      refine ze (fun q env st => ∃ (m : Nat), m ≤ 2 ∧ q = 2 - m ∧ env = EnvL.get [(0, .t (.str s)), (3, .t (.sl 1 ((zu s 1 4).map .str))), (5, .row (.loc 902)), (6, .row (.loc 901)), (7, .t (.int .i64 ((2 * m : Nat) : Int)))] ∧ st = StO.get [(.loc 902, some (.slt 32 1 [.sl 1 ((zu s 0 8).map .str), .sl 1 ((zu s 1 4).map .str)])), (.loc 901, some (.slt 9 1 ((zu s 2 m).map .str)))])
        ?_ (n := 2) ⟨0, by omega, rfl, rfl, rfl⟩
      rintro q env st ⟨m, hm, rfl, rfl, rfl⟩
      have wm : IntKind.i64.wrap (((2 * m : Nat) : Int) + 2) = ((2 * (m + 1) : Nat) : Int) := by rw [zj (by omega) (by omega)]; omega
      have wm1 : IntKind.i64.wrap (((2 * m : Nat) : Int) + 1) = ((2 * m + 1 : Nat) : Int) := by rw [zj (by omega) (by omega)]; omega
      by_cases hlm : m < 2
      · have hI := yR (ktL s 1 (2 * m)) (ktL s 1 (2 * m + 1)) (by rw [zJ]; omega) (by rw [zJ]; omega)
        have hsuc := y9 s 2 m
        have hln := zE s 2 m
        rw [show ktL s 2 m = zam (ktL s 1 (2 * m)) (ktL s 1 (2 * m + 1)) from rfl] at hsuc
        rw [← xd s 1 4 (i := ((2 * m : Nat) : Int)) rfl (by omega), ← xd s 1 4 wm1 (by omega)] at hI hsuc
        generalize zam ((zu s 1 4).getD ((2 * m : Nat) : Int).toNat default) ((zu s 1 4).getD (IntKind.i64.wrap (((2 * m : Nat) : Int) + 1)).toNat default) = Y at *
        repeat' (first | refine wC ?_ | (exfalso; omega) | refine wK ?_ | ((with_reducible refine zd ?_); refine zc rfl rfl rfl rfl rfl rfl ?_ ?_ ?_) | ((with_reducible refine zD ?_); refine zn rfl rfl rfl rfl rfl rfl rfl rfl rfl rfl ?_ ?_ ?_) | ((with_reducible refine zg ?_); refine wL hI ?_) | refine zi rfl ?_ ?_ <;> intro hc)
        all_goals try (simp only [List.length_map, List.length_cons, List.length_nil]; omega)
        all_goals try omega
        all_goals first | decide | skip
        all_goals exact zr (n' := 2 - (m + 1)) (by omega) ((za [0, 3, 5, 6, 7] [.loc 902, .loc 41] rfl rfl).trans (zk (.loc 41) (.loc 901) rfl rfl rfl rfl)) ⟨m + 1, by omega, rfl, by rw [wm]; rfl, by rw [hsuc, List.map_append, List.map_singleton]; rfl⟩
      · obtain rfl : m = 2 := by omega
        refine zb (zh (id := .loc 901) rfl rfl rfl) ?_
        repeat' (first | refine wC ?_ | refine wK ?_ | ((with_reducible refine zD ?_); refine zn rfl rfl rfl rfl rfl rfl rfl rfl rfl rfl ?_ ?_ ?_))
        all_goals try (simp only [List.length_map, List.length_cons, List.length_nil]; omega)
        all_goals try omega
        all_goals exact zr (n' := 1) (by omega) ((za [0, 3, 5] [.loc 45] rfl rfl).trans (zk (.loc 45) (.loc 902) rfl rfl rfl rfl)) (.inr (.inr (.inl ⟨rfl, rfl, rfl⟩)))
    · repeat' (first | refine wC ?_ | refine wK ?_ | fail)
      refine zb (z8 6 (.loc 901) 9 1 rfl rfl rfl) ?_
      refine zb (za [0, 3, 5, 6, 7] [.loc 902, .loc 901] rfl rfl) ?_
      refine ze (fun q env st => ∃ (m : Nat), m ≤ 1 ∧ q = 1 - m ∧ env = EnvL.get [(0, .t (.str s)), (3, .t (.sl 1 ((zu s 2 2).map .str))), (5, .row (.loc 902)), (6, .row (.loc 901)), (7, .t (.int .i64 ((2 * m : Nat) : Int)))] ∧ st = StO.get [(.loc 902, some (.slt 32 1 [.sl 1 ((zu s 0 8).map .str), .sl 1 ((zu s 1 4).map .str), .sl 1 ((zu s 2 2).map .str)])), (.loc 901, some (.slt 9 1 ((zu s 3 m).map .str)))])
        ?_ (n := 1) ⟨0, by omega, rfl, rfl, rfl⟩
      rintro q env st ⟨m, hm, rfl, rfl, rfl⟩
      have wm : IntKind.i64.wrap (((2 * m : Nat) : Int) + 2) = ((2 * (m + 1) : Nat) : Int) := by rw [zj (by omega) (by omega)]; omega
      have wm1 : IntKind.i64.wrap (((2 * m : Nat) : Int) + 1) = ((2 * m + 1 : Nat) : Int) := by rw [zj (by omega) (by omega)]; omega
      by_cases hlm : m < 1
      · have hI := yR (ktL s 2 (2 * m)) (ktL s 2 (2 * m + 1)) (by rw [zJ]; omega) (by rw [zJ]; omega)
        have hsuc := y9 s 3 m
        have hln := zE s 3 m
        rw [show ktL s 3 m = zam (ktL s 2 (2 * m)) (ktL s 2 (2 * m + 1)) from rfl] at hsuc
        rw [← xd s 2 2 (i := ((2 * m : Nat) : Int)) rfl (by omega), ← xd s 2 2 wm1 (by omega)] at hI hsuc
        generalize zam ((zu s 2 2).getD ((2 * m : Nat) : Int).toNat default) ((zu s 2 2).getD (IntKind.i64.wrap (((2 * m : Nat) : Int) + 1)).toNat default) = Y at *
        repeat' (first | refine wC ?_ | (exfalso; omega) | refine wK ?_ | ((with_reducible refine zd ?_); refine zc rfl rfl rfl rfl rfl rfl ?_ ?_ ?_) | ((with_reducible refine zD ?_); refine zn rfl rfl rfl rfl rfl rfl rfl rfl rfl rfl ?_ ?_ ?_) | ((with_reducible refine zg ?_); refine wL hI ?_) | refine zi rfl ?_ ?_ <;> intro hc)
        all_goals try (simp only [List.length_map, List.length_cons, List.length_nil]; omega)
        all_goals try omega
        all_goals first | decide | skip
        all_goals exact zr (n' := 1 - (m + 1)) (by omega) ((za [0, 3, 5, 6, 7] [.loc 902, .loc 41] rfl rfl).trans (zk (.loc 41) (.loc 901) rfl rfl rfl rfl)) ⟨m + 1, by omega, rfl, by rw [wm]; rfl, by rw [hsuc, List.map_append, List.map_singleton]; rfl⟩
      · obtain rfl : m = 1 := by omega
        refine zb (zh (id := .loc 901) rfl rfl rfl) ?_
        repeat' (first | refine wC ?_ | refine wK ?_ | ((with_reducible refine zD ?_); refine zn rfl rfl rfl rfl rfl rfl rfl rfl rfl rfl ?_ ?_ ?_))
        all_goals try (simp only [List.length_map, List.length_cons, List.length_nil]; omega)
        all_goals try omega
        all_goals exact zr (n' := 0) (by omega) ((za [0, 3, 5] [.loc 45] rfl rfl).trans (zk (.loc 45) (.loc 902) rfl rfl rfl rfl)) (.inr (.inr (.inr ⟨rfl, rfl, rfl⟩)))
    · repeat' (first | refine wC ?_ | refine wK ?_ | fail)
      refine zx (zh (id := .loc 902) rfl rfl rfl) ?_
      exact zQ (zo (yl rfl (AVLE.refl _)) (by simp))
set_option maxHeartbeats 4000000 in
theorem zbb (s : ByteArray) (hs : s.size ≤ 900000) : Spec Tryz.prog 67 [.t (.str s)] [] (.t (.str (ktP s))) [] := by
  have hT := kM s hs
  have hR := zdL s 3 1 (i := 0) (by decide)
  have hl := zE s 3 1
  have hz := zJ s 3 0
  have hS := xv (⟨#[2]⟩ ++ ktL s 3 0) (by rw [ByteArray.size_append, hz]; decide)
  rw [show ktP s = sha (⟨#[2]⟩ ++ ktL s 3 0) from rfl]
  rw [← hR] at hS hz ⊢
  have z0 : (⟨#[2]⟩ : ByteArray).size = 1 := rfl
  have hz2 : ((zu s 3 1).getD (0 : Int).toNat default).size = 16 := hz
  generalize zu s 3 1 = R3 at *
  generalize zu s 0 8 = R0 at *
  generalize zu s 1 4 = R1 at *
  generalize zu s 2 2 = R2 at *
  generalize sha (⟨#[2]⟩ ++ R3.getD 0 default) = Y at *
  refine wI Tryz.func67 ?_
  repeat' (first | refine wC ?_ | refine wK ?_ | ((with_reducible refine zF ?_); refine zz rfl rfl rfl rfl rfl rfl ?_ ?_) | ((with_reducible refine zd ?_); first | refine zc rfl rfl rfl rfl rfl rfl ?_ ?_ ?_ | refine yj rfl rfl rfl rfl rfl rfl ?_ ?_ ?_) | ((with_reducible refine zg ?_); first | refine wL hT ?_ | refine wL hS ?_) | fail)
  all_goals try omega
  all_goals try (simp only [List.length_cons, List.length_nil]; decide)
  all_goals try decide
  exact zo (zf rfl rfl rfl) (by simp)
set_option maxHeartbeats 2000000 in
theorem zbM (s : ByteArray) (hs : s.size ≤ 900000) : Spec Tryz.prog 45 [.t (.str s)] [] (.t (.str (wZ 2 (ktP s)))) [] := by
  have hP := zbb s hs
  have hM := zds (ktP s) (ky s)
  generalize wZ 2 (ktP s) = Z at *
  generalize ktP s = Y at *
  refine wI Tryz.func45 ?_
  repeat' (first | refine wC ?_ | refine wK ?_ | ((with_reducible refine zg ?_); first | refine wL hP ?_ | refine wL hM ?_) | fail)
  exact zo (zf rfl rfl rfl) (by simp)
set_option maxHeartbeats 1000000 in
theorem xK (s : ByteArray) (g i : Int) (hs : s.size ≤ 900000) : Spec Tryz.prog 7 [.t (.str s), .t (.int .i64 g), .t (.int .i64 i)] [] (.t (.str (sdS s g i))) [] := by
  have h1 := vn g
  have h2 := vn i
  have hL := zeE [s, xz g, xz i] 900000 (by
    intro x hx
    rcases List.mem_cons.1 hx with rfl | hx
    · exact hs
    rcases List.mem_cons.1 hx with rfl | hx
    · rw [yJ]; decide
    rcases List.mem_cons.1 hx with rfl | hx
    · rw [yJ]; decide
    · cases hx) (by simp) (by simp)
  rw [show sha (qK [s, xz g, xz i]) = sdS s g i from rfl] at hL
  generalize sdS s g i = Y at *
  generalize xz g = A at *
  generalize xz i = B at *
  refine wI Tryz.func7 ?_
  repeat' (first | refine wC ?_ | refine zW (es := [s, A, B].map T.str) rfl rfl rfl rfl rfl rfl ?_ | refine wK ?_ | ((with_reducible refine zg ?_); first | refine wL h1 ?_ | refine wL h2 ?_ | refine wL hL ?_) | fail)
  exact zo (zf rfl rfl rfl) (by simp)
def zV : T := .agg [.str ⟨#[]⟩, .int .i64 0, .int .i64 0, .int .i64 0, .nilsl]
def nwB (s : ByteArray) (c n : Int) : Bool := decide (s.size = 32 ∧ 1 ≤ c ∧ c ≤ 8 ∧ 0 ≤ n ∧ n ≤ 8)
def nwT (s : ByteArray) (c n : Int) : T := if nwB s c n then vaT s 0 c n (List.replicate c.toNat 0) else zV
def nwE (s : ByteArray) (c n : Int) : Int := if s.size = 32 then (if nwB s c n then 0 else 2) else 8
set_option maxHeartbeats 2000000 in
theorem zeY (s : ByteArray) (c n : Int) : Spec Tryz.prog 10 [.t (.str s), .t (.int .i64 c), .t (.int .i64 n)] [] (.tup [.t (nwT s c n), .t (.int .i64 (nwE s c n))]) [] := by
  by_cases hb : nwB s c n = true
  · have h := of_decide_eq_true hb
    obtain ⟨h0, h1, h2, h3, h4⟩ := h
    unfold nwT nwE
    rw [if_pos hb, if_pos hb, if_pos h0]
    exact zbj s c n h0 h1 h2 h3 h4
  · have hk1 := y5 c 1
    have hk2 := y5 n 0
    unfold nwT nwE
    rw [if_neg hb, if_neg hb]
    have hb' : ¬ (s.size = 32 ∧ 1 ≤ c ∧ c ≤ 8 ∧ 0 ≤ n ∧ n ≤ 8) := fun h => hb (decide_eq_true h)
    clear hb
    unfold zV
    by_cases h0 : s.size = 32
    · rw [if_pos h0]
      have hcn : ((decide (1 ≤ c) && decide (c ≤ 8)) && (decide (0 ≤ n) && decide (n ≤ 8))) = false := by
        by_cases a : 1 ≤ c <;> by_cases b : c ≤ 8 <;> by_cases d : 0 ≤ n <;> by_cases e : n ≤ 8 <;> simp [a, b, d, e]
        exact hb' ⟨h0, a, b, d, e⟩
      generalize (decide (1 ≤ c) && decide (c ≤ 8)) = B1 at *
      generalize (decide (0 ≤ n) && decide (n ≤ 8)) = B2 at *
      cases B1
      · refine wI Tryz.func10 ?_
        repeat' (first | refine wC ?_ | (exfalso; omega) | refine wK ?_ | ((with_reducible refine zg ?_); refine wL hk1 ?_) | refine zR rfl ?_ ?_ <;> intro hc)
        all_goals (exact wE)
      · cases B2
        · refine wI Tryz.func10 ?_
          repeat' (first | refine wC ?_ | (exfalso; omega) | refine wK ?_ | ((with_reducible refine zg ?_); first | refine wL hk1 ?_ | refine wL hk2 ?_) | refine zR rfl ?_ ?_ <;> intro hc)
          all_goals (exact wE)
        · simp at hcn
    · rw [if_neg h0]
      refine wI Tryz.func10 ?_
      repeat' (first | refine wC ?_ | (exfalso; omega) | refine wK ?_ | refine zR rfl ?_ ?_ <;> intro hc)
      all_goals (exact wE)
set_option maxHeartbeats 4000000 in
theorem zeA (s : ByteArray) (c n : Int) : Spec Tryz.prog 11 [.t (.str s), .t (.int .i64 c), .t (.int .i64 n)] [] (.tup [.t (nwT s c n), .t (.int .i64 (nwE s c n))]) [] := by
  by_cases hb : nwB s c n = true
  · have h := of_decide_eq_true hb
    obtain ⟨h0, h1, h2, h3, h4⟩ := h
    unfold nwT nwE
    rw [if_pos hb, if_pos hb, if_pos h0]
    clear hb
    rw [show vaT s 0 c n (List.replicate c.toNat 0) = .agg [.str s, .int .i64 0, .int .i64 c, .int .i64 n, .sl 1 (List.replicate c.toNat (T.int .i64 0))] from by unfold vaT; rw [List.map_replicate]]
    refine wIG Tryz.func11 ?_
    repeat' (first | refine wC ?_ | (exfalso; omega) | refine vw (r := .agg [.t (.str s), .t (.int .i64 0), .t (.int .i64 c), .t (.int .i64 n), .row (.loc 33)]) rfl rfl rfl rfl rfl rfl rfl ?_ | refine wK ?_ | ((with_reducible refine yG ?_); refine yo (zT := .int _ _) rfl rfl rfl rfl rfl rfl rfl rfl rfl ?_ ?_ ?_ ?_ ?_) | refine zi rfl ?_ ?_ <;> intro hc | refine zR rfl ?_ ?_ <;> intro hc | refine yi rfl ?_ ?_ <;> intro hc)
    · omega
    · omega
    · omega
    · omega
    refine zx (zh (id := .loc 33) rfl rfl rfl) ?_
    refine zQ (zo ?_ (by simp)); refine zL rfl rfl rfl inferInstance rfl inferInstance rfl ?_ ?_; exact TLe.av wT; exact AVLE.refl _
  · unfold nwT nwE
    rw [if_neg hb, if_neg hb]
    have hb' : ¬ (s.size = 32 ∧ 1 ≤ c ∧ c ≤ 8 ∧ 0 ≤ n ∧ n ≤ 8) := fun h => hb (decide_eq_true h)
    clear hb
    unfold zV
    by_cases h0 : s.size = 32
    · rw [if_pos h0]
      refine wI Tryz.func11 ?_
      repeat' (first | refine wC ?_ | (exfalso; omega) | refine wK ?_ | refine zi rfl ?_ ?_ <;> intro hc | refine zR rfl ?_ ?_ <;> intro hc | refine yi rfl ?_ ?_ <;> intro hc)
      all_goals (exact wE)
    · rw [if_neg h0]
      refine wI Tryz.func11 ?_
      repeat' (first | refine wC ?_ | (exfalso; omega) | refine wK ?_ | refine zR rfl ?_ ?_ <;> intro hc)
      all_goals (exact wE)
set_option maxHeartbeats 4000000 in
theorem xW (s : ByteArray) (p c n : Int) (l : List Int) (hl : l.length ≤ 1000000) : Spec Tryz.prog 17 [.t (vaT s p c n l)] [] (.t (.bool (qq s p c n l))) [] := by
  unfold vaT
  refine wI Tryz.func17 ?_
  repeat' (first | refine wC ?_ | refine wK ?_ | fail)
  refine zb (za [1, 6, 7, 8] [.loc 1] rfl rfl) ?_
  refine ze (fun q env st => ∃ (j : Nat), j ≤ l.length ∧ q = l.length - j ∧ (∀ i, i < j → za9 (l.getD i default) = false) ∧ env = EnvL.get [(1, .ref (.loc 1) 0 0 0), (6, .t (.sl 1 (l.map (T.int .i64)))), (7, .t (.int .i64 (l.length : Int))), (8, .t (.int .i64 (j : Int)))] ∧ st = StO.get [(.loc 1, some (.var 24 [.t (.str s), .t (.int .i64 p), .t (.int .i64 c), .t (.int .i64 n), .t (.sl 1 (l.map (T.int .i64)))]))])
    ?_ (n := l.length) ⟨0, by omega, rfl, fun i hi => by omega, rfl, rfl⟩
  rintro q env st ⟨j, hj, rfl, ho, rfl, rfl⟩
  have wj : IntKind.i64.wrap ((j : Int) + 1) = ((j + 1 : Nat) : Int) := by rw [zj (by omega) (by omega)]; omega
  by_cases hlt : j < l.length
  · have hm : l.getD j default ∈ l := by
      rw [List.getD_eq_getElem?_getD, List.getElem?_eq_getElem hlt]; exact List.getElem_mem hlt
    have ha : l.any za9 = true → qq s p c n l = false := fun h => by unfold qq; rw [h]; simp
    have hodd : za9 (l.getD j default) = true → qq s p c n l = false := fun h => ha (List.any_eq_true.2 ⟨_, hm, h⟩)
    have hnext : za9 (l.getD j default) = false → ∀ i, i < j + 1 → za9 (l.getD i default) = false := fun h i hi => by
      by_cases e : i = j
      · subst e; exact h
      · exact ho i (by omega)
    have eX : l.getD j default = l.getD (j : Int).toNat default := by rw [Int.toNat_natCast]
    rw [eX] at hodd hnext
    clear ho ha hm eX
    repeat' (first | refine wC ?_ | (exfalso; omega) | refine wK ?_ | ((with_reducible refine zd ?_); refine zc rfl rfl rfl rfl rfl rfl ?_ ?_ ?_) | refine zi rfl ?_ ?_ <;> intro hc | refine yi rfl ?_ ?_ <;> intro hc)
    all_goals try omega
    · exact zo (zf rfl rfl (congrArg T.bool (hodd (by generalize l.getD (j : Int).toNat default = X at *; unfold za9; simp [*])).symm)) (by simp)
    · exact zo (zf rfl rfl (congrArg T.bool (hodd (by generalize l.getD (j : Int).toNat default = X at *; unfold za9; simp [*])).symm)) (by simp)
    · exact zr (n' := l.length - (j + 1)) (by omega) (za [1, 6, 7, 8] [.loc 1] rfl rfl) ⟨j + 1, by omega, rfl, hnext (by generalize l.getD (j : Int).toNat default = X at *; unfold za9; simp [*]; try omega), by rw [wj]; rfl, rfl⟩
  · obtain rfl : j = l.length := by omega
    have hA : l.any za9 = false := by
      rw [Bool.eq_false_iff]
      intro h
      obtain ⟨x, hx, hy⟩ := List.any_eq_true.1 h
      obtain ⟨i, hi, rfl⟩ := List.getElem_of_mem hx
      have := ho i hi
      rw [List.getD_eq_getElem?_getD, List.getElem?_eq_getElem hi] at this
      rw [show (some l[i]).getD default = l[i] from rfl, hy] at this
      cases this
    obtain ⟨R, hR⟩ : ∃ R, R = qq s p c n l := ⟨_, rfl⟩
    rw [← hR]
    unfold qq at hR
    rw [hA] at hR
    clear ho hA
    repeat' (first | refine wC ?_ | (exfalso; omega) | refine wK ?_ | refine zi rfl ?_ ?_ <;> intro hc | refine yi rfl ?_ ?_ <;> intro hc)
    all_goals exact zo (zf rfl rfl (congrArg T.bool (by rw [hR]; simp [*]))) (by simp)
set_option maxHeartbeats 4000000 in
theorem vN (s : ByteArray) (p c n : Int) (l : List Int) (hl : l.length ≤ 1000000) : Spec Tryz.prog 12 [.t (vaT s p c n l), .t (vaT s p c n l)] [] (.t (.bool true)) [] := by
  unfold vaT
  refine wI Tryz.func12 ?_
  repeat' (first | refine wC ?_ | (exfalso; omega) | exact absurd (rfl : s = s) ‹_› | refine wK ?_ | refine zR rfl ?_ ?_ <;> intro hc | refine kR rfl ?_ ?_ <;> intro hc)
  refine zb (za [2, 3, 43, 44, 45] [.loc 2, .loc 3] rfl rfl) ?_
  refine ze (fun q env st => ∃ (j : Nat), j ≤ l.length ∧ q = l.length - j ∧ env = EnvL.get [(2, .ref (.loc 2) 0 0 0), (3, .ref (.loc 3) 0 0 0), (43, .t (.sl 1 (l.map (T.int .i64)))), (44, .t (.int .i64 (l.length : Int))), (45, .t (.int .i64 (j : Int)))] ∧ st = StO.get [(.loc 2, some (.var 24 [.t (.str s), .t (.int .i64 p), .t (.int .i64 c), .t (.int .i64 n), .t (.sl 1 (l.map (T.int .i64)))])), (.loc 3, some (.var 24 [.t (.str s), .t (.int .i64 p), .t (.int .i64 c), .t (.int .i64 n), .t (.sl 1 (l.map (T.int .i64)))]))])
    ?_ (n := l.length) ⟨0, by omega, rfl, rfl, rfl⟩
  rintro q env st ⟨j, hj, rfl, rfl, rfl⟩
  have wj : IntKind.i64.wrap ((j : Int) + 1) = ((j + 1 : Nat) : Int) := by rw [zj (by omega) (by omega)]; omega
  by_cases hlt : j < l.length
  · repeat' (first | refine wC ?_ | (exfalso; omega) | refine wK ?_ | ((with_reducible refine zd ?_); refine zc rfl rfl rfl rfl rfl rfl ?_ ?_ ?_) | refine zi rfl ?_ ?_ <;> intro hc | refine zR rfl ?_ ?_ <;> intro hc)
    all_goals try omega
    all_goals exact zr (n' := l.length - (j + 1)) (by omega) (za [2, 3, 43, 44, 45] [.loc 2, .loc 3] rfl rfl) ⟨j + 1, by omega, rfl, by rw [wj]; rfl, rfl⟩
  · obtain rfl : j = l.length := by omega
    repeat' (first | refine wC ?_ | (exfalso; omega) | refine wK ?_ | refine zi rfl ?_ ?_ <;> intro hc)
    all_goals exact zo (zf rfl rfl rfl) (by simp)
set_option maxHeartbeats 4000000 in
theorem zbs : Spec Tryz.prog 12 [.t zV, .t zV] [] (.t (.bool true)) [] := by
  unfold zV
  refine wI Tryz.func12 ?_
  repeat' (first | refine wC ?_ | refine wK ?_ | fail)
  refine zb (za [44, 45] [] rfl rfl) ?_
  refine ze (fun q env st => q = 0 ∧ env = EnvL.get [(44, .t (.int .i64 0)), (45, .t (.int .i64 0))] ∧ st = StO.get [])
    ?_ (n := 0) ⟨rfl, rfl, rfl⟩
  rintro q env st ⟨rfl, rfl, rfl⟩
  repeat' (first | refine wC ?_ | refine wK ?_ | fail)
  all_goals exact zo (zf rfl rfl rfl) (by simp)
def mpL (f : Nat → ByteArray) (j : Nat) : List ByteArray := (List.range j).map f
theorem qu (f : Nat → ByteArray) (j : Nat) : (mpL f j).length = j := by simp [mpL]
theorem zao (f : Nat → ByteArray) (j : Nat) : mpL f (j + 1) = mpL f j ++ [f j] := by simp [mpL, List.range_succ]
set_option maxHeartbeats 4000000 in
theorem zai (s : ByteArray) (p : Int) (n : Int) (l : List Int) (k : Nat) (hs : s.size ≤ 900000) (hk : k ≤ 8) : Spec Tryz.prog 27 [.t (vaT s p (k : Int) n l)] [] (.t (.sl 1 ((mpL (fun i => sdS s p (i : Int)) k).map .str))) [] := by
  unfold vaT
  refine wIG Tryz.func27 ?_
  repeat' (first | refine wC ?_ | refine wK ?_ | fail)
  refine zb (z8 3 (.loc 900) 9 1 rfl rfl rfl) ?_
  refine zb (za [1, 3, 6, 7] [.loc 1, .loc 900] rfl rfl) ?_
  refine ze (fun q env st => ∃ (j : Nat), j ≤ k ∧ q = k - j ∧ env = EnvL.get [(1, .ref (.loc 1) 0 0 0), (3, .row (.loc 900)), (6, .t (.int .i64 (k : Int))), (7, .t (.int .i64 (j : Int)))] ∧ st = StO.get [(.loc 1, some (.var 24 [.t (.str s), .t (.int .i64 p), .t (.int .i64 (k : Int)), .t (.int .i64 n), .t (.sl 1 (l.map (T.int .i64)))])), (.loc 900, some (.slt 9 1 ((mpL (fun i => sdS s p (i : Int)) j).map .str)))])
    ?_ (n := k) ⟨0, by omega, rfl, rfl, rfl⟩
  rintro q env st ⟨j, hj, rfl, rfl, rfl⟩
  have wj : IntKind.i64.wrap ((j : Int) + 1) = ((j + 1 : Nat) : Int) := by rw [zj (by omega) (by omega)]; omega
  by_cases hlt : j < k
  · have hS := xK s p (j : Int) hs
    have hsuc := zao (fun i => sdS s p (i : Int)) j
    have hln := qu (fun i => sdS s p (i : Int)) j
    generalize sdS s (p) (j : Int) = X at *
    repeat' (first | refine wC ?_ | (exfalso; omega) | refine wK ?_ | ((with_reducible refine zD ?_); refine zn rfl rfl rfl rfl rfl rfl rfl rfl rfl rfl ?_ ?_ ?_) | ((with_reducible refine zg ?_); refine wL hS ?_) | refine zi rfl ?_ ?_ <;> intro hc)
    all_goals try (simp only [List.length_map, List.length_cons, List.length_nil]; omega)
    all_goals try omega
    all_goals exact zr (n' := k - (j + 1)) (by omega) ((za [1, 3, 6, 7] [.loc 1, .loc 18] rfl rfl).trans (zk (.loc 18) (.loc 900) rfl rfl rfl rfl)) ⟨j + 1, by omega, rfl, by rw [wj]; rfl, by rw [hsuc, List.map_append, List.map_singleton]; rfl⟩
  · obtain rfl : j = k := by omega
    repeat' (first | refine wC ?_ | (exfalso; omega) | refine wK ?_ | refine zi rfl ?_ ?_ <;> intro hc)
    refine zx (zh (id := .loc 900) rfl rfl rfl) ?_
    exact zQ (zo (yl rfl (AVLE.refl _)) (by simp))
set_option maxHeartbeats 4000000 in
theorem zcB (s : ByteArray) (p : Int) (n : Int) (l : List Int) (k : Nat) (hs : s.size ≤ 900000) (hk : k ≤ 8) : Spec Tryz.prog 25 [.t (vaT s p (k : Int) n l)] [] (.t (.sl 1 ((mpL (kyS s p) k).map .str))) [] := by
  unfold vaT
  refine wIG Tryz.func25 ?_
  repeat' (first | refine wC ?_ | refine wK ?_ | fail)
  refine zb (z8 3 (.loc 900) 9 1 rfl rfl rfl) ?_
  refine zb (za [1, 3, 6, 7] [.loc 1, .loc 900] rfl rfl) ?_
  refine ze (fun q env st => ∃ (j : Nat), j ≤ k ∧ q = k - j ∧ env = EnvL.get [(1, .ref (.loc 1) 0 0 0), (3, .row (.loc 900)), (6, .t (.int .i64 (k : Int))), (7, .t (.int .i64 (j : Int)))] ∧ st = StO.get [(.loc 1, some (.var 24 [.t (.str s), .t (.int .i64 p), .t (.int .i64 (k : Int)), .t (.int .i64 n), .t (.sl 1 (l.map (T.int .i64)))])), (.loc 900, some (.slt 9 1 ((mpL (kyS s p) j).map .str)))])
    ?_ (n := k) ⟨0, by omega, rfl, rfl, rfl⟩
  rintro q env st ⟨j, hj, rfl, rfl, rfl⟩
  have wj : IntKind.i64.wrap ((j : Int) + 1) = ((j + 1 : Nat) : Int) := by rw [zj (by omega) (by omega)]; omega
  by_cases hlt : j < k
  · have hS := xK s p (j : Int) hs
    have hsuc := zao (kyS s p) j
    have hln := qu (kyS s p) j
    have hK := zbM (sdS s (p) (j : Int)) (by rw [wO]; decide)
    rw [show wZ 2 (ktP (sdS s p (j : Int))) = kyS s p j from rfl] at hK
    generalize kyS s p j = Y at *
    generalize sdS s (p) (j : Int) = X at *
    repeat' (first | refine wC ?_ | (exfalso; omega) | refine wK ?_ | ((with_reducible refine zD ?_); refine zn rfl rfl rfl rfl rfl rfl rfl rfl rfl rfl ?_ ?_ ?_) | ((with_reducible refine zg ?_); first | refine wL hS ?_ | refine wL hK ?_) | refine zi rfl ?_ ?_ <;> intro hc)
    all_goals try (simp only [List.length_map, List.length_cons, List.length_nil]; omega)
    all_goals try omega
    all_goals exact zr (n' := k - (j + 1)) (by omega) ((za [1, 3, 6, 7] [.loc 1, .loc 19] rfl rfl).trans (zk (.loc 19) (.loc 900) rfl rfl rfl rfl)) ⟨j + 1, by omega, rfl, by rw [wj]; rfl, by rw [hsuc, List.map_append, List.map_singleton]; rfl⟩
  · obtain rfl : j = k := by omega
    repeat' (first | refine wC ?_ | (exfalso; omega) | refine wK ?_ | refine zi rfl ?_ ?_ <;> intro hc)
    refine zx (zh (id := .loc 900) rfl rfl rfl) ?_
    exact zQ (zo (yl rfl (AVLE.refl _)) (by simp))
set_option maxHeartbeats 4000000 in
theorem zdb (s : ByteArray) (p : Int) (c : Int) (l : List Int) (k : Nat) (hs : s.size ≤ 900000) (hk : k ≤ 8) (hp : 0 ≤ p) (hp1 : p < 65536) : Spec Tryz.prog 26 [.t (vaT s p c (k : Int) l)] [] (.t (.sl 1 ((mpL (nxS s (p + 1)) k).map .str))) [] := by
  unfold vaT
  refine wIG Tryz.func26 ?_
  repeat' (first | refine wC ?_ | refine wK ?_ | fail)
  refine zb (z8 3 (.loc 900) 9 1 rfl rfl rfl) ?_
  refine zb (za [1, 3, 6, 7] [.loc 1, .loc 900] rfl rfl) ?_
  refine ze (fun q env st => ∃ (j : Nat), j ≤ k ∧ q = k - j ∧ env = EnvL.get [(1, .ref (.loc 1) 0 0 0), (3, .row (.loc 900)), (6, .t (.int .i64 (k : Int))), (7, .t (.int .i64 (j : Int)))] ∧ st = StO.get [(.loc 1, some (.var 24 [.t (.str s), .t (.int .i64 p), .t (.int .i64 c), .t (.int .i64 (k : Int)), .t (.sl 1 (l.map (T.int .i64)))])), (.loc 900, some (.slt 9 1 ((mpL (nxS s (p + 1)) j).map .str)))])
    ?_ (n := k) ⟨0, by omega, rfl, rfl, rfl⟩
  rintro q env st ⟨j, hj, rfl, rfl, rfl⟩
  have wj : IntKind.i64.wrap ((j : Int) + 1) = ((j + 1 : Nat) : Int) := by rw [zj (by omega) (by omega)]; omega
  by_cases hlt : j < k
  · have wp : IntKind.i64.wrap (p + 1) = p + 1 := zj (by omega) (by omega)
    have hS := xK s (p + 1) (j : Int) hs
    rw [← wp] at hS
    have hsuc := zao (nxS s (p + 1)) j
    have hln := qu (nxS s (p + 1)) j
    have hK := zbM (sdS s (IntKind.i64.wrap (p + 1)) (j : Int)) (by rw [wO]; decide)
    rw [show wZ 2 (ktP (sdS s (IntKind.i64.wrap (p + 1)) (j : Int))) = kyS s (p + 1) j from by rw [wp]; rfl] at hK
    have hD := zbW (kyS s (p + 1) j) (by rw [zdO]; decide)
    rw [show dgS (kyS s (p + 1) j) = nxS s (p + 1) j from rfl] at hD
    generalize nxS s (p + 1) j = Z at *
    generalize kyS s (p + 1) j = Y at *
    clear wp
    generalize sdS s (IntKind.i64.wrap (p + 1)) (j : Int) = X at *
    repeat' (first | refine wC ?_ | (exfalso; omega) | refine wK ?_ | ((with_reducible refine zD ?_); refine zn rfl rfl rfl rfl rfl rfl rfl rfl rfl rfl ?_ ?_ ?_) | ((with_reducible refine zg ?_); first | refine wL hS ?_ | refine wL hK ?_ | refine wL hD ?_) | refine zi rfl ?_ ?_ <;> intro hc)
    all_goals try (simp only [List.length_map, List.length_cons, List.length_nil]; omega)
    all_goals try omega
    all_goals exact zr (n' := k - (j + 1)) (by omega) ((za [1, 3, 6, 7] [.loc 1, .loc 21] rfl rfl).trans (zk (.loc 21) (.loc 900) rfl rfl rfl rfl)) ⟨j + 1, by omega, rfl, by rw [wj]; rfl, by rw [hsuc, List.map_append, List.map_singleton]; rfl⟩
  · obtain rfl : j = k := by omega
    repeat' (first | refine wC ?_ | (exfalso; omega) | refine wK ?_ | refine zi rfl ?_ ?_ <;> intro hc)
    refine zx (zh (id := .loc 900) rfl rfl rfl) ?_
    exact zQ (zo (yl rfl (AVLE.refl _)) (by simp))
theorem zjj : ∀ u : Fin 8, IntKind.i64.wrap ((BitVec.ofInt IntKind.i64.bits ((u.val : Int) / 2 ^ min (IntKind.u64.wrap 0).toNat IntKind.i64.bits) ^^^ BitVec.ofInt IntKind.i64.bits 1).toNat : Int) = ((u.val / 2 ^ 0 ^^^ 1 : Nat) : Int) ∧ u.val / 2 ^ 0 ^^^ 1 < 8 := by decide
theorem zjh : ∀ u : Fin 8, IntKind.i64.wrap ((BitVec.ofInt IntKind.i64.bits ((u.val : Int) / 2 ^ min (IntKind.u64.wrap 1).toNat IntKind.i64.bits) ^^^ BitVec.ofInt IntKind.i64.bits 1).toNat : Int) = ((u.val / 2 ^ 1 ^^^ 1 : Nat) : Int) ∧ u.val / 2 ^ 1 ^^^ 1 < 4 := by decide
theorem zjc : ∀ u : Fin 8, IntKind.i64.wrap ((BitVec.ofInt IntKind.i64.bits ((u.val : Int) / 2 ^ min (IntKind.u64.wrap 2).toNat IntKind.i64.bits) ^^^ BitVec.ofInt IntKind.i64.bits 1).toNat : Int) = ((u.val / 2 ^ 2 ^^^ 1 : Nat) : Int) ∧ u.val / 2 ^ 2 ^^^ 1 < 2 := by decide
set_option maxHeartbeats 16000000 in
theorem zcU (s m : ByteArray) (u : Nat) (hu : u < 8) (hs : s.size ≤ 900000) (hm : m.size ≤ 900000) : Spec Tryz.prog 41 [.t (.str s), .t (.int .i64 (u : Int)), .t (.str m)] [] (.tup [.t (.str (ktS s u m)), .t (.int .i64 0)]) [] := by
  have hT := kM s hs
  have hD := ka s (u : Int) hs
  have z := vU s (u : Int)
  have hG := ze5 (wF s (u : Int)) m (by omega) hm
  have zG := vg (wF s (u : Int)) m
  have zB := vx (u : Int)
  have l0 := zE s 0 8
  have l1 := zE s 1 4
  have l2 := zE s 2 2
  have l3 := zE s 3 1
  have b0 : ktB s u 0 = ktL s 0 (u / 2 ^ 0 ^^^ 1) := rfl
  have b1 : ktB s u 1 = ktL s 1 (u / 2 ^ 1 ^^^ 1) := rfl
  have b2 : ktB s u 2 = ktL s 2 (u / 2 ^ 2 ^^^ 1) := rfl
  unfold ktS
  generalize zdk (wF s (u : Int)) m = Y at *
  generalize wF s (u : Int) = D at *
  unfold byS at zB ⊢
  refine wI Tryz.func41 ?_
  repeat' (first | refine wC ?_ | (exfalso; omega) | refine wK ?_ | ((with_reducible refine zF ?_); refine zz rfl rfl rfl rfl rfl rfl ?_ ?_) | ((with_reducible refine zN ?_); refine zw rfl rfl rfl rfl rfl rfl ?_ ?_) | ((with_reducible refine zg ?_); first | refine wL hT ?_ | refine wL hD ?_ | refine wL hG ?_) | refine zi rfl ?_ ?_ <;> intro hc)
  all_goals try exact vC _
  all_goals try omega
  obtain ⟨A, hA⟩ : ∃ A : ByteArray, A = vE [T.int .u8 (IntKind.u8.wrap (u : Int))] ++ Y := ⟨_, rfl⟩
  have zA : A.size = 577 := by rw [hA, ByteArray.size_append]; omega
  rw [← hA]
  clear hA hG
  have y0 := zJ s 0 (u / 2 ^ 0 ^^^ 1)
  have y1 := zJ s 1 (u / 2 ^ 1 ^^^ 1)
  have y2 := zJ s 2 (u / 2 ^ 2 ^^^ 1)
  rw [← b0] at y0
  rw [← b1] at y1
  rw [← b2] at y2
  refine zb (za [1, 8, 9, 10] [] rfl rfl) ?_
  refine ze (fun q env st => (q = 3 ∧ env = EnvL.get [(1, .t (.int .i64 (u : Int))), (8, .t (.str (A))), (9, .t (.sl 1 [.sl 1 ((zu s 0 8).map .str), .sl 1 ((zu s 1 4).map .str), .sl 1 ((zu s 2 2).map .str), .sl 1 ((zu s 3 1).map .str)])), (10, .t (.int .i64 0))] ∧ st = StO.get []) ∨ (q = 2 ∧ env = EnvL.get [(1, .t (.int .i64 (u : Int))), (8, .t (.str (A ++ ktB s u 0))), (9, .t (.sl 1 [.sl 1 ((zu s 0 8).map .str), .sl 1 ((zu s 1 4).map .str), .sl 1 ((zu s 2 2).map .str), .sl 1 ((zu s 3 1).map .str)])), (10, .t (.int .i64 1))] ∧ st = StO.get []) ∨ (q = 1 ∧ env = EnvL.get [(1, .t (.int .i64 (u : Int))), (8, .t (.str (A ++ ktB s u 0 ++ ktB s u 1))), (9, .t (.sl 1 [.sl 1 ((zu s 0 8).map .str), .sl 1 ((zu s 1 4).map .str), .sl 1 ((zu s 2 2).map .str), .sl 1 ((zu s 3 1).map .str)])), (10, .t (.int .i64 2))] ∧ st = StO.get []) ∨ (q = 0 ∧ env = EnvL.get [(1, .t (.int .i64 (u : Int))), (8, .t (.str (A ++ ktB s u 0 ++ ktB s u 1 ++ ktB s u 2))), (9, .t (.sl 1 [.sl 1 ((zu s 0 8).map .str), .sl 1 ((zu s 1 4).map .str), .sl 1 ((zu s 2 2).map .str), .sl 1 ((zu s 3 1).map .str)])), (10, .t (.int .i64 3))] ∧ st = StO.get []))
    ?_ (n := 3) (.inl ⟨rfl, rfl, rfl⟩)
  rintro q env st (⟨rfl, rfl, rfl⟩ | ⟨rfl, rfl, rfl⟩ | ⟨rfl, rfl, rfl⟩ | ⟨rfl, rfl, rfl⟩)
  · repeat' (first | refine wC ?_ | refine wK ?_ | ((with_reducible refine zF ?_); refine zz rfl rfl rfl rfl rfl rfl ?_ ?_) | ((with_reducible refine zd ?_); first | refine zc rfl rfl rfl rfl rfl rfl ?_ ?_ ?_ | refine yj rfl rfl rfl rfl rfl rfl ?_ ?_ ?_))
    all_goals first | decide | skip
    all_goals try (simp only [List.length_cons, List.length_nil]; decide)
    all_goals (
      obtain ⟨hx, hxl⟩ := zjj ⟨u, hu⟩
      simp only at hx hxl
      have hr : (zu s 0 8).getD (IntKind.i64.wrap ((BitVec.ofInt IntKind.i64.bits ((u : Int) / 2 ^ min (IntKind.u64.wrap 0).toNat IntKind.i64.bits) ^^^ BitVec.ofInt IntKind.i64.bits 1).toNat : Int)).toNat default = ktB s u 0 := by rw [xd s 0 8 hx hxl]; rfl
      first
        | (rw [hx]; exact Int.natCast_nonneg _)
        | (rw [hx, zE]; exact Int.ofNat_lt.2 hxl)
        | (rw [hr]; clear hx hr; (try simp only [ByteArray.size_append]); omega)
        | exact zr (n' := 2) (by omega) (za [1, 8, 9, 10] [] rfl rfl) (.inr (.inl ⟨rfl, by rw [hr]; rfl, rfl⟩)))
  · repeat' (first | refine wC ?_ | refine wK ?_ | ((with_reducible refine zF ?_); refine zz rfl rfl rfl rfl rfl rfl ?_ ?_) | ((with_reducible refine zd ?_); first | refine zc rfl rfl rfl rfl rfl rfl ?_ ?_ ?_ | refine yj rfl rfl rfl rfl rfl rfl ?_ ?_ ?_))
    all_goals first | decide | skip
    all_goals try (simp only [List.length_cons, List.length_nil]; decide)
    all_goals (
      obtain ⟨hx, hxl⟩ := zjh ⟨u, hu⟩
      simp only at hx hxl
      have hr : (zu s 1 4).getD (IntKind.i64.wrap ((BitVec.ofInt IntKind.i64.bits ((u : Int) / 2 ^ min (IntKind.u64.wrap 1).toNat IntKind.i64.bits) ^^^ BitVec.ofInt IntKind.i64.bits 1).toNat : Int)).toNat default = ktB s u 1 := by rw [xd s 1 4 hx hxl]; rfl
      first
        | (rw [hx]; exact Int.natCast_nonneg _)
        | (rw [hx, zE]; exact Int.ofNat_lt.2 hxl)
        | (rw [hr]; clear hx hr; (try simp only [ByteArray.size_append]); omega)
        | exact zr (n' := 1) (by omega) (za [1, 8, 9, 10] [] rfl rfl) (.inr (.inr (.inl ⟨rfl, by rw [hr]; rfl, rfl⟩))))
  · repeat' (first | refine wC ?_ | refine wK ?_ | ((with_reducible refine zF ?_); refine zz rfl rfl rfl rfl rfl rfl ?_ ?_) | ((with_reducible refine zd ?_); first | refine zc rfl rfl rfl rfl rfl rfl ?_ ?_ ?_ | refine yj rfl rfl rfl rfl rfl rfl ?_ ?_ ?_))
    all_goals first | decide | skip
    all_goals try (simp only [List.length_cons, List.length_nil]; decide)
    all_goals (
      obtain ⟨hx, hxl⟩ := zjc ⟨u, hu⟩
      simp only at hx hxl
      have hr : (zu s 2 2).getD (IntKind.i64.wrap ((BitVec.ofInt IntKind.i64.bits ((u : Int) / 2 ^ min (IntKind.u64.wrap 2).toNat IntKind.i64.bits) ^^^ BitVec.ofInt IntKind.i64.bits 1).toNat : Int)).toNat default = ktB s u 2 := by rw [xd s 2 2 hx hxl]; rfl
      first
        | (rw [hx]; exact Int.natCast_nonneg _)
        | (rw [hx, zE]; exact Int.ofNat_lt.2 hxl)
        | (rw [hr]; clear hx hr; (try simp only [ByteArray.size_append]); omega)
        | exact zr (n' := 0) (by omega) (za [1, 8, 9, 10] [] rfl rfl) (.inr (.inr (.inr ⟨rfl, by rw [hr]; rfl, rfl⟩))))
  · repeat' (first | refine wC ?_ | refine wK ?_ | ((with_reducible refine zd ?_); refine yj rfl rfl rfl rfl rfl rfl ?_ ?_ ?_))
    all_goals first | decide | skip
    all_goals try (simp only [List.length_cons, List.length_nil]; decide)
    all_goals exact zo (yd rfl rfl rfl rfl rfl) (by simp)
set_option maxHeartbeats 2000000 in
theorem ws (s : ByteArray) (p c n : Int) (l : List Int) (hl : l.length ≤ 1000000) : Spec Tryz.prog 40 [.t (vaT s p c n l)] [] (.agg [.t (.str s), .t (.int .i64 p), .t (.int .i64 c), .t (.int .i64 n), .row (.res 0)]) [(.res 0, .slt 3 1 (l.map (T.int .i64)))] := by
  unfold vaT
  cases l with
  | nil =>
    refine wIG Tryz.func40 ?_
    repeat' (first | refine wC ?_ | refine wK ?_ | ((with_reducible refine zD ?_); refine wV rfl rfl rfl rfl rfl rfl rfl rfl ?_ ?_ ?_))
    all_goals try (simp only [List.length_map, List.length_nil]; omega)
    refine zx ((za [2] [.loc 2, .loc 5] rfl rfl).trans (zk (.loc 5) (.res 0) rfl rfl rfl rfl)) ?_
    refine zQ (zo ?_ (zv ⟨rfl, trivial⟩)); exact xL rfl rfl rfl inferInstance rfl inferInstance rfl (AVLE.refl _)
  | cons x t =>
    refine wIG Tryz.func40 ?_
    repeat' (first | refine wC ?_ | refine wK ?_ | ((with_reducible refine zD ?_); refine wV rfl rfl rfl rfl rfl rfl rfl rfl ?_ ?_ ?_))
    all_goals try (simp only [List.length_map, List.length_nil]; omega)
    refine zx ((za [2] [.loc 2, .loc 5] rfl rfl).trans (zk (.loc 5) (.res 0) rfl rfl rfl rfl)) ?_
    refine zQ (zo ?_ (zv ⟨rfl, trivial⟩)); exact xL rfl rfl rfl inferInstance rfl inferInstance rfl (AVLE.refl _)
set_option maxHeartbeats 1000000 in
theorem zcw (es : List T) (h : es.length ≤ 1000000) : Spec Tryz.prog 57 [.t (.sl 1 es)] [] (.row (.res 0)) [(.res 0, .slt 3 1 es)] := by
  refine zeL (fun he => ?_) (fun he => ?_) (fun e l he => ?_)
  · subst he
    refine wIG Tryz.func57 ?_
    repeat' (first | refine wC ?_ | refine wK ?_ | fail)
    refine zfA ((za [2] [] rfl rfl).trans ((z8 2 (.loc 1000) 3 1 rfl rfl rfl).trans ((za [2] [.loc 1000] rfl rfl).trans (zk (.loc 1000) (.res 0) rfl rfl rfl rfl)))) (zo (yl rfl (AVLE.refl _)) (zv ⟨rfl, trivial⟩))
  · subst he
    refine wIG Tryz.func57 ?_
    repeat' (first | refine wC ?_ | refine wK ?_ | ((with_reducible refine zD ?_); refine zat rfl rfl rfl rfl rfl rfl rfl rfl rfl ?_ ?_ ?_))
    · simp
    · simp
    refine zfA ((za [2] [.loc 7] rfl rfl).trans (zk (.loc 7) (.res 0) rfl rfl rfl rfl)) (zo (yl rfl (AVLE.refl _)) (zv ⟨rfl, trivial⟩))
  · subst he
    refine wIG Tryz.func57 ?_
    repeat' (first | refine wC ?_ | refine wK ?_ | ((with_reducible refine zD ?_); refine qZ rfl rfl rfl rfl rfl rfl rfl rfl rfl ?_ ?_ ?_))
    · simp only [List.length_cons, List.length_nil] at *; omega
    · simp only [List.length_cons, List.length_nil] at *; omega
    refine zfA ((za [2] [.loc 7] rfl rfl).trans (zk (.loc 7) (.res 0) rfl rfl rfl rfl)) (zo (yl rfl (AVLE.refl _)) (zv ⟨rfl, trivial⟩))
set_option maxHeartbeats 2000000 in
theorem qz (s : ByteArray) (p c n : Int) (l : List Int) (hl : l.length ≤ 1000000) : Spec Tryz.prog 37 [.t (vaT s p c n l)] [] (.agg [.t (.str s), .t (.int .i64 p), .t (.int .i64 c), .t (.int .i64 n), .row (.res 0)]) [(.res 0, .slt 3 1 (l.map (T.int .i64)))] := by
  have hC := zcw (l.map (T.int .i64)) (by rw [List.length_map]; exact hl)
  refine wIG Tryz.func37 ?_
  repeat' (first | refine wC ?_ | refine wK ?_ | ((with_reducible refine zg ?_); refine wN (.row (.loc 900)) [(.res 0, .loc 900)] hC ?_) | fail)
  refine zx ((za [2] [.loc 2, .loc 900] rfl rfl).trans (zk (.loc 900) (.res 0) rfl rfl rfl rfl)) ?_
  refine zQ (zo ?_ (zv ⟨rfl, trivial⟩)); exact xL rfl rfl rfl inferInstance rfl inferInstance rfl (AVLE.refl _)
set_option maxHeartbeats 4000000 in
theorem zak (s m : ByteArray) (p c n : Int) (l : List Int) (hl : l.length ≤ 1000000) (hb : qq s p c n l = false) : Spec Tryz.prog 18 [.t (vaT s p c n l), .t (.str m)] [] (.tup [.t .nilsl, .t (vaT s p c n l), .t (.int .i64 1)]) [] := by
  have hO := qz s p c n l hl
  have hV := yQ s p c n l hl
  rw [hb] at hV
  refine wIG Tryz.func18 ?_
  repeat' (first | refine wC ?_ | refine wK ?_ | ((with_reducible refine zg ?_); first | refine wN (.agg [.t (.str s), .t (.int .i64 p), .t (.int .i64 c), .t (.int .i64 n), .row (.loc 900)]) [(.res 0, .loc 900)] hO ?_ | refine wL hV ?_) | fail)
  refine zx (za [4, 5, 6] [.loc 5, .loc 900] rfl rfl) ?_
  refine zx (zh (id := .loc 900) rfl rfl rfl) ?_
  refine zQ (zo ?_ (by simp)); refine yg rfl rfl rfl inferInstance rfl inferInstance rfl ?_ ?_ ?_; exact AVLE.refl _; exact TLe.av wT; exact AVLE.refl _
set_option maxHeartbeats 4000000 in
theorem kN (s : ByteArray) (p c n nx : Int) (l : List Int) (hl : l.length ≤ 1000000) (hb : qq s p c n l = false ∨ p = 65535) : Spec Tryz.prog 20 [.t (vaT s p c n l), .t (.int .i64 nx)] [] (.tup [.t (vaT s p c n l), .t (.int .i64 1)]) [] := by
  have hO := qz s p c n l hl
  have hV := yQ s p c n l hl
  rcases hb with hb | rfl
  · rw [hb] at hV
    refine wIG Tryz.func20 ?_
    repeat' (first | refine wC ?_ | refine wK ?_ | ((with_reducible refine zg ?_); first | refine wN (.agg [.t (.str s), .t (.int .i64 p), .t (.int .i64 c), .t (.int .i64 n), .row (.loc 900)]) [(.res 0, .loc 900)] hO ?_ | refine wL hV ?_) | fail)
    refine zx (zh (id := .loc 900) rfl rfl rfl) ?_
    refine zQ (zo ?_ (by simp)); refine zL rfl rfl rfl inferInstance rfl inferInstance rfl ?_ ?_; exact TLe.av wT; exact AVLE.refl _
  · refine wIG Tryz.func20 ?_
    repeat' (first | refine wC ?_ | refine wK ?_ | ((with_reducible refine zg ?_); first | refine wN (.agg [.t (.str s), .t (.int .i64 65535), .t (.int .i64 c), .t (.int .i64 n), .row (.loc 900)]) [(.res 0, .loc 900)] hO ?_ | refine wL hV ?_) | refine vZ rfl ?_ ?_ <;> intro hc)
    all_goals refine zx (zh (id := .loc 900) rfl rfl rfl) ?_
    all_goals (refine zQ (zo ?_ (by simp)); refine zL rfl rfl rfl inferInstance rfl inferInstance rfl ?_ ?_; exact TLe.av wT; exact AVLE.refl _)
set_option maxHeartbeats 4000000 in
theorem jB (s : ByteArray) (p c n nx : Int) (l : List Int) (hl : l.length ≤ 1000000) (hb : qq s p c n l = true) (hp : p ≠ 65535) (hn : n ≠ 0) (hx : nx < 0 ∨ 8 < nx) : Spec Tryz.prog 20 [.t (vaT s p c n l), .t (.int .i64 nx)] [] (.tup [.t (vaT s p c n l), .t (.int .i64 2)]) [] := by
  have hO := qz s p c n l hl
  have hV := yQ s p c n l hl
  rw [hb] at hV
  have hk := y5 nx 0
  rw [show (decide (0 ≤ nx) && decide (nx ≤ 8)) = false from by
    rcases hx with h | h
    · rw [decide_eq_false (by omega : ¬ 0 ≤ nx)]; rfl
    · rw [decide_eq_false (by omega : ¬ nx ≤ 8), Bool.and_false]] at hk
  refine wIG Tryz.func20 ?_
  repeat' (first | refine wC ?_ | (exfalso; omega) | refine wK ?_ | ((with_reducible refine zg ?_); first | refine wN (.agg [.t (.str s), .t (.int .i64 p), .t (.int .i64 c), .t (.int .i64 n), .row (.loc 900)]) [(.res 0, .loc 900)] hO ?_ | refine wL hV ?_ | refine wL hk ?_) | refine zi rfl ?_ ?_ <;> intro hc)
  refine zx (zh (id := .loc 900) rfl rfl rfl) ?_
  refine zQ (zo ?_ (by simp)); refine zL rfl rfl rfl inferInstance rfl inferInstance rfl ?_ ?_; exact TLe.av wT; exact AVLE.refl _
theorem Spec.argsLE {P : Program} {f : FuncId} {args args' : List AV} {S S' : StL} {r : AV} (hl : args'.length = args.length) (hle : ArgsLE args' args) (H : Spec P f args S r S') : Spec P f args' S r S' :=
  ⟨fun h m vs w hs hvs hrep => H.run h m vs w hs (hvs.trans hl) (hle h m _ 0 hrep)⟩
theorem ww (s : ByteArray) (p c n : Int) (l : List Int) (hl : l.length ≤ 1000000) : Spec Tryz.prog 17 [.agg [.t (.str s), .t (.int .i64 p), .t (.int .i64 c), .t (.int .i64 n), .row (.par 0)]] [(.par 0, .slt 3 1 (l.map (T.int .i64)))] (.t (.bool (qq s p c n l))) [(.par 0, .slt 3 1 (l.map (T.int .i64)))] := by
  have hV := xW s p c n l hl
  unfold vaT at hV
  exact Spec.borrow (k := 0) (e := 3) (sz := 1) (es := l.map (T.int .i64)) (args := [.agg [.t (.str s), .t (.int .i64 p), .t (.int .i64 c), .t (.int .i64 n), .row (.par 0)]]) (r := .bool (qq s p c n l)) (fun h h' v hv => by simpa [RepT] using hv)
    (Spec.argsLE rfl (ArgsLE.cons (TLe.av wT) ArgsLE.nil) hV)
set_option maxHeartbeats 4000000 in
theorem jJ (s m : ByteArray) (p c n : Int) (l : List Int) (hl : l.length ≤ 1000000) (hb : qq s p c n l = false) : Spec Tryz.prog 19 [.t (vaT s p c n l), .t (.str m)] [] (.tup [.t .nilsl, .t (vaT s p c n l), .t (.int .i64 1)]) [] := by
  have hO := ws s p c n l hl
  have hV := ww s p c n l hl
  rw [hb] at hV
  refine wIG Tryz.func19 ?_
  repeat' (first | refine wC ?_ | refine wK ?_ | ((with_reducible refine zg ?_); first | refine wN (.agg [.t (.str s), .t (.int .i64 p), .t (.int .i64 c), .t (.int .i64 n), .row (.loc 900)]) [(.res 0, .loc 900)] hO ?_ | refine zaU (r' := .t (.bool false)) [(.par 0, .loc 900)] rfl rfl hV (ArgsLE.refl _) rfl ⟨rfl, trivial⟩ rfl rfl rfl rfl rfl rfl rfl rfl ?_))
  refine zx (za [4, 5, 6] [.loc 5, .loc 900] rfl rfl) ?_
  refine zx (zh (id := .loc 900) rfl rfl rfl) ?_
  refine zQ (zo ?_ (by simp)); refine yg rfl rfl rfl inferInstance rfl inferInstance rfl ?_ ?_ ?_; exact AVLE.refl _; exact TLe.av wT; exact AVLE.refl _
theorem zhj (u : Nat → Nat) (k : Nat) {j : Nat} (hj : j < k) : (usL u k).getD (j : Int).toNat default = (u j : Int) := by
  unfold usL; rw [Int.toNat_natCast, List.getD_eq_getElem?_getD, List.getElem?_map, List.getElem?_range hj]; rfl
set_option maxHeartbeats 8000000 in
theorem zbt (s m : ByteArray) (p n : Int) (k : Nat) (u : Nat → Nat) (hs : s.size = 32) (hp : 0 ≤ p) (hp1 : p < 65536) (hk1 : 1 ≤ k) (hk : k ≤ 8) (hn : 0 ≤ n) (hn8 : n ≤ 8) (hu : ∀ i, i < k → u i ≤ 8) (i8 : Nat) (hi8 : i8 < k) (he8 : u i8 = 8) : Spec Tryz.prog 19 [.t (vaT s p (k : Int) n (usL u k)), .t (.str m)] [] (.tup [.t .nilsl, .t (vaT s p (k : Int) n (usL u k)), .t (.int .i64 25)]) [] := by
  have hln := va u k
  have hO := ws s p (k : Int) n (usL u k) (by omega)
  have hV := ww s p (k : Int) n (usL u k) (by omega)
  rw [qy s p n k u hs hp hp1 hk1 hk hn hn8 hu] at hV
  have hat := fun j (hj : j < k) => zhj u k hj
  generalize usL u k = U at *
  refine wIG Tryz.func19 ?_
  repeat' (first | refine wC ?_ | refine wK ?_ | ((with_reducible refine zg ?_); first | refine wN (.agg [.t (.str s), .t (.int .i64 p), .t (.int .i64 (k : Int)), .t (.int .i64 n), .row (.loc 900)]) [(.res 0, .loc 900)] hO ?_ | refine zaU (r' := .t (.bool true)) [(.par 0, .loc 900)] rfl rfl hV (ArgsLE.refl _) rfl ⟨rfl, trivial⟩ rfl rfl rfl rfl rfl rfl rfl rfl ?_))
  refine zb (za [2, 5, 21, 22, 23] [.loc 2, .loc 5, .loc 900] rfl rfl) ?_
  refine ze (fun q env st => ∃ (j : Nat), j ≤ k ∧ q = k - j ∧ (∀ i, i < j → u i ≠ 8) ∧ env = EnvL.get [(2, .ref (.loc 2) 0 0 0), (5, .ref (.loc 5) 0 0 0), (21, .row (.loc 900)), (22, .t (.int .i64 (U.length : Int))), (23, .t (.int .i64 (j : Int)))] ∧ st = StO.get [(.loc 2, some (.var 24 [.t (.str s), .t (.int .i64 p), .t (.int .i64 (k : Int)), .t (.int .i64 n), .row (.loc 900)])), (.loc 5, some (.var 24 [.t (.str ⟨#[]⟩), .t (.int .i64 0), .t (.int .i64 0), .t (.int .i64 0), .t .nilsl])), (.loc 900, some (.slt 3 1 (U.map (T.int .i64))))])
    ?_ (n := k) ⟨0, by omega, rfl, fun i hi => by omega, rfl, rfl⟩
  clear hO hV
  rintro q env st ⟨j, hj, rfl, ho, rfl, rfl⟩
  have wj : IntKind.i64.wrap ((j : Int) + 1) = ((j + 1 : Nat) : Int) := by rw [zj (by omega) (by omega)]; omega
  by_cases hlt : j < k
  · have hx := hat j hlt
    by_cases h8 : u j = 8
    · have hx8 : U.getD (j : Int).toNat default = 8 := by rw [hx, h8]; rfl
      clear hx ho hat
      repeat' (first | refine wC ?_ | (exfalso; omega) | refine wK ?_ | ((with_reducible refine xu ?_); refine yN rfl rfl rfl rfl rfl rfl rfl rfl ?_ ?_) | ((with_reducible refine zd ?_); refine zO rfl rfl rfl rfl rfl rfl rfl ?_ ?_ ?_) | refine zi rfl ?_ ?_ <;> intro hc)
      all_goals try (simp only [List.length_map]; omega)
      all_goals try omega
      refine zx (za [4, 5, 6] [.loc 5, .loc 900] rfl rfl) ?_
      refine zx (zh (id := .loc 900) rfl rfl rfl) ?_
      refine zQ (zo ?_ (by simp)); refine yg rfl rfl rfl inferInstance rfl inferInstance rfl ?_ ?_ ?_; exact AVLE.refl _; exact TLe.av wT; exact AVLE.refl _
    · have hx8 : U.getD (j : Int).toNat default ≠ 8 := by rw [hx]; omega
      have ho' : ∀ i, i < j + 1 → u i ≠ 8 := fun i hi => by
        by_cases e : i = j
        · subst e; exact h8
        · exact ho i (by omega)
      clear hx ho hat
      repeat' (first | refine wC ?_ | (exfalso; omega) | refine wK ?_ | ((with_reducible refine xu ?_); refine yN rfl rfl rfl rfl rfl rfl rfl rfl ?_ ?_) | ((with_reducible refine zd ?_); refine zO rfl rfl rfl rfl rfl rfl rfl ?_ ?_ ?_) | refine zi rfl ?_ ?_ <;> intro hc)
      all_goals try (simp only [List.length_map]; omega)
      all_goals try omega
      all_goals exact zr (n' := k - (j + 1)) (by omega) (za [2, 5, 21, 22, 23] [.loc 2, .loc 5, .loc 900] rfl rfl) ⟨j + 1, by omega, rfl, ho', by rw [wj]; rfl, rfl⟩
  · exact absurd he8 (ho i8 (by omega))
set_option maxHeartbeats 16000000 in
theorem zcL (s m : ByteArray) (p n : Int) (k : Nat) (u : Nat → Nat) (hm : m.size ≤ 900000) (hs : s.size = 32) (hp : 0 ≤ p) (hp1 : p < 65536) (hk1 : 1 ≤ k) (hk : k ≤ 8) (hn : 0 ≤ n) (hn8 : n ≤ 8) (hu : ∀ i, i < k → u i < 8) : Spec Tryz.prog 19 [.t (vaT s p (k : Int) n (usL u k)), .t (.str m)] [] (.tup [.t (.sl 2 (sgL s p u m k)), .t (vaT s p (k : Int) n (usL (fun i => u i + 1) k)), .t (.int .i64 0)]) [] := by
  rw [← zfM]
  have hln := va u k
  have hO := ws s p (k : Int) n (usL u k) (by omega)
  have hV := ww s p (k : Int) n (usL u k) (by omega)
  rw [qy s p n k u hs hp hp1 hk1 hk hn hn8 (fun i hi => Nat.le_of_lt (hu i hi))] at hV
  have hat := fun j (hj : j < k) => zhj u k hj
  have h0 : usL u k = vF (fun i => ((u i : Nat) : Int) + 1) (fun i => ((u i : Nat) : Int)) k 0 := (zdK _ _ _).symm
  generalize usL u k = U at *
  refine wIG Tryz.func19 ?_
  repeat' (first | refine wC ?_ | refine wK ?_ | ((with_reducible refine zg ?_); first | refine wN (.agg [.t (.str s), .t (.int .i64 p), .t (.int .i64 (k : Int)), .t (.int .i64 n), .row (.loc 900)]) [(.res 0, .loc 900)] hO ?_ | refine zaU (r' := .t (.bool true)) [(.par 0, .loc 900)] rfl rfl hV (ArgsLE.refl _) rfl ⟨rfl, trivial⟩ rfl rfl rfl rfl rfl rfl rfl rfl ?_))
  refine zb (za [1, 2, 5, 21, 22, 23] [.loc 2, .loc 5, .loc 900] rfl rfl) ?_
  refine ze (fun q env st => ∃ (j : Nat), j ≤ k ∧ q = k - j ∧ env = EnvL.get [(1, .t (.str m)), (2, .ref (.loc 2) 0 0 0), (5, .ref (.loc 5) 0 0 0), (21, .row (.loc 900)), (22, .t (.int .i64 (U.length : Int))), (23, .t (.int .i64 (j : Int)))] ∧ st = StO.get [(.loc 2, some (.var 24 [.t (.str s), .t (.int .i64 p), .t (.int .i64 (k : Int)), .t (.int .i64 n), .row (.loc 900)])), (.loc 5, some (.var 24 [.t (.str ⟨#[]⟩), .t (.int .i64 0), .t (.int .i64 0), .t (.int .i64 0), .t .nilsl])), (.loc 900, some (.slt 3 1 (U.map (T.int .i64))))])
    ?_ (n := k) ⟨0, by omega, rfl, rfl, rfl⟩
  clear hO hV
  rintro q env st ⟨j, hj, rfl, rfl, rfl⟩
  have wj : IntKind.i64.wrap ((j : Int) + 1) = ((j + 1 : Nat) : Int) := by rw [zj (by omega) (by omega)]; omega
  by_cases hlt : j < k
  · have hx := hat j hlt
    have hx8 : U.getD (j : Int).toNat default ≠ 8 := by have := hu j hlt; rw [hx]; omega
    clear hx hat
    repeat' (first | refine wC ?_ | (exfalso; omega) | refine wK ?_ | ((with_reducible refine xu ?_); refine yN rfl rfl rfl rfl rfl rfl rfl rfl ?_ ?_) | ((with_reducible refine zd ?_); refine zO rfl rfl rfl rfl rfl rfl rfl ?_ ?_ ?_) | refine zi rfl ?_ ?_ <;> intro hc)
    all_goals try (simp only [List.length_map]; omega)
    all_goals try omega
    all_goals exact zr (n' := k - (j + 1)) (by omega) (za [1, 2, 5, 21, 22, 23] [.loc 2, .loc 5, .loc 900] rfl rfl) ⟨j + 1, by omega, rfl, by rw [wj]; rfl, rfl⟩
  · obtain rfl : j = k := by omega
    repeat' (first | refine wC ?_ | (exfalso; omega) | refine wK ?_ | refine zi rfl ?_ ?_ <;> intro hc)
    refine zb (z8 9 (.loc 901) 47 2 rfl rfl rfl) ?_
    rw [hln]
    refine zb (za [1, 2, 5, 9, 32, 33, 34] [.loc 2, .loc 5, .loc 900, .loc 901] rfl rfl) ?_
    refine ze (fun q env st => ∃ (i : Nat), i ≤ j ∧ q = j - i ∧ env = EnvL.get [(1, .t (.str m)), (2, .ref (.loc 2) 0 0 0), (5, .ref (.loc 5) 0 0 0), (9, .row (.loc 901)), (32, .row (.loc 900)), (33, .t (.int .i64 (j : Int))), (34, .t (.int .i64 (i : Int)))] ∧ st = StO.get [(.loc 2, some (.var 24 [.t (.str s), .t (.int .i64 p), .t (.int .i64 (j : Int)), .t (.int .i64 n), .row (.loc 900)])), (.loc 5, some (.var 24 [.t (.str ⟨#[]⟩), .t (.int .i64 0), .t (.int .i64 0), .t (.int .i64 0), .t .nilsl])), (.loc 900, some (.slt 3 1 ((vF (fun i => ((u i : Nat) : Int) + 1) (fun i => ((u i : Nat) : Int)) j i).map (T.int .i64)))), (.loc 901, some (.slt 47 2 (sgL s p u m i)))])
      ?_ (n := j) ⟨0, by omega, rfl, rfl, by rw [h0]; rfl⟩
    rintro q env st ⟨i, hi, rfl, rfl, rfl⟩
    have wi : IntKind.i64.wrap ((i : Int) + 1) = ((i + 1 : Nat) : Int) := by rw [zj (by omega) (by omega)]; omega
    by_cases hij : i < j
    · have hSd := xK s p (i : Int) (by omega)
      have hK := zcU (sdS s p (i : Int)) m (u i) (hu i hij) (by rw [wO]; decide) hm
      have hsg := zdP s p u m i
      have hsl := zfn s p u m i
      have hmm := za0 (fun i => ((u i : Nat) : Int) + 1) (fun i => ((u i : Nat) : Int)) j i hij
      have hms := kE (fun i => ((u i : Nat) : Int) + 1) (fun i => ((u i : Nat) : Int)) j i
      have hml := vv (fun i => ((u i : Nat) : Int) + 1) (fun i => ((u i : Nat) : Int)) j i
      have hwu : IntKind.i64.wrap ((vF (fun i => ((u i : Nat) : Int) + 1) (fun i => ((u i : Nat) : Int)) j i).getD (i : Int).toNat default + 1) = ((u i : Nat) : Int) + 1 := by
        rw [Int.toNat_natCast, hmm]
        have := hu i hij
        exact zj (by omega) (by omega)
      have hset : ((vF (fun i => ((u i : Nat) : Int) + 1) (fun i => ((u i : Nat) : Int)) j i).map (T.int .i64)).set (i : Int).toNat (.int .i64 (IntKind.i64.wrap ((vF (fun i => ((u i : Nat) : Int) + 1) (fun i => ((u i : Nat) : Int)) j i).getD (i : Int).toNat default + 1))) = (vF (fun i => ((u i : Nat) : Int) + 1) (fun i => ((u i : Nat) : Int)) j (i + 1)).map (T.int .i64) := by
        rw [hwu, Int.toNat_natCast, ← hms, List.map_set]
      unfold sgT at hsg
      rw [show ((u i : Nat) : Int) = (vF (fun i => ((u i : Nat) : Int) + 1) (fun i => ((u i : Nat) : Int)) j i).getD (i : Int).toNat default from by rw [Int.toNat_natCast, hmm]] at hK
      clear hmm hms hwu hat
      generalize ktS (sdS s p (i : Int)) (u i) m = Z at *
      generalize sdS s p (i : Int) = D at *
      generalize vF (fun i => ((u i : Nat) : Int) + 1) (fun i => ((u i : Nat) : Int)) j i = M at *
      repeat' (first | refine wC ?_ | (exfalso; omega) | refine wK ?_ | ((with_reducible refine xu ?_); refine yN rfl rfl rfl rfl rfl rfl rfl rfl ?_ ?_) | ((with_reducible refine yY ?_); refine yP rfl rfl rfl rfl rfl rfl ?_ ?_ ?_) | ((with_reducible refine zd ?_); refine zO rfl rfl rfl rfl rfl rfl rfl ?_ ?_ ?_) | ((with_reducible refine zD ?_); refine zn rfl rfl rfl rfl rfl rfl rfl rfl rfl rfl ?_ ?_ ?_) | ((with_reducible refine zg ?_); first | refine wL hSd ?_ | refine wL hK ?_) | refine zi rfl ?_ ?_ <;> intro hc)
      all_goals try (simp only [List.length_map, List.length_cons, List.length_nil]; omega)
      all_goals try omega
      all_goals first | rfl | exact zr (n' := j - (i + 1)) (by omega) ((za [1, 2, 5, 9, 32, 33, 34] [.loc 2, .loc 5, .loc 900, .loc 56] rfl rfl).trans (zk (.loc 56) (.loc 901) rfl rfl rfl rfl)) ⟨i + 1, by omega, rfl, by rw [wi]; rfl, by rw [← hset, hsg]; rfl⟩
    · obtain rfl : i = j := by omega
      repeat' (first | refine wC ?_ | (exfalso; omega) | refine wK ?_ | refine zi rfl ?_ ?_ <;> intro hc)
      refine zx (za [4, 5, 6] [.loc 5, .loc 900, .loc 901] rfl rfl) ?_
      refine zx (zh (id := .loc 900) rfl rfl rfl) ?_
      refine zx (zh (id := .loc 901) rfl rfl rfl) ?_
      refine zQ (zo ?_ (by simp)); refine yg rfl rfl rfl inferInstance rfl inferInstance rfl ?_ ?_ ?_; exact AVLE.refl _; exact TLe.av wT; exact AVLE.refl _
set_option maxHeartbeats 4000000 in
theorem xk (s : ByteArray) (p c n nx e : Int) (l : List Int) (hl : l.length ≤ 1000000) (hb : ((qq s p c n l = false ∨ p = 65535) ∧ e = 1) ∨ (qq s p c n l = true ∧ p ≠ 65535 ∧ ((n = 0 ∧ e = 26) ∨ (n ≠ 0 ∧ (nx < 0 ∨ 8 < nx) ∧ e = 2)))) : Spec Tryz.prog 21 [.t (vaT s p c n l), .t (.int .i64 nx)] [] (.tup [.t (vaT s p c n l), .t (.int .i64 e)]) [] := by
  have hO := ws s p c n l hl
  have hV := xW s p c n l hl
  generalize qq s p c n l = B at *
  rcases hb with ⟨hb | rfl, rfl⟩ | ⟨rfl, hp, ⟨rfl, rfl⟩ | ⟨hn, hx, rfl⟩⟩
  · subst hb
    refine wIG Tryz.func21 ?_
    repeat' (first | refine wC ?_ | refine wK ?_ | ((with_reducible refine zg ?_); first | refine wN (.agg [.t (.str s), .t (.int .i64 p), .t (.int .i64 c), .t (.int .i64 n), .row (.loc 900)]) [(.res 0, .loc 900)] hO ?_ | refine wL hV ?_) | fail)
    all_goals refine zx (zh (id := .loc 900) rfl rfl rfl) ?_
    all_goals (refine zQ (zo ?_ (by simp)); refine zL rfl rfl rfl inferInstance rfl inferInstance rfl ?_ ?_; exact TLe.av wT; exact AVLE.refl _)
  · refine wIG Tryz.func21 ?_
    repeat' (first | refine wC ?_ | refine wK ?_ | ((with_reducible refine zg ?_); first | refine wN (.agg [.t (.str s), .t (.int .i64 65535), .t (.int .i64 c), .t (.int .i64 n), .row (.loc 900)]) [(.res 0, .loc 900)] hO ?_ | refine wL hV ?_) | refine vZ rfl ?_ ?_ <;> intro hc)
    all_goals refine zx (zh (id := .loc 900) rfl rfl rfl) ?_
    all_goals (refine zQ (zo ?_ (by simp)); refine zL rfl rfl rfl inferInstance rfl inferInstance rfl ?_ ?_; exact TLe.av wT; exact AVLE.refl _)
  · refine wIG Tryz.func21 ?_
    repeat' (first | refine wC ?_ | (exfalso; omega) | refine wK ?_ | ((with_reducible refine zg ?_); first | refine wN (.agg [.t (.str s), .t (.int .i64 p), .t (.int .i64 c), .t (.int .i64 0), .row (.loc 900)]) [(.res 0, .loc 900)] hO ?_ | refine wL hV ?_) | refine zi rfl ?_ ?_ <;> intro hc)
    all_goals refine zx (zh (id := .loc 900) rfl rfl rfl) ?_
    all_goals (refine zQ (zo ?_ (by simp)); refine zL rfl rfl rfl inferInstance rfl inferInstance rfl ?_ ?_; exact TLe.av wT; exact AVLE.refl _)
  · refine wIG Tryz.func21 ?_
    repeat' (first | refine wC ?_ | (exfalso; omega) | refine wK ?_ | ((with_reducible refine zg ?_); first | refine wN (.agg [.t (.str s), .t (.int .i64 p), .t (.int .i64 c), .t (.int .i64 n), .row (.loc 900)]) [(.res 0, .loc 900)] hO ?_ | refine wL hV ?_) | refine zi rfl ?_ ?_ <;> intro hc | refine yi rfl ?_ ?_ <;> intro hc)
    all_goals refine zx (zh (id := .loc 900) rfl rfl rfl) ?_
    all_goals (refine zQ (zo ?_ (by simp)); refine zL rfl rfl rfl inferInstance rfl inferInstance rfl ?_ ?_; exact TLe.av wT; exact AVLE.refl _)
set_option maxHeartbeats 8000000 in
theorem zaD (s : ByteArray) (p c n nx : Int) (l : List Int) (hl : l.length ≤ 1000000) (hb : qq s p c n l = true) (hp : 0 ≤ p) (hp1 : p < 65535) (hn : 1 ≤ n) (hn8 : n ≤ 8) (hx : 0 ≤ nx) (hx8 : nx ≤ 8) : Spec Tryz.prog 21 [.t (vaT s p c n l), .t (.int .i64 nx)] [] (.tup [.t (vaT s (p + 1) n nx (List.replicate n.toNat 0)), .t (.int .i64 0)]) [] := by
  have hV := xW s p c n l hl
  rw [hb] at hV
  have wp : IntKind.i64.wrap (p + 1) = p + 1 := zj (by omega) (by omega)
  rw [show vaT s (p + 1) n nx (List.replicate n.toNat 0) = .agg [.str s, .int .i64 (p + 1), .int .i64 n, .int .i64 nx, .sl 1 (List.replicate n.toNat (T.int .i64 0))] from by unfold vaT; rw [List.map_replicate]]
  rw [← wp]
  clear wp hb
  refine wIG Tryz.func21 ?_
  repeat' (first | refine wC ?_ | (exfalso; omega) | refine vw (r := .agg [.t (.str s), .t (.int .i64 (IntKind.i64.wrap (p + 1))), .t (.int .i64 n), .t (.int .i64 nx), .row (.loc 42)]) rfl rfl rfl rfl rfl rfl rfl ?_ | refine wK ?_ | ((with_reducible refine yG ?_); refine yo (zT := .int _ _) rfl rfl rfl rfl rfl rfl rfl rfl rfl ?_ ?_ ?_ ?_ ?_) | ((with_reducible refine zg ?_); refine wL hV ?_) | refine zi rfl ?_ ?_ <;> intro hc | refine yi rfl ?_ ?_ <;> intro hc)
  all_goals try omega
  refine zx (zh (id := .loc 42) rfl rfl rfl) ?_
  refine zQ (zo ?_ (by simp)); refine zL rfl rfl rfl inferInstance rfl inferInstance rfl ?_ ?_; exact TLe.av wT; exact AVLE.refl _
theorem zae {s : ByteArray} {p c n : Int} {l : List Int} (h : qq s p c n l = true) : s.size = 32 ∧ 0 ≤ p ∧ p < 65536 ∧ 1 ≤ c ∧ c ≤ 8 ∧ 0 ≤ n ∧ n ≤ 8 ∧ (l.length : Int) = c ∧ ∀ x ∈ l, 0 ≤ x ∧ x ≤ 8 := by
  unfold qq at h
  simp only [Bool.and_eq_true, decide_eq_true_eq, Bool.not_eq_true'] at h
  obtain ⟨⟨⟨⟨⟨⟨h1, h2⟩, h3⟩, h4, h5⟩, h6, h7⟩, h8⟩, h9⟩ := h
  refine ⟨by omega, h2, h3, h4, h5, h6, h7, h8, fun x hx => ?_⟩
  have hx' : ¬ za9 x = true := fun e => by
    have := List.any_eq_true.2 ⟨x, hx, e⟩
    rw [h9] at this; cases this
  unfold za9 at hx'
  simp only [Bool.or_eq_true, decide_eq_true_eq] at hx'
  omega
theorem zfg (l : List Int) (h : ∀ x ∈ l, 0 ≤ x ∧ x ≤ 8) : l = usL (fun i => (l.getD i 0).toNat) l.length ∧ ∀ i, i < l.length → (l.getD i 0).toNat ≤ 8 := by
  have at_ : ∀ i (hi : i < l.length), l.getD i 0 = l[i] := fun i hi => by rw [List.getD_eq_getElem?_getD, List.getElem?_eq_getElem hi]; rfl
  constructor
  · unfold usL
    apply List.ext_getElem
    · simp
    · intro i h1 h2
      rw [List.getElem_map, List.getElem_range]
      show l[i] = (((l.getD i 0).toNat : Nat) : Int)
      rw [at_ i h1]
      have := (h _ (List.getElem_mem h1)).1
      omega
  · intro i hi
    rw [at_ i hi]
    have := (h _ (List.getElem_mem hi)).2
    omega
theorem Spec.resLE {P : Program} {f : FuncId} {args : List AV} {S S' : StL} {r r' : AV} (hle : AVLE r r') (H : Spec P f args S r S') : Spec P f args S r' S' :=
  ⟨fun h m vs w hs hvs hrep => (H.run h m vs w hs hvs hrep).mono fun e w' ⟨v, h', m', he, hr, rest⟩ => ⟨v, h', m', he, hle _ _ _ hr, rest⟩⟩
theorem AVLE.tup {xs ys : List AV} (hl : xs.length = ys.length) (h : ArgsLE xs ys) : AVLE (.tup xs) (.tup ys) := fun hp m v H => by
  simp only [RepA] at H ⊢
  obtain ⟨vs, h1, h2, h3⟩ := H
  exact ⟨vs, h1, h2.trans hl, h hp m _ 0 h3⟩
theorem za6 {f : FuncId} {args : List AV} {w : T} {e : Int} (H : Spec Tryz.prog f args [] (.tup [.t .nilsl, .t w, .t (.int .i64 e)]) []) : Spec Tryz.prog f args [] (.tup [.t (.sl 2 []), .t w, .t (.int .i64 e)]) [] :=
  Spec.resLE (AVLE.tup (xs := [.t .nilsl, .t w, .t (.int .i64 e)]) rfl (ArgsLE.cons (AVLE.nil 2) (ArgsLE.refl _))) H
def sgF (q : Int × ByteArray) : T := .agg [.int .i64 q.1, .str q.2]
theorem zfF (s m : ByteArray) (p c n : Int) (l : List Int) (hl : l.length ≤ 1000000) (hm : m.size ≤ 900000) :
    ∃ (L : List (Int × ByteArray)) (w : List Int) (e : Int), w.length ≤ 1000000 ∧ L.length ≤ 8 ∧
      Spec Tryz.prog 18 [.t (vaT s p c n l), .t (.str m)] [] (.tup [.t (.sl 2 (L.map sgF)), .t (vaT s p c n w), .t (.int .i64 e)]) [] ∧
      Spec Tryz.prog 19 [.t (vaT s p c n l), .t (.str m)] [] (.tup [.t (.sl 2 (L.map sgF)), .t (vaT s p c n w), .t (.int .i64 e)]) [] := by
  cases hb : qq s p c n l with
  | false => exact ⟨[], l, 1, hl, by simp, za6 (zak s m p c n l hl hb), za6 (jJ s m p c n l hl hb)⟩
  | true =>
    obtain ⟨h1, h2, h3, h4, h5, h6, h7, h8, h9⟩ := zae hb
    obtain ⟨g1, g2⟩ := zfg l h9
    have hk1 : 1 ≤ l.length := by omega
    have hk8 : l.length ≤ 8 := by omega
    rw [← h8]
    by_cases h : ∃ i, i < l.length ∧ (l.getD i 0).toNat = 8
    · obtain ⟨i, hi, he⟩ := h
      have p1 := zdg s m p n l.length _ h1 h2 h3 hk1 hk8 h6 h7 g2 i hi he
      have p2 := zbt s m p n l.length _ h1 h2 h3 hk1 hk8 h6 h7 g2 i hi he
      rw [← g1] at p1 p2
      exact ⟨[], l, 25, hl, by simp, za6 p1, za6 p2⟩
    · have g3 : ∀ i, i < l.length → (l.getD i 0).toNat < 8 := fun i hi => by
        have := g2 i hi
        have : (l.getD i 0).toNat ≠ 8 := fun e => h ⟨i, hi, e⟩
        omega
      have p1 := zah s m p n l.length _ hm h1 h2 h3 hk1 hk8 h6 h7 g3
      have p2 := zcL s m p n l.length _ hm h1 h2 h3 hk1 hk8 h6 h7 g3
      rw [← g1] at p1 p2
      have eL : sgL s p (fun i => (l.getD i 0).toNat) m l.length = ((List.range l.length).map (fun (i : Nat) => ((i : Int), ktS (sdS s p (i : Int)) ((l.getD i 0).toNat) m))).map sgF := by
        unfold sgL; rw [List.map_map]; rfl
      rw [eL] at p1 p2
      exact ⟨_, _, 0, by rw [va]; omega, by rw [List.length_map, List.length_range]; exact hk8, p1, p2⟩
theorem zcA (s : ByteArray) (p c n nx : Int) (l : List Int) (hl : l.length ≤ 1000000) :
    ∃ (p' c' n' : Int) (w : List Int) (e : Int), w.length ≤ 1000000 ∧
      Spec Tryz.prog 20 [.t (vaT s p c n l), .t (.int .i64 nx)] [] (.tup [.t (vaT s p' c' n' w), .t (.int .i64 e)]) [] ∧
      Spec Tryz.prog 21 [.t (vaT s p c n l), .t (.int .i64 nx)] [] (.tup [.t (vaT s p' c' n' w), .t (.int .i64 e)]) [] := by
  by_cases hb : qq s p c n l = false ∨ p = 65535
  · exact ⟨p, c, n, l, 1, hl, kN s p c n nx l hl hb, xk s p c n nx 1 l hl (.inl ⟨hb, rfl⟩)⟩
  · have hb1 : qq s p c n l = true := by
      cases h : qq s p c n l with
      | true => rfl
      | false => exact absurd (.inl h) hb
    have hp : p ≠ 65535 := fun h => hb (.inr h)
    obtain ⟨h1, h2, h3, h4, h5, h6, h7, h8, h9⟩ := zae hb1
    obtain ⟨g1, g2⟩ := zfg l h9
    have hk1 : 1 ≤ l.length := by omega
    have hk8 : l.length ≤ 8 := by omega
    by_cases hn : n = 0
    · subst hn
      have p1 := ju s p nx l.length _ h1 h2 (by omega) hk1 hk8 g2
      rw [← g1, h8] at p1
      exact ⟨p, c, 0, l, 26, hl, p1, xk s p c 0 nx 26 l hl (.inr ⟨hb1, hp, .inl ⟨rfl, rfl⟩⟩)⟩
    · by_cases hx : nx < 0 ∨ 8 < nx
      · exact ⟨p, c, n, l, 2, hl, jB s p c n nx l hl hb1 hp hn hx, xk s p c n nx 2 l hl (.inr ⟨hb1, hp, .inr ⟨hn, hx, rfl⟩⟩)⟩
      · have p1 := zbv s p n nx l.length _ h1 h2 (by omega) hk1 hk8 (by omega) h7 (by omega) (by omega) g2
        rw [← g1, h8] at p1
        exact ⟨p + 1, n, nx, _, 0, by rw [List.length_replicate]; omega, p1, zaD s p c n nx l hl hb1 h2 (by omega) (by omega) h7 (by omega) (by omega)⟩
def sdW (v : Int) : ByteArray := sha (⟨#[115, 101, 101, 100]⟩ ++ vE [T.int .u8 (IntKind.u8.wrap v)])
set_option maxHeartbeats 2000000 in
theorem zes (d : Dc) (hd : d.l.length ≤ 1000) : Spec Tryz.prog 34 [.ref (.par 0) 0 0 0] [(.par 0, d.row)] (.t (.str (sdW (d.next 6).1))) [(.par 0, (d.next 6).2.row)] := by
  have hN := xJ d 6 (by decide) hd
  have hS := xv (⟨#[115, 101, 101, 100]⟩ ++ vE [T.int .u8 (IntKind.u8.wrap (d.next 6).1)]) (by rw [ByteArray.size_append, xP]; show 4 + 1 ≤ 40000000; decide)
  have hz : (vE [T.int .u8 (IntKind.u8.wrap (d.next 6).1)]).size = 1 := xP _
  have z0 : (⟨#[115, 101, 101, 100]⟩ : ByteArray).size = 4 := rfl
  unfold sdW
  generalize sha (⟨#[115, 101, 101, 100]⟩ ++ vE [T.int .u8 (IntKind.u8.wrap (d.next 6).1)]) = Y at *
  generalize d.next 6 = q at *
  obtain ⟨v, d1⟩ := q
  simp only at hN hS hz ⊢
  unfold Dc.row at hN ⊢
  refine wI Tryz.func34 ?_
  repeat' (first | refine wC ?_ | refine wK ?_ | ((with_reducible refine zF ?_); refine zz rfl rfl rfl rfl rfl rfl ?_ ?_) | ((with_reducible refine zN ?_); refine zw rfl rfl rfl rfl rfl rfl ?_ ?_) | ((with_reducible refine zg ?_); first | refine wN (.t (.int .i64 v)) [(.par 0, .par 0)] hN ?_ | refine wL hS ?_) | fail)
  all_goals try exact vC _
  all_goals try omega
  exact zo (zf rfl rfl rfl) (zv ⟨rfl, trivial⟩)
set_option maxHeartbeats 4000000 in
theorem zek (s : ByteArray) (c n : Int) (hs : s.size = 32) (h1 : 1 ≤ c) (h2 : c ≤ 8) (h3 : 0 ≤ n) (h4 : n ≤ 8) : Spec Tryz.prog 11 [.t (.str s), .t (.int .i64 c), .t (.int .i64 n)] [] (.tup [.agg [.t (.str s), .t (.int .i64 0), .t (.int .i64 c), .t (.int .i64 n), .row (.res 0)], .t (.int .i64 0)]) [(.res 0, .slt 3 1 (List.replicate c.toNat (T.int .i64 0)))] := by
  refine wIG Tryz.func11 ?_
  repeat' (first | refine wC ?_ | (exfalso; omega) | refine vw (r := .agg [.t (.str s), .t (.int .i64 0), .t (.int .i64 c), .t (.int .i64 n), .row (.loc 33)]) rfl rfl rfl rfl rfl rfl rfl ?_ | refine wK ?_ | ((with_reducible refine yG ?_); refine yo (zT := .int _ _) rfl rfl rfl rfl rfl rfl rfl rfl rfl ?_ ?_ ?_ ?_ ?_) | refine zi rfl ?_ ?_ <;> intro hc | refine zR rfl ?_ ?_ <;> intro hc | refine yi rfl ?_ ?_ <;> intro hc)
  · omega
  · omega
  · omega
  · omega
  refine zx ((za [6, 7] [.loc 6, .loc 33] rfl rfl).trans (zk (.loc 33) (.res 0) rfl rfl rfl rfl)) ?_
  refine zQ (zo ?_ (zv ⟨rfl, trivial⟩)); exact zL rfl rfl rfl inferInstance rfl inferInstance rfl (AVLE.refl _) (AVLE.refl _)
def kvS (d : Dc) : ByteArray := sdW (d.next 6).1
def kvC (d : Dc) : Int := 1 + ((d.next 6).2.next 2).1
def kvN (d : Dc) : Int := 1 + (((d.next 6).2.next 2).2.next 2).1
def kvD (d : Dc) : Dc := (((d.next 6).2.next 2).2.next 2).2
theorem zdN (d : Dc) : (kvS d).size = 32 := xc _
theorem zhd (d : Dc) : 1 ≤ kvC d ∧ kvC d ≤ 2 := by have := (d.next 6).2.next_lt 2 (by omega); unfold kvC; omega
theorem zhf (d : Dc) : 1 ≤ kvN d ∧ kvN d ≤ 2 := by have := ((d.next 6).2.next 2).2.next_lt 2 (by omega); unfold kvN; omega
theorem zi1 (d : Dc) : (kvD d).l = d.l := by unfold kvD; rw [Dc.next_l, Dc.next_l, Dc.next_l]
set_option maxHeartbeats 8000000 in
theorem zda (d : Dc) (hd : d.l.length ≤ 1000) : Spec Tryz.prog 14 [.ref (.par 0) 0 0 0] [(.par 0, d.row)] (.agg [.t (.str (kvS d)), .t (.int .i64 0), .t (.int .i64 (kvC d)), .t (.int .i64 (kvN d)), .row (.res 0)]) [(.par 0, (kvD d).row), (.res 0, .slt 3 1 (List.replicate (kvC d).toNat (T.int .i64 0)))] := by
  have h1 := zes d hd
  have h2 := xJ (d.next 6).2 2 (by decide) (by rw [Dc.next_l]; exact hd)
  have h3 := xJ ((d.next 6).2.next 2).2 2 (by decide) (by rw [Dc.next_l, Dc.next_l]; exact hd)
  have hc := zhd d
  have hn := zhf d
  have w1 : IntKind.i64.wrap (1 + ((d.next 6).2.next 2).1) = kvC d := by unfold kvC at hc ⊢; exact zj (by omega) (by omega)
  have w2 : IntKind.i64.wrap (1 + (((d.next 6).2.next 2).2.next 2).1) = kvN d := by unfold kvN at hn ⊢; exact zj (by omega) (by omega)
  have h4 := zek (kvS d) (kvC d) (kvN d) (zdN d) (by omega) (by omega) (by omega) (by omega)
  rw [show sdW (d.next 6).1 = kvS d from rfl] at h1
  rw [show (((d.next 6).2.next 2).2.next 2).2 = kvD d from rfl] at h3
  rw [← w1, ← w2] at h4 ⊢
  clear hc hn w1 w2
  generalize kvS d = S at *
  generalize kvD d = D at *
  generalize d.next 6 = q1 at *
  obtain ⟨v1, d1⟩ := q1
  simp only at h1 h2 h3 h4 ⊢
  generalize d1.next 2 = q2 at *
  obtain ⟨v2, d2⟩ := q2
  simp only at h1 h2 h3 h4 ⊢
  generalize (d2.next 2).1 = v3 at *
  unfold Dc.row at h1 h2 h3 ⊢
  refine wIG Tryz.func14 ?_
  repeat' (first | refine wC ?_ | refine wK ?_ | ((with_reducible refine zg ?_); first | refine wN (.t (.str S)) [(.par 0, .par 0)] h1 ?_ | refine wN (.t (.int .i64 v2)) [(.par 0, .par 0)] h2 ?_ | refine wN (.t (.int .i64 v3)) [(.par 0, .par 0)] h3 ?_ | refine wN (.tup [.agg [.t (.str S), .t (.int .i64 0), .t (.int .i64 (IntKind.i64.wrap (1 + v2))), .t (.int .i64 (IntKind.i64.wrap (1 + v3))), .row (.loc 900)], .t (.int .i64 0)]) [(.res 0, .loc 900)] h4 ?_) | fail)
  refine zx ((za [2] [.par 0, .loc 2, .loc 900] rfl rfl).trans (zk (.loc 900) (.res 0) rfl rfl rfl rfl)) ?_
  refine zQ (zo ?_ (zv ⟨rfl, rfl, trivial⟩)); exact xL rfl rfl rfl inferInstance rfl inferInstance rfl (AVLE.refl _)
theorem zhE (s : ByteArray) (c n : Int) : ∃ (s' : ByteArray) (p' c' n' : Int) (U : T), nwT s c n = .agg [.str s', .int .i64 p', .int .i64 c', .int .i64 n', U] ∧ Spec Tryz.prog 12 [.t (.agg [.str s', .int .i64 p', .int .i64 c', .int .i64 n', U]), .t (.agg [.str s', .int .i64 p', .int .i64 c', .int .i64 n', U])] [] (.t (.bool true)) [] := by
  unfold nwT
  split
  · rename_i h
    have := of_decide_eq_true h
    exact ⟨_, _, _, _, _, rfl, vN s 0 c n _ (by rw [List.length_replicate]; omega)⟩
  · exact ⟨_, _, _, _, _, rfl, zbs⟩
theorem zi7 : Tryz.prog.stoodInHeld 47 = false := by kernel_rfl
theorem zi3 : Tryz.prog.eqGuardType Tryz.prog.depth 47 = false := by kernel_rfl
theorem zjk : ziF Tryz.prog 47 = true := by unfold ziF; rw [zi7, zi3]; rfl
theorem zhg (a a' : Int) (b b' : ByteArray) : zcq Tryz.prog [{ name := "Index", type := 3, offset := 0, embedded := false, tag := "", pkgPath := "", byteOffset := 0 }, { name := "Raw", type := 9, offset := 1, embedded := false, tag := "", pkgPath := "", byteOffset := 8 }] 0 [.int .i64 a, .str b] [.int .i64 a', .str b'] :=
  ⟨by decide, rfl, Tryz.underlying3, Tryz.underlying3, by decide, rfl, Tryz.underlying9, Tryz.underlying9, trivial⟩
theorem zi5 (a : Int) (b : ByteArray) : zdv [.int .i64 a, .str b] [.int .i64 a, .str b] = true := zb2 (zhg a a b b)
def vtF (q : ByteArray × Int × Int × Int × List Int) : T := vaT q.1 q.2.1 q.2.2.1 q.2.2.2.1 q.2.2.2.2
set_option maxHeartbeats 4000000 in
theorem zb8 (s : ByteArray) (p n : Int) (l : List Int) (k : Nat) (hs : s.size ≤ 900000) (hk : k ≤ 8) : Spec Tryz.prog 24 [.t (vaT s p (k : Int) n l)] [] (.t (.sl 1 ((sdL s p k).map .str))) [] := by
  have hS := vz s p (k : Int) n l p k hs hk
  refine wIG Tryz.func24 ?_
  repeat' (first | refine wC ?_ | refine wK ?_ | ((with_reducible refine zg ?_); refine wN (.row (.loc 900)) [(.res 0, .loc 900)] hS ?_) | fail)
  refine zx (zh (id := .loc 900) rfl rfl rfl) ?_
  exact zQ (zo (yl rfl (AVLE.refl _)) (by simp))
def qF (l : List ByteArray) : T := .sl 1 (l.map T.str)
def pF (q : Int × Int) : T := .agg [.int .i64 q.1, .int .i64 q.2]
set_option maxRecDepth 8000 in
set_option maxHeartbeats 16000000 in
theorem jH (t : List Int) (s0 : ByteArray) (p0 c0 n0 : Int) (l0 : List Int) (s : ByteArray) (c nx g i : Int) (m : ByteArray) : Spec Tryz.prog 3 [.t (.sl 1 (t.map (T.int .i64))), .t (vaT s0 p0 c0 n0 l0), .t (.str s), .t (.int .i64 c), .t (.int .i64 nx), .t (.int .i64 g), .t (.int .i64 i), .t (.str m)] [] (.t (.bool true)) [] := by
  have hA := zbR
  have hLi := zeO t
  by_cases hG : ¬ ((t.length : Int) ≤ 500 ∧ (s0.size : Int) ≤ 100 ∧ (l0.length : Int) ≤ 12 ∧ (s.size : Int) ≤ 100 ∧ (m.size : Int) ≤ 200)
  · generalize hq : decide ((t.length : Int) ≤ 500) = B at *
    have hB : B = true → (t.length : Int) ≤ 500 := fun h => by rw [h] at hq; exact of_decide_eq_true hq
    clear hq
    cases B
    · refine wI Tryz.func3 ?_
      repeat' (first | refine wC ?_ | refine wK ?_ | ((with_reducible refine zg ?_); first | refine wL hLi ?_ | refine wL hA ?_) | fail)
      all_goals exact zo (zf rfl rfl rfl) (by simp)
    · have hB1 := hB rfl
      refine wI Tryz.func3 ?_
      repeat' (first | refine wC ?_ | (exfalso; omega) | refine wK ?_ | ((with_reducible refine zg ?_); first | refine wL hLi ?_ | refine wL hA ?_) | refine zi rfl ?_ ?_ <;> intro hc | refine yi rfl ?_ ?_ <;> intro hc)
      all_goals exact zo (zf rfl rfl rfl) (by simp)
  rw [Decidable.not_not] at hG
  obtain ⟨g1, g2, g3, g4, g5⟩ := hG
  rw [decide_eq_true g1] at hLi
  have hS1 := jZ s g i (by omega)
  have hS2 := xK s g i (by omega)
  have hs3 := qH 3 (by decide) (by decide)
  have hs1 := qH 1 (by decide) (by decide)
  have hM1 := zaR c 11 (by decide)
  have hM2 := zaR nx 11 (by decide)
  generalize sdS s g i = X0 at *
  obtain ⟨mc, hmc⟩ : ∃ x, x = zfI c 11 := ⟨_, rfl⟩
  obtain ⟨mn, hmn⟩ : ∃ x, x = zfI nx 11 := ⟨_, rfl⟩
  have bmn := zfe nx 11 (by decide)
  have z1 := zdI 1
  rw [← hmc] at hM1
  rw [← hmn] at hM2 bmn
  clear hmc hmn
  generalize sdN 3 = S3 at *
  generalize sdN 1 = S1 at *
  have hR := zfB t
  have hdl : (Dc.mk t 0).l.length ≤ 1000 := by show t.length ≤ 1000; omega
  generalize Dc.mk t 0 = d at *
  refine wI Tryz.func3 ?_
  repeat' (first | refine wC ?_ | (exfalso; omega) | exact absurd (rfl : X0 = X0) ‹_› | refine wK ?_ | ((with_reducible refine zg ?_); first | refine wL hLi ?_ | refine wL hS1 ?_ | refine wL hS2 ?_ | refine wL hM1 ?_ | refine wL hM2 ?_) | ((with_reducible refine vc ?_); refine yU (r := (.t (.agg _))) rfl rfl rfl rfl rfl rfl rfl ?_) | refine zi rfl ?_ ?_ <;> intro hc | refine zR rfl ?_ ?_ <;> intro hc | refine yi rfl ?_ ?_ <;> intro hc)
  refine zb (zh (id := .loc 87) rfl rfl rfl) ?_
  refine zb (za [0, 2, 4, 7, 9, 87, 88, 89] [.loc 9] rfl rfl) ?_
  obtain ⟨PL, hPL⟩ : ∃ PL : List (Int × Int), PL = [(c, nx), (IntKind.i64.wrap (mc - 1), IntKind.i64.wrap (mn - 1))] := ⟨_, rfl⟩
  refine ze (fun q env st => ∃ (j : Nat), j ≤ 2 ∧ q = 2 - j ∧ env = EnvL.get [(0, .t (.sl 1 (t.map (T.int .i64)))), (2, .t (.str s)), (4, .t (.int .i64 nx)), (7, .t (.str m)), (9, .ref (.loc 9) 0 0 0), (87, .t (.sl 2 (PL.map pF))), (88, .t (.int .i64 2)), (89, .t (.int .i64 (j : Int)))] ∧ st = StO.get [(.loc 9, some (.var 24 [.t (.str s0), .t (.int .i64 p0), .t (.int .i64 c0), .t (.int .i64 n0), .t (.sl 1 (l0.map (T.int .i64)))]))])
    ?_ (n := 2) ⟨0, by omega, rfl, by rw [hPL]; rfl, rfl⟩
  have hPl : PL.length = 2 := by rw [hPL]; rfl
  clear hPL
  rintro q env st ⟨j, hj, rfl, rfl, rfl⟩
  have wj : IntKind.i64.wrap ((j : Int) + 1) = ((j + 1 : Nat) : Int) := by rw [zj (by omega) (by omega)]; omega
  by_cases hj2 : j < 2
  · clear hLi hS1 hS2 hM1 hM2 hs1 hR hA
    repeat' (first | refine wC ?_ | (exfalso; omega) | refine wK ?_ | ((with_reducible refine zd ?_); refine zc rfl rfl rfl rfl rfl rfl ?_ ?_ ?_) | ((with_reducible refine zg ?_); refine wL hs3 ?_) | refine zi rfl ?_ ?_ <;> intro hc)
    all_goals try omega
    generalize (PL.getD (j : Int).toNat default).1 = a
    generalize (PL.getD (j : Int).toNat default).2 = b
    refine zb (zh (id := .loc 95) rfl rfl rfl) ?_
    refine zb (yh (id := .loc 18) rfl (RowLE.arr (es := [a, b].map (T.int .i64)) rfl (by
      intro x hx
      simp only [List.map_cons, List.map_nil, List.mem_cons, List.not_mem_nil, or_false] at hx
      rcases hx with rfl | rfl <;> rfl)) rfl) ?_
    refine zb (za [0, 2, 4, 7, 9, 87, 88, 89, 18, 95, 96, 97] [.loc 9, .loc 18] rfl rfl) ?_
    obtain ⟨AB, hAB⟩ : ∃ AB : List Int, AB = [a, b] := ⟨_, rfl⟩
    rw [← hAB]
    have hABl : AB.length = 2 := by rw [hAB]; rfl
    clear hAB
    obtain ⟨SL, hSL⟩ : ∃ SL : List ByteArray, SL = [s, S3] := ⟨_, rfl⟩
    refine ze (fun q env st => ∃ (i2 : Nat), i2 ≤ 2 ∧ q = 2 - i2 ∧ env = EnvL.get [(0, .t (.sl 1 (t.map (T.int .i64)))), (2, .t (.str s)), (4, .t (.int .i64 nx)), (7, .t (.str m)), (9, .ref (.loc 9) 0 0 0), (87, .t (.sl 2 (PL.map pF))), (88, .t (.int .i64 2)), (89, .t (.int .i64 (j : Int))), (18, .ref (.loc 18) 0 0 0), (95, .t (.sl 1 (SL.map T.str))), (96, .t (.int .i64 2)), (97, .t (.int .i64 (i2 : Int)))] ∧ st = StO.get [(.loc 9, some (.var 24 [.t (.str s0), .t (.int .i64 p0), .t (.int .i64 c0), .t (.int .i64 n0), .t (.sl 1 (l0.map (T.int .i64)))])), (.loc 18, some (.arr 28 1 (AB.map (T.int .i64))))])
      ?_ (n := 2) ⟨0, by omega, rfl, by rw [hSL]; rfl, rfl⟩
    have hSl : SL.length = 2 := by rw [hSL]; rfl
    clear hSL hs3
    rintro q env st ⟨i2, hi2, rfl, rfl, rfl⟩
    have wi2 : IntKind.i64.wrap ((i2 : Int) + 1) = ((i2 + 1 : Nat) : Int) := by rw [zj (by omega) (by omega)]; omega
    by_cases hi3 : i2 < 2
    · obtain ⟨X, hX⟩ : ∃ X, X = SL.getD (i2 : Int).toNat default := ⟨_, rfl⟩
      have hN1 := zeY X (AB.getD 0 default) (AB.getD 1 default)
      have hN2 := zeA X (AB.getD 0 default) (AB.getD 1 default)
      obtain ⟨s', p', c', n', U, hw, hSm⟩ := zhE X (AB.getD 0 default) (AB.getD 1 default)
      rw [hw] at hN1 hN2
      generalize nwE X (AB.getD 0 default) (AB.getD 1 default) = e at *
      rw [hX] at hN1 hN2
      clear hX hw
      repeat' (first | refine wC ?_ | (exfalso; omega) | refine wK ?_ | ((with_reducible refine zd ?_); first | refine zc rfl rfl rfl rfl rfl rfl ?_ ?_ ?_ | refine zq rfl rfl rfl rfl rfl rfl ?_ ?_ ?_) | ((with_reducible refine zg ?_); first | refine wL hN1 ?_ | refine wL hN2 ?_ | refine wL hSm ?_) | ((with_reducible refine xu ?_); refine yO rfl rfl rfl rfl rfl rfl rfl rfl ?_ ?_) | refine zi rfl ?_ ?_ <;> intro hc | refine zR rfl ?_ ?_ <;> intro hc)
      all_goals try omega
      all_goals try (rw [hABl]; decide)
      all_goals exact zr (n' := 2 - (i2 + 1)) (by omega) (za [0, 2, 4, 7, 9, 87, 88, 89, 18, 95, 96, 97] [.loc 9, .loc 18] rfl rfl) ⟨i2 + 1, by omega, rfl, by rw [wi2]; rfl, rfl⟩
    · obtain rfl : i2 = 2 := by omega
      repeat' (first | refine wC ?_ | refine wK ?_ | fail)
      all_goals try omega
      all_goals exact zr (n' := 2 - (j + 1)) (by omega) (za [0, 2, 4, 7, 9, 87, 88, 89] [.loc 9] rfl rfl) ⟨j + 1, by omega, rfl, by rw [wj]; rfl, rfl⟩
  · obtain rfl : j = 2 := by omega
    have hV := zda d hdl
    have bC := zhd d
    have bN := zhf d
    have zS := zdN d
    have hdl1 : (kvD d).l.length ≤ 1000 := by rw [zi1]; exact hdl
    rw [show List.replicate (kvC d).toNat (T.int .i64 0) = (List.replicate (kvC d).toNat (0 : Int)).map (T.int .i64) from by rw [List.map_replicate]] at hV
    have hUl : (List.replicate (kvC d).toNat (0 : Int)).length = (kvC d).toNat := List.length_replicate
    generalize List.replicate (kvC d).toNat (0 : Int) = UL at *
    generalize kvS d = S at *
    generalize kvC d = C at *
    generalize kvN d = N at *
    generalize kvD d = d1 at *
    have hX1 := xJ d1 4 (by decide) hdl1
    have b4 := d1.next_lt 4 (by decide)
    have hdl2 : (d1.next 4).2.l.length ≤ 1000 := by rw [Dc.next_l]; exact hdl1
    generalize d1.next 4 = q1 at *
    obtain ⟨v4, d2⟩ := q1
    simp only at hX1 b4 hdl2
    have hX2 := xJ d2 3 (by decide) hdl2
    have b3 := d2.next_lt 3 (by decide)
    have hdl3 : (d2.next 3).2.l.length ≤ 1000 := by rw [Dc.next_l]; exact hdl2
    generalize d2.next 3 = q2 at *
    obtain ⟨v3, d3⟩ := q2
    simp only at hX2 b3 hdl3
    have hX3 := xJ d3 9 (by decide) hdl3
    have b9 := d3.next_lt 9 (by decide)
    have hdl4 : (d3.next 9).2.l.length ≤ 1000 := by rw [Dc.next_l]; exact hdl3
    generalize d3.next 9 = q3 at *
    obtain ⟨v9, d4⟩ := q3
    simp only at hX3 b9 hdl4
    have hX4 := xJ d4 11 (by decide) hdl4
    have b11 := d4.next_lt 11 (by decide)
    generalize d4.next 11 = q4 at *
    obtain ⟨v11, d5⟩ := q4
    simp only at hX4 b11
    clear hLi hS1 hS2 hM1 hs3
    unfold Dc.row at hR hV hX1 hX2 hX3 hX4
    repeat' (first | refine zb (x := Code.seq (Code.region 22 _ _) _) (zh (id := .loc 901) rfl rfl rfl) ?_ | refine wC ?_ | refine zW (es := [0, 1, 7, 65535].map (T.int .i64)) rfl rfl rfl rfl rfl rfl ?_ | refine zW (es := [IntKind.i64.wrap (v11 - 1)].map (T.int .i64)) rfl rfl rfl rfl rfl rfl ?_ | refine wK ?_ | ((with_reducible refine yY ?_); refine yP rfl rfl rfl rfl rfl rfl ?_ ?_ ?_) | ((with_reducible refine zd ?_); first | refine zc rfl rfl rfl rfl rfl rfl ?_ ?_ ?_ | refine zO rfl rfl rfl rfl rfl rfl rfl ?_ ?_ ?_) | ((with_reducible refine zg ?_); first | refine wN (.ref (.loc 905) 0 0 0) [(.res 0, .loc 905)] hR ?_ | refine wN (.agg [.t (.str S), .t (.int .i64 0), .t (.int .i64 C), .t (.int .i64 N), .row (.loc 901)]) [(.par 0, .loc 905), (.res 0, .loc 901)] hV ?_ | refine wN (.t (.int .i64 v4)) [(.par 0, .loc 905)] hX1 ?_ | refine wN (.t (.int .i64 v3)) [(.par 0, .loc 905)] hX2 ?_ | refine wN (.t (.int .i64 v9)) [(.par 0, .loc 905)] hX3 ?_ | refine wN (.t (.int .i64 v11)) [(.par 0, .loc 905)] hX4 ?_ | refine wL hs1 ?_) | fail)
    all_goals try omega
    all_goals try (rw [List.length_map]; omega)
    all_goals try (simp only [List.length_cons, List.length_nil]; omega)
    all_goals try rfl
    have hset : (UL.map (T.int .i64)).set (Int.toNat 0) (T.int .i64 v9) = (UL.set 0 v9).map (T.int .i64) := by rw [List.map_set]; rfl
    have hP : 0 ≤ [(0 : Int), 1, 7, 65535].getD v4.toNat default ∧ [(0 : Int), 1, 7, 65535].getD v4.toNat default ≤ 65535 := by
      have : v4 = 0 ∨ v4 = 1 ∨ v4 = 2 ∨ v4 = 3 := by omega
      rcases this with rfl | rfl | rfl | rfl <;> decide
    have hU2 : (UL.set 0 v9).length = C.toNat := by rw [List.length_set]; exact hUl
    rw [hset]
    clear hset hR hV hX1 hX2 hX3 hX4 hs1
    generalize UL.set 0 v9 = U2 at *
    generalize [(0 : Int), 1, 7, 65535].getD v4.toNat default = P at *
    generalize IntKind.i64.wrap (v11 - 1) = W at *
    refine zb (zh (id := .loc 156) rfl rfl rfl) ?_
    refine zb (za [4, 7, 26, 156, 157, 158] [.loc 26] rfl rfl) ?_
    obtain ⟨VL, hVL⟩ : ∃ VL : List (ByteArray × Int × Int × Int × List Int), VL = [(S, P, C, v3, U2), (s0, p0, c0, n0, l0), (S1, 0, 1, 0, [W])] := ⟨_, rfl⟩
    have hVl : VL.length = 3 := by rw [hVL]; rfl
    have hVb : ∀ x ∈ VL, x.2.2.2.2.length ≤ 1000000 := by
      intro x hx
      rw [hVL] at hx
      simp only [List.mem_cons, List.not_mem_nil, or_false] at hx
      rcases hx with rfl | rfl | rfl
      · show U2.length ≤ _; omega
      · show l0.length ≤ _; omega
      · show 1 ≤ _; omega
    refine ze (fun q env st => ∃ (j : Nat), j ≤ 3 ∧ q = 3 - j ∧ env = EnvL.get [(4, .t (.int .i64 nx)), (7, .t (.str m)), (26, .ref (.loc 26) 0 0 0), (156, .t (.sl 5 (VL.map vtF))), (157, .t (.int .i64 3)), (158, .t (.int .i64 (j : Int)))] ∧ st = StO.get [(.loc 26, some (.var 24 [.t (.str S), .t (.int .i64 P), .t (.int .i64 C), .t (.int .i64 v3), .t (.sl 1 (U2.map (T.int .i64)))]))])
      ?_ (n := 3) ⟨0, by omega, rfl, by rw [hVL]; rfl, rfl⟩
    clear hVL
    rintro q env st ⟨j, hj, rfl, rfl, rfl⟩
    have wj : IntKind.i64.wrap ((j : Int) + 1) = ((j + 1 : Nat) : Int) := by rw [zj (by omega) (by omega)]; omega
    by_cases hj3 : j < 3
    · have hxl : (VL.getD (j : Int).toNat default).2.2.2.2.length ≤ 1000000 := by
        refine hVb _ ?_
        rw [Int.toNat_natCast, List.getD_eq_getElem?_getD, List.getElem?_eq_getElem (by omega)]; exact List.getElem_mem (by omega)
      have a1 := yQ (VL.getD (j : Int).toNat default).1 (VL.getD (j : Int).toNat default).2.1 (VL.getD (j : Int).toNat default).2.2.1 (VL.getD (j : Int).toNat default).2.2.2.1 _ hxl
      have a2 := xW (VL.getD (j : Int).toNat default).1 (VL.getD (j : Int).toNat default).2.1 (VL.getD (j : Int).toNat default).2.2.1 (VL.getD (j : Int).toNat default).2.2.2.1 _ hxl
      obtain ⟨L, w, e, hw, hL8, a3, a4⟩ := zfF (VL.getD (j : Int).toNat default).1 m (VL.getD (j : Int).toNat default).2.1 (VL.getD (j : Int).toNat default).2.2.1 (VL.getD (j : Int).toNat default).2.2.2.1 _ hxl (by omega)
      obtain ⟨p', c', n', w', e', hw', a5, a6⟩ := zcA (VL.getD (j : Int).toNat default).1 (VL.getD (j : Int).toNat default).2.1 (VL.getD (j : Int).toNat default).2.2.1 (VL.getD (j : Int).toNat default).2.2.2.1 (IntKind.i64.wrap (mn - 1)) _ hxl
      have a7 := vN (VL.getD (j : Int).toNat default).1 (VL.getD (j : Int).toNat default).2.1 (VL.getD (j : Int).toNat default).2.2.1 (VL.getD (j : Int).toNat default).2.2.2.1 w hw
      have a8 := vN (VL.getD (j : Int).toNat default).1 p' c' n' w' hw'
      generalize qq (VL.getD (j : Int).toNat default).1 (VL.getD (j : Int).toNat default).2.1 (VL.getD (j : Int).toNat default).2.2.1 (VL.getD (j : Int).toNat default).2.2.2.1 (VL.getD (j : Int).toNat default).2.2.2.2 = B at *
      clear hA hVb
      unfold vaT at a1 a2 a3 a4 a5 a6 a7 a8
      repeat' (first | refine wC ?_ | (exfalso; omega) | exact absurd (rfl : B = B) ‹_› | refine wK ?_ | ((with_reducible refine zd ?_); refine zc rfl rfl rfl rfl rfl rfl ?_ ?_ ?_) | ((with_reducible refine zg ?_); first | refine wL a1 ?_ | refine wL a2 ?_ | refine wL a3 ?_ | refine wL a4 ?_ | refine wL a7 ?_) | refine zi rfl ?_ ?_ <;> intro hc | refine zR rfl ?_ ?_ <;> intro hc | refine yi rfl ?_ ?_ <;> intro hc | refine kR rfl ?_ ?_ <;> intro hc | refine vZ rfl ?_ ?_ <;> intro hc)
      all_goals try omega
      all_goals try exact zr (n' := 3 - (j + 1)) (by omega) (za [4, 7, 26, 156, 157, 158] [.loc 26] rfl rfl) ⟨j + 1, by omega, rfl, by rw [wj]; rfl, rfl⟩
      all_goals (
        refine zb (za [4, 7, 26, 28, 29, 30, 33, 156, 157, 158, 209, 210, 211] [.loc 26, .loc 28, .loc 30, .loc 33] rfl rfl) ?_
        clear a1 a2 a3 a4 a7
        refine ze (fun q env st => ∃ (k : Nat), k ≤ L.length ∧ q = L.length - k ∧ env = EnvL.get [(4, .t (.int .i64 nx)), (7, .t (.str m)), (26, .ref (.loc 26) 0 0 0), (28, .ref (.loc 28) 0 0 0), (29, .t (.sl 2 (L.map sgF))), (30, .ref (.loc 30) 0 0 0), (33, .ref (.loc 33) 0 0 0), (156, .t (.sl 5 (VL.map vtF))), (157, .t (.int .i64 3)), (158, .t (.int .i64 (j : Int))), (209, .t (.sl 2 (L.map sgF))), (210, .t (.int .i64 (L.length : Int))), (211, .t (.int .i64 (k : Int)))] ∧ st = StO.get [(.loc 26, some (.var 24 [.t (.str S), .t (.int .i64 P), .t (.int .i64 C), .t (.int .i64 v3), .t (.sl 1 (U2.map (T.int .i64)))])), (.loc 28, some (.var 24 [.t (.str (VL.getD (j : Int).toNat default).1), .t (.int .i64 (VL.getD (j : Int).toNat default).2.1), .t (.int .i64 (VL.getD (j : Int).toNat default).2.2.1), .t (.int .i64 (VL.getD (j : Int).toNat default).2.2.2.1), .t (.sl 1 ((VL.getD (j : Int).toNat default).2.2.2.2.map (T.int .i64)))])), (.loc 30, some (.var 24 [.t (.str (VL.getD (j : Int).toNat default).1), .t (.int .i64 (VL.getD (j : Int).toNat default).2.1), .t (.int .i64 (VL.getD (j : Int).toNat default).2.2.1), .t (.int .i64 (VL.getD (j : Int).toNat default).2.2.2.1), .t (.sl 1 (w.map (T.int .i64)))])), (.loc 33, some (.var 24 [.t (.str (VL.getD (j : Int).toNat default).1), .t (.int .i64 (VL.getD (j : Int).toNat default).2.1), .t (.int .i64 (VL.getD (j : Int).toNat default).2.2.1), .t (.int .i64 (VL.getD (j : Int).toNat default).2.2.2.1), .t (.sl 1 (w.map (T.int .i64)))]))])
          ?_ (n := L.length) ⟨0, by omega, rfl, rfl, rfl⟩
        rintro q env st ⟨k, hk, rfl, rfl, rfl⟩
        have wk : IntKind.i64.wrap ((k : Int) + 1) = ((k + 1 : Nat) : Int) := by rw [zj (by omega) (by omega)]; omega
        by_cases hkL : k < L.length
        · repeat' (first | refine wC ?_ | (exfalso; omega) | refine zgz (zhg _ _ _ _) zjk (zi5 _ _) rfl rfl rfl rfl rfl rfl ?_ | refine wK ?_ | ((with_reducible refine zd ?_); refine zc rfl rfl rfl rfl rfl rfl ?_ ?_ ?_) | refine zi rfl ?_ ?_ <;> intro hc)
          all_goals try omega
          all_goals exact zr (n' := L.length - (k + 1)) (by omega) (za [4, 7, 26, 28, 29, 30, 33, 156, 157, 158, 209, 210, 211] [.loc 26, .loc 28, .loc 30, .loc 33] rfl rfl) ⟨k + 1, by omega, rfl, by rw [wk]; rfl, rfl⟩
        · obtain rfl : k = L.length := by omega
          repeat' (first | refine wC ?_ | (exfalso; omega) | refine wK ?_ | ((with_reducible refine zg ?_); first | refine wL hM2 ?_ | refine wL a5 ?_ | refine wL a6 ?_ | refine wL a8 ?_) | refine zi rfl ?_ ?_ <;> intro hc | refine zR rfl ?_ ?_ <;> intro hc)
          all_goals try omega
          all_goals exact zr (n' := 3 - (j + 1)) (by omega) (za [4, 7, 26, 156, 157, 158] [.loc 26] rfl rfl) ⟨j + 1, by omega, rfl, by rw [wj]; rfl, rfl⟩)
    · obtain rfl : j = 3 := by omega
      obtain ⟨kk, hkk⟩ : ∃ kk : Nat, C = (kk : Int) := ⟨C.toNat, by omega⟩
      obtain ⟨mm, hmm⟩ : ∃ mm : Nat, v3 = (mm : Int) := ⟨v3.toNat, by omega⟩
      subst hkk
      subst hmm
      have c1 := zbF S P (mm : Int) U2 kk (by omega) (by omega)
      have c2 := ze2 S P (kk : Int) U2 mm (by omega) (by omega) hP.1 (by omega)
      have c3 := zb8 S P (mm : Int) U2 kk (by omega) (by omega)
      have c4 := zcB S P (mm : Int) U2 kk (by omega) (by omega)
      have c5 := zdb S P (kk : Int) U2 mm (by omega) (by omega) hP.1 (by omega)
      have c6 := zai S P (mm : Int) U2 kk (by omega) (by omega)
      rw [show (List.range kk).map (kyS S P) = mpL (kyS S P) kk from rfl] at c1
      rw [show (List.range mm).map (nxS S (P + 1)) = mpL (nxS S (P + 1)) mm from rfl] at c2
      rw [show sdL S P kk = mpL (fun i => sdS S P (i : Int)) kk from rfl] at c3
      have k1 : (mpL (kyS S P) kk).length ≤ 1000000 := by rw [qu]; omega
      have k2 : (mpL (nxS S (P + 1)) mm).length ≤ 1000000 := by rw [qu]; omega
      have k3 : (mpL (fun i => sdS S P (i : Int)) kk).length ≤ 1000000 := by rw [qu]; omega
      generalize mpL (kyS S P) kk = KL at *
      generalize mpL (nxS S (P + 1)) mm = NL at *
      generalize mpL (fun i => sdS S P (i : Int)) kk = DL at *
      unfold vaT at c1 c2 c3 c4 c5 c6
      repeat' (first | refine wC ?_ | refine zW (es := [KL, NL, DL].map qF) rfl rfl rfl rfl rfl rfl ?_ | refine wK ?_ | ((with_reducible refine zg ?_); first | refine wL c1 ?_ | refine wL c2 ?_ | refine wL c3 ?_) | fail)
      obtain ⟨LL, hLL⟩ : ∃ LL : List (List ByteArray), LL = [KL, NL, DL] := ⟨_, rfl⟩
      have hLl : LL.length = 3 := by rw [hLL]; rfl
      have hLb : ∀ x ∈ LL, x.length ≤ 1000000 := by
        intro x hx
        rw [hLL] at hx
        simp only [List.mem_cons, List.not_mem_nil, or_false] at hx
        rcases hx with rfl | rfl | rfl
        · exact k1
        · exact k2
        · exact k3
      refine zb (za [26, 255, 256, 257] [.loc 26] rfl rfl) ?_
      refine ze (fun q env st => ∃ (j : Nat), j ≤ 3 ∧ q = 3 - j ∧ env = EnvL.get [(26, .ref (.loc 26) 0 0 0), (255, .t (.sl 1 (LL.map qF))), (256, .t (.int .i64 3)), (257, .t (.int .i64 (j : Int)))] ∧ st = StO.get [(.loc 26, some (.var 24 [.t (.str S), .t (.int .i64 P), .t (.int .i64 (kk : Int)), .t (.int .i64 (mm : Int)), .t (.sl 1 (U2.map (T.int .i64)))]))])
        ?_ (n := 3) ⟨0, by omega, rfl, by rw [hLL]; rfl, rfl⟩
      rintro q env st ⟨j, hj, rfl, rfl, rfl⟩
      have wj : IntKind.i64.wrap ((j : Int) + 1) = ((j + 1 : Nat) : Int) := by rw [zj (by omega) (by omega)]; omega
      by_cases hj3 : j < 3
      · repeat' (first | refine wC ?_ | (exfalso; omega) | refine zW (es := LL.map qF) rfl (by rw [hLL]; rfl) (by rw [hLL]; rfl) rfl rfl rfl ?_ | refine wK ?_ | ((with_reducible refine zd ?_); refine zc rfl rfl rfl rfl rfl rfl ?_ ?_ ?_) | ((with_reducible refine zg ?_); first | refine wL c4 ?_ | refine wL c5 ?_ | refine wL c6 ?_) | refine zi rfl ?_ ?_ <;> intro hc | refine zR rfl ?_ ?_ <;> intro hc)
        all_goals try omega
        have hQb : (LL.getD (j : Int).toNat default).length ≤ 1000000 := hLb _ (by rw [Int.toNat_natCast, List.getD_eq_getElem?_getD, List.getElem?_eq_getElem (by omega)]; exact List.getElem_mem (by omega))
        refine zb (za [26, 255, 256, 257, 38, 277, 278, 279] [.loc 26] rfl rfl) ?_
        refine ze (fun q env st => ∃ (k : Nat), k ≤ (LL.getD (j : Int).toNat default).length ∧ q = (LL.getD (j : Int).toNat default).length - k ∧ env = EnvL.get [(26, .ref (.loc 26) 0 0 0), (255, .t (.sl 1 (LL.map qF))), (256, .t (.int .i64 3)), (257, .t (.int .i64 (j : Int))), (38, .t (.sl 1 ((LL.getD (j : Int).toNat default).map T.str))), (277, .t (.sl 1 ((LL.getD (j : Int).toNat default).map T.str))), (278, .t (.int .i64 ((LL.getD (j : Int).toNat default).length : Int))), (279, .t (.int .i64 (k : Int)))] ∧ st = StO.get [(.loc 26, some (.var 24 [.t (.str S), .t (.int .i64 P), .t (.int .i64 (kk : Int)), .t (.int .i64 (mm : Int)), .t (.sl 1 (U2.map (T.int .i64)))]))])
          ?_ (n := (LL.getD (j : Int).toNat default).length) ⟨0, by omega, rfl, rfl, rfl⟩
        rintro q env st ⟨k, hk, rfl, rfl, rfl⟩
        have wk : IntKind.i64.wrap ((k : Int) + 1) = ((k + 1 : Nat) : Int) := by rw [zj (by omega) (by omega)]; omega
        by_cases hkL : k < (LL.getD (j : Int).toNat default).length
        · repeat' (first | refine wC ?_ | (exfalso; omega) | exact absurd (rfl : (LL.getD (j : Int).toNat default).getD (k : Int).toNat default = (LL.getD (j : Int).toNat default).getD (k : Int).toNat default) ‹_› | refine wK ?_ | ((with_reducible refine zd ?_); refine zc rfl rfl rfl rfl rfl rfl ?_ ?_ ?_) | refine zi rfl ?_ ?_ <;> intro hc | refine zR rfl ?_ ?_ <;> intro hc)
          all_goals try omega
          all_goals exact zr (n' := (LL.getD (j : Int).toNat default).length - (k + 1)) (by omega) (za [26, 255, 256, 257, 38, 277, 278, 279] [.loc 26] rfl rfl) ⟨k + 1, by omega, rfl, by rw [wk]; rfl, rfl⟩
        · obtain rfl : k = (LL.getD (j : Int).toNat default).length := by omega
          repeat' (first | refine wC ?_ | (exfalso; omega) | refine wK ?_ | refine zi rfl ?_ ?_ <;> intro hc)
          all_goals try omega
          all_goals exact zr (n' := 3 - (j + 1)) (by omega) (za [26, 255, 256, 257] [.loc 26] rfl rfl) ⟨j + 1, by omega, rfl, by rw [wj]; rfl, rfl⟩
      · obtain rfl : j = 3 := by omega
        repeat' (first | refine wC ?_ | refine wK ?_ | ((with_reducible refine zg ?_); refine wL hA ?_) | fail)
        all_goals exact zo (zf rfl rfl rfl) (by simp)
end Go.AL
namespace Go.AL
open Go Go.Proofs Go.RowKit Go.ChangeShapes Go.WideShapes
structure Va where
  s : ByteArray
  p : Int
  c : Int
  n : Int
  l : List Int
def Va.toT (x : Va) : T := vaT x.s x.p x.c x.n x.l
def ziM : Rd Tryz.prog 22 1 (List Int) := Rd.list Tryz.underlying22 (by kernel_rfl) (by decide) (Rd.int (k := .i64) Tryz.underlying3)
set_option maxRecDepth 100000 in
theorem zga {H : Type} {enc : TypeId × Value → H} {w : World} {base : Nat} {spare : Nat → Bool} {held : Bool} {mul : TypeId → Nat} {wt : TypeId → DataW H → List Nat} {B : Nat} (hwt : WtOK Tryz.prog mul wt) (fuel : Nat) (cs : List Value) (d : DataW H × List MemPlace) (h : DataW.trod enc Tryz.prog w base spare held fuel 24 cs = some d) (hB : ∀ n ∈ wt 24 d.1, n ≤ B) :
    ∃ x : Va, cs.length = 5 ∧ ∀ (g : Nat → Option Value) (o : Nat), (∀ i u, cs[i]? = some u → g (o + i) = some u) → RepL (wR w) g o x.toT.cells := by
  obtain ⟨xs, m, hfu, rfl, hl, hlen, hf⟩ := DataW.trod_struct Tryz.underlying24 h
  have hc5 : Tryz.prog.cellsOf 24 = 5 := by kernel_rfl
  rw [hc5] at hl
  have hlen5 : xs.length = 5 := hlen
  obtain ⟨y0, y1, y2, y3, y4, rfl⟩ : ∃ y0 y1 y2 y3 y4, xs = [y0, y1, y2, y3, y4] := by
    match xs, hlen5 with
    | [y0, y1, y2, y3, y4], _ => exact ⟨_, _, _, _, _, rfl⟩
  obtain ⟨u0, u1, u2, u3, u4, rfl⟩ : ∃ u0 u1 u2 u3 u4, cs = [u0, u1, u2, u3, u4] := by
    match cs, hl with
    | [u0, u1, u2, u3, u4], _ => exact ⟨_, _, _, _, _, rfl⟩
  have part : ∀ {fs : Array Field} (hu : Tryz.prog.underlying 24 = some (.struct fs)) (i : Nat) (f : Field) (p : DataW H × List MemPlace), fs[i]? = some f → [y0, y1, y2, y3, y4][i]? = some p → ∀ n ∈ wt f.type p.1, n ≤ B := fun {fs} hu i f p h1 h2 n hn => by
    obtain ⟨q, k1, k2⟩ := hwt.part 24 fs ([y0, y1, y2, y3, y4].map (·.1)) i f p.1 hu h1 (by rw [List.getElem?_map, h2]; rfl) n hn
    exact Nat.le_trans k2 (hB q k1)
  have c3 : Tryz.prog.cellsOf 3 = 1 := by kernel_rfl
  have c9 : Tryz.prog.cellsOf 9 = 1 := by kernel_rfl
  have c22 : Tryz.prog.cellsOf 22 = 1 := by kernel_rfl
  have f0 : DataW.trod enc Tryz.prog w base spare held m 9 (([u0, u1, u2, u3, u4].drop 0).take (Tryz.prog.cellsOf 9)) = some y0 := hf 0 _ rfl
  rw [c9] at f0
  have f1 : DataW.trod enc Tryz.prog w base spare held m 3 (([u0, u1, u2, u3, u4].drop 1).take (Tryz.prog.cellsOf 3)) = some y1 := hf 1 _ rfl
  have f2 : DataW.trod enc Tryz.prog w base spare held m 3 (([u0, u1, u2, u3, u4].drop 2).take (Tryz.prog.cellsOf 3)) = some y2 := hf 2 _ rfl
  have f3 : DataW.trod enc Tryz.prog w base spare held m 3 (([u0, u1, u2, u3, u4].drop 3).take (Tryz.prog.cellsOf 3)) = some y3 := hf 3 _ rfl
  have f4 : DataW.trod enc Tryz.prog w base spare held m 22 (([u0, u1, u2, u3, u4].drop 4).take (Tryz.prog.cellsOf 22)) = some y4 := hf 4 _ rfl
  rw [c3] at f1 f2 f3
  rw [c22] at f4
  obtain ⟨p, hp, _, r0⟩ := (Rd.str Tryz.underlying9).opens f0 hwt (part Tryz.underlying24 0 _ y0 rfl rfl)
  obtain ⟨a, _, _, r1⟩ := (Rd.int (k := .i64) Tryz.underlying3).opens f1 hwt (part Tryz.underlying24 1 _ y1 rfl rfl)
  obtain ⟨b, _, _, r2⟩ := (Rd.int (k := .i64) Tryz.underlying3).opens f2 hwt (part Tryz.underlying24 2 _ y2 rfl rfl)
  obtain ⟨c, _, _, r3⟩ := (Rd.int (k := .i64) Tryz.underlying3).opens f3 hwt (part Tryz.underlying24 3 _ y3 rfl rfl)
  obtain ⟨e, _, _, r4⟩ := ziM.opens f4 hwt (part Tryz.underlying24 4 _ y4 rfl rfl)
  refine ⟨⟨p, a, b, c, e⟩, rfl, fun g o hg => ?_⟩
  simp only [Va.toT, vaT, T.cells, RepL, and_true]
  have s0 := r0 g o (fun i u hu => by match i, hu with | 0, hu => exact hg 0 u hu)
  have s1 := r1 g (o + 1) (fun i u hu => by match i, hu with | 0, hu => exact hg 1 u hu)
  have s2 := r2 g (o + 2) (fun i u hu => by match i, hu with | 0, hu => exact hg 2 u hu)
  have s3 := r3 g (o + 3) (fun i u hu => by match i, hu with | 0, hu => exact hg 3 u hu)
  have s4 := r4 g (o + 4) (fun i u hu => by match i, hu with | 0, hu => exact hg 4 u hu)
  simp only [Rd.int, Rd.str, T.cells, RepL, and_true] at s0 s1 s2 s3
  exact ⟨s0, s1, s2, s3, s4.1⟩
set_option maxRecDepth 100000 in
def zja : Rd Tryz.prog 24 5 Va where
  toT := Va.toT
  ok mul B x := True
  len x := rfl
  opens h mul wt B hwt hB := by
    obtain ⟨x, h1, h2⟩ := zga hwt _ _ _ h hB
    exact ⟨x, trivial, h1, h2⟩
  one hd hv mul wt B hwt hB := by
    obtain ⟨fuel, hf⟩ := hd
    obtain ⟨vs, rfl, hs⟩ := okWide_struct Tryz.underlying24 hv
    obtain ⟨x, h2, h3⟩ := zga hwt _ _ _ hf hB
    refine ⟨x, trivial, ?_⟩
    have hc := h3 (fun j => vs[j]?) 0 (fun i u hu => by simpa [Value.cells] using hu)
    simp only [Va.toT, vaT] at hc ⊢
    simp only [RepT]
    simp only [T.cells] at hc
    refine ⟨vs, rfl, ?_, hc⟩
    have hc5 : Tryz.prog.cellsOf 24 = 5 := by kernel_rfl
    rw [hs, hc5]; rfl
end Go.AL
