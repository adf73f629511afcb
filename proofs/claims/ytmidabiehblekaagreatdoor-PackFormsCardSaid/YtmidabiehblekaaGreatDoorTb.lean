/- What functions of the program and of the document answer, and the plain laws behind it; each under the conditions that its own theorem names. -/
import Derived.Test.YtmidabiehblekaaGreatDoorTa
import Derived.Test.YtmidabiehblekaaGreatDoorAl3
set_option linter.unusedVariables false
namespace Go.AL
open Go Go.RowKit
def ofL (l : List UInt8) : ByteArray := ⟨l.toArray⟩
theorem yV (l : List UInt8) : (ofL l).data.toList = l := by simp [ofL]
theorem zx (l : List UInt8) : (ofL l).size = l.length := by simp [ofL, ByteArray.size]
theorem vI (s : ByteArray) : ofL s.data.toList = s := by cases s; simp [ofL]
theorem we (l : List UInt8) (a b : Nat) : (ofL l).extract a b = ofL ((l.drop a).take (b - a)) := by
  have h : ((ofL l).extract a b).data.toList = (ofL ((l.drop a).take (b - a))).data.toList := by
    rw [yV]; simp [ofL, ByteArray.data_extract]
  have := congrArg ofL h
  rwa [vI, vI] at this
def yr : Nat → Nat → List UInt8
  | 0, _ => []
  | k + 1, n => UInt8.ofNat (n / 256 ^ k) :: yr k n
theorem zO : ∀ k n, (yr k n).length = k
  | 0, n => rfl
  | k + 1, n => by simp [yr, zO k n]
def hdL (m n : Nat) : List UInt8 :=
  if n < 24 then [UInt8.ofNat (32 * m + n)] else if n < 256 then UInt8.ofNat (32 * m + 24) :: yr 1 n
  else if n < 65536 then UInt8.ofNat (32 * m + 25) :: yr 2 n else if n < 4294967296 then UInt8.ofNat (32 * m + 26) :: yr 4 n
  else UInt8.ofNat (32 * m + 27) :: yr 8 n
mutual
def Nd.cb : Nd → List UInt8
  | .mk k b n t ns is =>
    if k = 0 then hdL 7 22 else if k = 1 then hdL 7 (if b then 21 else 20) else if k = 2 then (if n < 0 then hdL 1 (-1 - n).toNat else hdL 0 n.toNat)
    else if k = 3 then hdL 3 t.size ++ t.data.toList else if k = 4 then hdL 4 is.length ++ Nd.cbs is else hdL 5 is.length ++ Nd.cbm ns is
def Nd.cbs : List Nd → List UInt8
  | [] => []
  | x :: xs => x.cb ++ Nd.cbs xs
def Nd.cbm : List ByteArray → List Nd → List UInt8
  | s :: ns, x :: xs => hdL 3 s.size ++ s.data.toList ++ x.cb ++ Nd.cbm ns xs
  | _, _ => []
end
structure Rs where
  s : ByteArray
  bad : Bool
def Rs.take (r : Rs) (n : Int) : ByteArray × Rs :=
  if r.bad = true ∨ n < 0 ∨ (r.s.size : Int) < n then (eS, ⟨r.s, true⟩) else (r.s.extract 0 n.toNat, ⟨r.s.extract n.toNat r.s.size, false⟩)
def Rs.byte (r : Rs) : Int × Rs := (if (r.take 1).1 = eS then 0 else bAt (r.take 1).1 0, (r.take 1).2)
def xe (n : Int) (b : UInt8) : Int := n * 256 % 18446744073709551616 + b.toNat
def Rs.uint (r : Rs) (k : Int) : Int × Rs := ((r.take k).1.data.toList.foldl xe 0, (r.take k).2)
def Rs.fits (r : Rs) (n : Int) : Int × Rs := if (r.s.size : Int) < n then (0, ⟨r.s, true⟩) else (n, r)
def yE (r : Rs) : (Int × Int) × Rs :=
  if r.byte.1 % 32 < 24 then ((r.byte.1 / 32, r.byte.1 % 32), r.byte.2)
  else if 27 < r.byte.1 % 32 then ((r.byte.1 / 32, 0), ⟨r.byte.2.s, true⟩)
  else ((r.byte.1 / 32, (r.byte.2.uint (2 ^ (r.byte.1 % 32 - 24).toNat)).1), (r.byte.2.uint (2 ^ (r.byte.1 % 32 - 24).toNat)).2)
def xQ (r : Rs) (n : Int) : ByteArray × Rs := (r.fits n).2.take (r.fits n).1
def vh (r : Rs) : ByteArray × Rs := xQ (if (yE r).1.1 = 3 then (yE r).2 else ⟨(yE r).2.s, true⟩) (yE r).1.2
def yA (f : Rs → Nd × Rs) (k : Int) : Nat → List ByteArray → List Nd → Rs → Nd × Rs
  | 0, ns, is, r => (.mk k false 0 eS ns is, r)
  | c + 1, ns, is, r => if r.bad = true then (.mk k false 0 eS ns is, r)
    else if k = 5 then yA f k c (ns ++ [(vh r).1]) (is ++ [(f (vh r).2).1]) (f (vh r).2).2
    else yA f k c ns (is ++ [(f r).1]) (f r).2
def i64 (n : Int) : Int := IntKind.i64.wrap n
def xu : Nat → Rs → Nd × Rs
  | 0, r => (Nd.zero, ⟨(yE r).2.s, true⟩)
  | d + 1, r =>
    let m := (yE r).1.1
    let n := (yE r).1.2
    let q := (yE r).2
    if m = 0 then (.mk 2 false (i64 n) eS [] [], q)
    else if m = 1 then (.mk 2 false (-1 - i64 n) eS [] [], q)
    else if m = 3 then (.mk 3 false 0 (xQ q n).1 [] [], (xQ q n).2)
    else if m = 4 then yA (xu d) 4 (q.fits n).1.toNat [] [] (q.fits n).2
    else if m = 5 then yA (xu d) 5 (q.fits n).1.toNat [] [] (q.fits n).2
    else if m = 7 ∧ (n = 21 ∨ n = 20) then (.mk 1 (decide (n = 21)) 0 eS [] [], q)
    else (Nd.zero, q)
theorem qu (a b : List UInt8) : (Rs.mk (ofL (a ++ b)) false).take a.length = (ofL a, ⟨ofL b, false⟩) := by
  unfold Rs.take
  rw [if_neg (by rw [zx]; simp; omega)]
  simp [we, zx]
theorem w6 (a : UInt8) (b : List UInt8) : (Rs.mk (ofL (a :: b)) false).byte = ((a.toNat : Int), ⟨ofL b, false⟩) := by
  have h := qu [a] b
  simp only [List.length_singleton, List.singleton_append] at h
  unfold Rs.byte
  rw [show ((1 : Nat) : Int) = 1 from rfl] at h
  rw [h]
  simp only
  rw [if_neg (by intro e; have := congrArg ByteArray.size e; rw [zx] at this; have h2 : (1 : Nat) = 0 := this; omega)]
  simp [bAt, ofL]
theorem jl : ∀ (k n : Nat) (acc : Nat), acc * 256 ^ k + n % 256 ^ k < 18446744073709551616 → (yr k n).foldl xe acc = ((acc * 256 ^ k + n % 256 ^ k : Nat) : Int)
  | 0, n, acc, h => by simp [yr, Nat.mod_one]
  | k + 1, n, acc, h => by
    have hp : 0 < 256 ^ k := Nat.pos_of_ne_zero (by simp)
    have e1 : n % 256 ^ (k + 1) = (n / 256 ^ k % 256) * 256 ^ k + n % 256 ^ k := by
      rw [Nat.pow_succ, Nat.mod_mul]; rw [Nat.mul_comm]; omega
    have e2 : acc * 256 ^ (k + 1) = (acc * 256) * 256 ^ k := by rw [Nat.pow_succ, Nat.mul_comm (256 ^ k) 256, Nat.mul_assoc]
    have e3 : (acc * 256) * 256 ^ k + (n / 256 ^ k % 256) * 256 ^ k = (acc * 256 + n / 256 ^ k % 256) * 256 ^ k := by rw [Nat.add_mul]
    have hb : acc * 256 + n / 256 ^ k % 256 < 18446744073709551616 := by
      rw [e1, e2] at h
      have := Nat.le_mul_of_pos_right (acc * 256 + n / 256 ^ k % 256) hp
      omega
    have hs : xe (acc : Int) (UInt8.ofNat (n / 256 ^ k)) = ((acc * 256 + n / 256 ^ k % 256 : Nat) : Int) := by
      unfold xe
      rw [UInt8.toNat_ofNat']
      omega
    simp only [yr, List.foldl_cons]
    have e4 : (acc * 256 + n / 256 ^ k % 256) * 256 ^ k + n % 256 ^ k = acc * 256 ^ (k + 1) + n % 256 ^ (k + 1) := by rw [e1, e2, ← e3]; omega
    rw [hs, jl k n _ (by rw [e4]; exact h), e4]
theorem zlY (k n : Nat) (b : List UInt8) (h : n < 256 ^ k) (hk : 256 ^ k ≤ 18446744073709551616) : (Rs.mk (ofL (yr k n ++ b)) false).uint k = ((n : Int), ⟨ofL b, false⟩) := by
  have ht := qu (yr k n) b
  rw [zO] at ht
  unfold Rs.uint
  rw [ht]
  simp only [yV]
  have := jl k n 0 (by rw [Nat.mod_eq_of_lt h]; omega)
  rw [Nat.mod_eq_of_lt h] at this
  simp only [Nat.zero_mul, Nat.zero_add] at this
  rw [← this]; rfl
theorem va (m n : Nat) (b : List UInt8) (hm : m < 8) (hn : n < 18446744073709551616) : yE ⟨ofL (hdL m n ++ b), false⟩ = (((m : Int), (n : Int)), ⟨ofL b, false⟩) := by
  have hb : ∀ j, j < 32 → (UInt8.ofNat (32 * m + j)).toNat = 32 * m + j := fun j hj => by
    rw [UInt8.toNat_ofNat']; omega
  unfold hdL
  split
  · rename_i h
    rw [List.singleton_append]
    unfold yE
    rw [w6, hb n (by omega)]
    simp only
    rw [if_pos (by omega)]
    congr 2 <;> omega
  · have key : ∀ (i : Nat), i < 4 → n < 256 ^ (2 ^ i) → yE ⟨ofL (UInt8.ofNat (32 * m + (24 + i)) :: (yr (2 ^ i) n ++ b)), false⟩ = (((m : Int), (n : Int)), ⟨ofL b, false⟩) := by
      intro i hi hlt
      unfold yE
      rw [w6, hb _ (by omega)]
      simp only
      rw [if_neg (by omega), if_neg (by omega)]
      have e : (((32 * m + (24 + i) : Nat) : Int) % 32 - 24).toNat = i := by omega
      have hk : 256 ^ (2 ^ i) ≤ 18446744073709551616 := by
        match i, hi with
        | 0, _ | 1, _ | 2, _ | 3, _ => decide
      have hu := zlY (2 ^ i) n b hlt hk
      have e2 : ((2 ^ i : Nat) : Int) = 2 ^ i := by simp
      rw [e2] at hu
      rw [e, hu]
      simp only
      congr 2; omega
    split
    · exact key 0 (by omega) (by simpa using ‹n < 256›)
    · split
      · exact key 1 (by omega) (by simpa using ‹n < 65536›)
      · split
        · exact key 2 (by omega) (by simpa using ‹n < 4294967296›)
        · exact key 3 (by omega) (by simpa using hn)
theorem zhr (a b : List UInt8) : xQ ⟨ofL (a ++ b), false⟩ a.length = (ofL a, ⟨ofL b, false⟩) := by
  unfold xQ Rs.fits
  rw [if_neg (by rw [zx]; simp; omega)]
  exact qu a b
theorem zl0 (s : ByteArray) (b : List UInt8) (hs : s.size < 18446744073709551616) : vh ⟨ofL (hdL 3 s.size ++ s.data.toList ++ b), false⟩ = (s, ⟨ofL b, false⟩) := by
  unfold vh
  rw [List.append_assoc, va 3 s.size _ (by omega) hs]
  simp only
  rw [if_pos (show ((3 : Nat) : Int) = 3 from rfl)]
  have h := zhr s.data.toList b
  rw [vI] at h
  exact h
inductive Nd.In : Nd → Prop
  | mk {k : Int} {b : Bool} {n : Int} {t : ByteArray} {ns : List ByteArray} {is : List Nd} : -9223372036854775808 ≤ n → n ≤ 9223372036854775807 → (∀ x ∈ is, x.In) → Nd.In (.mk k b n t ns is)
theorem zaq (m n : Nat) : 1 ≤ (hdL m n).length := by
  unfold hdL; repeat' split
  all_goals simp
theorem zmn (x : Nd) : 1 ≤ x.cb.length := by
  cases x
  simp only [Nd.cb]
  repeat' split
  all_goals first | exact zaq _ _ | (rw [List.length_append]; have := zaq 3 (by assumption : ByteArray).size; omega) | skip
  all_goals (rw [List.length_append]; rename_i is _ _ _ _ _; have h4 := zaq 4 is.length; have h5 := zaq 5 is.length; omega)
theorem zkP : ∀ is : List Nd, is.length ≤ (Nd.cbs is).length
  | [] => by simp
  | x :: xs => by
    have := zmn x
    have := zkP xs
    simp only [Nd.cbs, List.length_append, List.length_cons]; omega
theorem zjS : ∀ (ns : List ByteArray) (is : List Nd), ns.length = is.length → is.length ≤ (Nd.cbm ns is).length
  | [], [], _ => by simp
  | s :: ns, x :: xs, h => by
    have := zmn x
    have := zjS ns xs (by simpa using h)
    simp only [Nd.cbm, List.length_append, List.length_cons]; omega
  | [], _ :: _, h => by simp at h
  | _ :: _, [], h => by simp at h
end Go.AL
namespace Go.AL
open Go Go.Proofs Go.RowKit
set_option maxHeartbeats 1000000 in
theorem v8 {oF oA : Obj} {V : ByteArray → Bool} (hV : xH oF oA V) (x : Nd) (hx : x.Ok) : Spec Tryz.prog 72 [.t x.toT] [(.par 100, .dat (.fix 0 oF)), (.par 101, .dat (.fix 1 oA))] (.t (.bool (x.validB V 8))) [(.par 100, .dat (.fix 0 oF)), (.par 101, .dat (.fix 1 oA))] := by
  have h := ziH hV x hx 8 (by omega) (by omega)
  generalize x.validB V 8 = v at h ⊢
  cases x with
  | mk k b n t ns is =>
  rw [Nd.toT_eq] at *
  refine wI Tryz.func72 ?_
  repeat' (first | refine wC ?_ | refine wK ?_ | ((with_reducible refine ze ?_); refine wN (.t (.bool v)) [] h ?_) | fail)
  exact zp (zo rfl rfl rfl) (zc ⟨rfl, rfl, trivial⟩)
theorem Spec.res {P : Program} {f : FuncId} {args : List AV} {S S' : StL} {r r' : T} (h : Spec P f args S (.t r) S') (e : r = r') : Spec P f args S (.t r') S' := e ▸ h
theorem zJ : Nd.zero.toT = .agg [.int .i64 0, .bool false, .int .i64 0, .str ⟨#[]⟩, .sl 1 [], .sl 6 []] := Nd.toT_eq _ _ _ _ _ _
theorem Nd.toT_full (x : Nd) : x.toT = .agg [.int .i64 x.kind, .bool x.bool, .int .i64 x.num, .str x.text, .sl 1 (x.names.map .str), .sl 6 (x.items.map Nd.toT)] := by
  cases x; exact Nd.toT_eq _ _ _ _ _ _
def Dc.row (d : Dc) : Row := .var 74 [.t (.sl 1 (d.l.map (T.int .i64))), .t (.int .i64 d.k)]
set_option maxHeartbeats 1000000 in
theorem zh0 (l : List Int) : Spec Tryz.prog 12 [.t (.sl 1 (l.map (T.int .i64)))] [] (.t (.bool (decide ((l.length : Int) ≤ 500)))) [] := by
  refine wI Tryz.func12 ?_
  repeat' (first | refine wC ?_ | refine wK ?_ | fail)
  exact zp (zo rfl rfl rfl) (by simp)
set_option maxHeartbeats 1000000 in
theorem zjK (l : List Int) : Spec Tryz.prog 14 [.t (.sl 1 (l.map (T.int .i64)))] [] (.ref (.res 0) 0 0 0) [(.res 0, (Dc.mk l 0).row)] := by
  unfold Dc.row
  refine wIG Tryz.func14 ?_
  repeat' (first | refine wC ?_ | refine wK ?_ | fail)
  refine zv ((za [2] [.loc 5] rfl rfl).trans (zg (.loc 5) (.res 0) rfl rfl rfl rfl)) ?_
  exact zL (zp (zK rfl (AVLE.refl _)) (zc ⟨rfl, trivial⟩))
theorem zj1 (n m : Int) (h : 1 ≤ m) : (n.tmod m + m).tmod m = zlO n m ∧ 0 ≤ n.tmod m + m ∧ n.tmod m + m ≤ 2 * m := by
  have h1 : -m < n.tmod m ∧ n.tmod m < m := by
    have a := Int.tmod_lt_of_pos n (b := m) (by omega)
    have b := Int.lt_tmod_of_pos n (b := m) (by omega)
    exact ⟨b, a⟩
  refine ⟨?_, by omega, by omega⟩
  unfold zlO
  rw [if_neg (by omega), Int.tmod_eq_emod_of_nonneg (by omega), Int.tmod_def, show n - m * n.tdiv m + m = n + m * (1 - n.tdiv m) by rw [Int.mul_sub]; omega, Int.add_mul_emod_self_left]
set_option maxHeartbeats 1000000 in
theorem zlV (n m : Int) (h : m ≤ 4611686018427387903) : Spec Tryz.prog 32 [.t (.int .i64 n), .t (.int .i64 m)] [] (.t (.int .i64 (zlO n m))) [] := by
  refine wI Tryz.func32 ?_
  repeat' (first | refine wC ?_ | refine wK ?_ | ((with_reducible refine zM ?_); refine zmr rfl rfl rfl rfl rfl rfl ?_ ?_) | refine zd rfl ?_ ?_ <;> intro hc)
  all_goals try omega
  · exact zp (zo rfl rfl (by unfold zlO; rw [if_pos hc])) (by simp)
  · have e := zj1 n m (by omega)
    refine zp (zo rfl rfl ?_) (by simp)
    rw [zr (by omega) (by omega), e.1]
set_option maxHeartbeats 1000000 in
theorem y9 (d : Dc) (n : Int) (h : n ≤ 4611686018427387903) (hd : d.l.length ≤ 1000) : Spec Tryz.prog 27 [.ref (.par 0) 0 0 0, .t (.int .i64 n)] [(.par 0, d.row)] (.t (.int .i64 (d.next n).1)) [(.par 0, (d.next n).2.row)] := by
  have hm := zlV (d.l.getD d.k 0) n h
  unfold Dc.row Dc.next
  generalize zlO (d.l.getD d.k 0) n = v at *
  by_cases h0 : (d.l.length : Int) ≤ d.k
  · simp only [if_pos h0]
    refine wI Tryz.func27 ?_
    repeat' (first | refine wC ?_ | refine wK ?_ | ((with_reducible refine zA ?_); refine zq rfl rfl rfl rfl rfl rfl ?_ ?_ ?_) | ((with_reducible refine ze ?_); exact absurd h0 ‹_›) | refine zd rfl ?_ ?_ <;> intro hc)
    all_goals try (exfalso; omega)
    exact zp (zo rfl rfl rfl) (zc ⟨rfl, trivial⟩)
  · simp only [if_neg h0]
    have e : (IntKind.i64.wrap (IntKind.i64.wrap ((d.k : Int) + 1) - 1)).toNat = d.k := by
      rw [zr (n := (d.k : Int) + 1) (by omega) (by omega), zr (by omega) (by omega)]; omega
    have e2 : IntKind.i64.wrap (IntKind.i64.wrap ((d.k : Int) + 1) - 1) = d.k := by
      rw [zr (n := (d.k : Int) + 1) (by omega) (by omega), zr (by omega) (by omega)]; omega
    have e3 : IntKind.i64.wrap ((d.k : Int) + 1) = d.k + 1 := zr (by omega) (by omega)
    have e4 : ((d.k + 1 : Nat) : Int) = IntKind.i64.wrap ((d.k : Int) + 1) := by rw [e3]; omega
    rw [← e] at hm
    rw [e4]
    refine wI Tryz.func27 ?_
    repeat' (first | refine wC ?_ | refine wK ?_ | ((with_reducible refine zA ?_); refine zq rfl rfl rfl rfl rfl rfl ?_ ?_ ?_) | ((with_reducible refine ze ?_); refine wL hm ?_) | refine zd rfl ?_ ?_ <;> intro hc)
    all_goals try (exfalso; omega)
    all_goals try omega
    exact zp (zo rfl rfl rfl) (zc ⟨rfl, trivial⟩)
set_option maxHeartbeats 1000000 in
theorem q6 (d : Dc) (l : List ByteArray) (h0 : 1 ≤ l.length) (h : l.length ≤ 1000) (hd : d.l.length ≤ 1000) :
    Spec Tryz.prog 44 [.ref (.par 0) 0 0 0, .row (.par 1)] [(.par 0, d.row), (.par 1, .slt 9 1 (l.map .str))] (.t (.str (d.word l).1)) [(.par 0, (d.word l).2.row), (.par 1, .slt 9 1 (l.map .str))] := by
  have hn := y9 d l.length (by omega) hd
  have hlt := d.next_lt l.length (by omega)
  unfold Dc.word
  simp only
  generalize d.next l.length = q at *
  obtain ⟨v, d2⟩ := q
  simp only at *
  have hg : (l.map T.str)[v.toNat]? = some (.str (l.getD v.toNat default)) := by
    rw [List.getElem?_map, List.getElem?_eq_getElem (by omega)]
    simp [List.getD_eq_getElem?_getD, show v.toNat < l.length by omega]
  refine wI Tryz.func44 ?_
  repeat' (first | refine wC ?_ | refine wK ?_ | ((with_reducible refine zaY ?_); refine yS rfl rfl rfl rfl rfl rfl rfl rfl ?_ ?_) | ((with_reducible refine zA ?_); refine yf rfl rfl rfl rfl rfl rfl rfl ?_ ?_ ?_) | ((with_reducible refine ze ?_); refine wN (.t (.int .i64 v)) [] hn ?_) | fail)
  all_goals try (simp only [List.length_map]; omega)
  all_goals try omega
  exact zp (zo rfl rfl rfl) (zc ⟨rfl, rfl, trivial⟩)
set_option maxHeartbeats 4000000 in
theorem ziF (d : Dc) (hd : d.l.length ≤ 1000) : Spec Tryz.prog 58 [.ref (.par 0) 0 0 0] [(.par 0, d.row)] (.t (.str (qp d).1)) [(.par 0, (qp d).2.row)] := by
  have hw := q6 d vo (by decide) (by decide) hd
  have hl : (d.word vo).2.l = d.l := d.next_l _
  have hsz := (ze0 (V := fun _ => true) ⟨fun _ _ => rfl, fun _ _ => rfl, rfl⟩ _ (d.word_mem vo (by simp [vo]))).2
  unfold qp
  generalize d.word vo = w at *
  obtain ⟨s, d1⟩ := w
  simp only at *
  have hn := y9 d1 10 (by omega) (by rw [hl]; exact hd)
  have hl2 : (d1.next 10).2.l = d.l := by rw [Dc.next_l, hl]
  generalize d1.next 10 = q at *
  obtain ⟨v, d2⟩ := q
  simp only at *
  refine wIG Tryz.func58 ?_
  repeat' (first | refine wC ?_ | refine wK ?_ | ((with_reducible refine ze ?_); first | refine wN (.t (.str s)) [(.par 1, .loc 5)] hw ?_ | refine wN (.t (.int .i64 v)) [] hn ?_) | refine zd rfl ?_ ?_ <;> intro hc)
  · rw [if_pos hc]
    refine zl (za [0, 2, 3] [.par 0] rfl rfl) ?_
    refine zz (fun n env st => ∃ (f : Nat) (s' : ByteArray) (d' : Dc), n = f ∧ zk4 f s' d' = zk4 300 s d2 ∧ 257 ≤ f + s'.size ∧ s'.size ≤ 256 ∧ d'.l = d.l ∧
        env = EnvL.get [(0, .ref (.par 0) 0 0 0), (2, .t (.str ⟨#[]⟩)), (3, .t (.str s'))] ∧ st = StO.get [(.par 0, some d'.row)])
      ?_ (n := 300) ⟨300, s, d2, rfl, rfl, by omega, hsz, hl2, rfl, rfl⟩
    clear hn hw hc hl hl2 hsz
    rintro n env st ⟨f, s', d', rfl, hk, h1, h2, h3, rfl, rfl⟩
    obtain ⟨f, rfl⟩ : ∃ m, n = m + 1 := ⟨n - 1, by omega⟩
    have hn := y9 d' 6 (by omega) (by rw [h3]; exact hd)
    have hlt := d'.next_lt 6 (by omega)
    have hl : (d'.next 6).2.l = d.l := by rw [Dc.next_l, h3]
    rw [zk4] at hk
    have hz : qM.getD (d'.next 6).1.toNat 0 ≤ 256 := by
      generalize (d'.next 6).1.toNat = j
      match j with
      | 0 | 1 | 2 | 3 | 4 | 5 => simp [qM]
      | j + 6 => simp [qM]
    generalize d'.next 6 = q at *
    obtain ⟨v, d3⟩ := q
    simp only at *
    rw [show qM.getD v.toNat 0 = qM.getD v.toNat default from rfl] at hk hz
    repeat' (first | refine wC ?_ | refine yS (f := T.int .i64) (l := qM) rfl rfl rfl rfl rfl rfl rfl rfl ?_ ?_ | refine wK ?_ | ((with_reducible refine zM ?_); refine yj rfl rfl rfl rfl rfl rfl ?_ ?_) | ((with_reducible refine zA ?_); refine yf rfl rfl rfl rfl rfl rfl rfl ?_ ?_ ?_) | ((with_reducible refine ze ?_); refine wN (.t (.int .i64 v)) [] hn ?_) | refine zd rfl ?_ ?_ <;> intro hc)
    all_goals try omega
    · simp only [List.length_cons, List.length_nil]; omega
    · simp only [qM, List.length_cons, List.length_nil]; omega
    · have : ByteArray.size ⟨#[120]⟩ = 1 := rfl
      omega
    · rw [if_pos hc] at hk
      have e1 : (s' ++ xS).size = s'.size + 1 := by rw [ByteArray.size_append]; rfl
      exact zI (n' := f) (by omega) (za [0, 2, 3] [.par 0] rfl rfl) ⟨f, s' ++ xS, d3, rfl, hk, by omega, by omega, hl, rfl, rfl⟩
    · rw [if_neg hc] at hk
      rw [← hk]
      exact zL (zp (zo rfl rfl rfl) (zc ⟨rfl, trivial⟩))
  · rw [if_neg hc]
    exact zL (zp (zo rfl rfl rfl) (zc ⟨rfl, trivial⟩))
end Go.AL
namespace Go.AL
open Go Go.RowKit
theorem Dc.word_l (d : Dc) (l : List ByteArray) : (d.word l).2.l = d.l := d.next_l _
theorem zl7 : ∀ (f : Nat) (s : ByteArray) (d : Dc), (zk4 f s d).2.l = d.l
  | 0, s, d => d.next_l _
  | f + 1, s, d => by
    simp only [zk4]; split
    · rw [zl7 f, Dc.next_l]
    · exact d.next_l _
theorem znv (d : Dc) : (qp d).2.l = d.l := by
  unfold qp; split
  · rw [zl7, Dc.next_l, Dc.word_l]
  · simp only; rw [Dc.next_l, Dc.word_l]
theorem zjm : ∀ (f : Nat) (l : List Nd) (d : Dc), (vC f l d).2.l = d.l
  | 0, s, d => d.next_l _
  | f + 1, s, d => by
    simp only [vC]; split
    · rw [zjm f, Dc.next_l]
    · exact d.next_l _
theorem zhJ : ∀ (c i : Nat) (d : Dc), (yd c i d).2.l = d.l
  | 0, i, d => rfl
  | c + 1, i, d => by simp only [yd]; rw [zhJ c, Dc.word_l]
theorem zht (f : Dc → Nd × Dc) (h : ∀ d, (f d).2.l = d.l) : ∀ (c : Nat) (d : Dc), (yQ f c d).2.l = d.l
  | 0, d => rfl
  | c + 1, d => by simp only [yQ]; rw [zht f h c, h]
theorem znH (k : Int) (f : Dc → Nd × Dc) (h : ∀ d, (f d).2.l = d.l) (d : Dc) : (zfW k f d).2.l = d.l := by
  unfold zfW
  simp only
  have e1 := zht f h (d.next 4).1.toNat (d.next 4).2
  rw [Dc.next_l] at e1
  generalize yQ f (d.next 4).1.toNat (d.next 4).2 = is at *
  have e2 : (if (is.2.next 20).1 = 1 then vC 20 is.1 (is.2.next 20).2 else (is.1, (is.2.next 20).2)).2.l = d.l := by
    split
    · rw [zjm, Dc.next_l, e1]
    · simp only; rw [Dc.next_l, e1]
  generalize (if (is.2.next 20).1 = 1 then vC 20 is.1 (is.2.next 20).2 else (is.1, (is.2.next 20).2)) = g at *
  split
  · rw [zhJ, e2]
  · exact e2
theorem zgD (rec : Option (Dc → Nd × Dc)) (h : ∀ f, rec = some f → ∀ d, (f d).2.l = d.l) (d : Dc) : (kM rec d).2.l = d.l := by
  unfold kM
  simp only
  split
  · simp only [Dc.next_l]
  · split
    · simp only [Dc.next_l]
    · split
      · simp only [znv, Dc.next_l]
      · split
        · split
          · simp only [Dc.next_l]
          · rename_i f; rw [znH _ f (h f rfl), Dc.next_l]
        · simp only [Dc.next_l]
theorem zf1 : ∀ (n : Nat) (d : Dc), (qA n d).2.l = d.l
  | 0, d => zgD none (by simp) d
  | 1, d => zgD none (by simp) d
  | n + 2, d => zgD _ (by rintro f h; cases h; exact zf1 (n + 1)) d
end Go.AL
namespace Go.AL
open Go Go.Proofs Go.RowKit
theorem zjO (i : Nat) : 0 ≤ vY.getD i 0 ∧ vY.getD i 0 ≤ 9223372036854775807 := by
  match i with
  | 0 | 1 | 2 | 3 | 4 | 5 | 6 | 7 | 8 | 9 | 10 | 11 => simp [vY]
  | j + 12 => simp [vY]
set_option maxHeartbeats 8000000 in
theorem zag (n : Int) (hn : 0 ≤ n ∧ n ≤ 1000) (rec : Option (Dc → Nd × Dc)) (hnone : rec = none → n < 2)
    (d : Dc) (hd : d.l.length ≤ 1000) (hsome : ∀ f, rec = some f → ∀ k d1, d.next 6 = (k, d1) → k = 4 ∨ k = 5 → Spec Tryz.prog 23 [.ref (.par 0) 0 0 0, .t (.int .i64 n)] [(.par 0, d.row)] (.t (zfW k f d1).1.toT) [(.par 0, (zfW k f d1).2.row)])
    : Spec Tryz.prog 23 [.ref (.par 0) 0 0 0, .t (.int .i64 n)] [(.par 0, d.row)] (.t (kM rec d).1.toT) [(.par 0, (kM rec d).2.row)] := by
  have h6 := y9 d 6 (by omega) hd
  have l6 := d.next_lt 6 (by omega)
  have e6 : (d.next 6).2.l = d.l := d.next_l _
  unfold kM
  simp only
  generalize d.next 6 = q at *
  obtain ⟨k, d1⟩ := q
  simp only at *
  have hd1 : d1.l.length ≤ 1000 := by rw [e6]; exact hd
  rcases (show k = 0 ∨ k = 1 ∨ k = 2 ∨ k = 3 ∨ (k = 4 ∨ k = 5) by omega) with rfl | rfl | rfl | rfl | hk
  · clear hsome
    rw [if_neg (by decide), if_neg (by decide), if_neg (by decide), if_neg (by decide), zJ]
    refine wIG Tryz.func23 ?_
    repeat' (first | refine wC ?_ | refine wK ?_ | ((with_reducible refine ze ?_); refine wN (.t (.int .i64 0)) [] h6 ?_) | fail)
    exact wB
  · clear hsome
    rw [if_pos rfl]
    have h2 := y9 d1 2 (by omega) hd1
    generalize d1.next 2 = q2 at *
    obtain ⟨v2, d2⟩ := q2
    simp only at *
    rw [Nd.toT_eq]
    refine wIG Tryz.func23 ?_
    repeat' (first | refine wC ?_ | refine wK ?_ | ((with_reducible refine ze ?_); first | refine wN (.t (.int .i64 1)) [] h6 ?_ | refine wN (.t (.int .i64 v2)) [] h2 ?_) | fail)
    exact wB
  · clear hsome
    rw [if_neg (by decide), if_pos rfl]
    have h12 := y9 d1 12 (by omega) hd1
    have l12 := d1.next_lt 12 (by omega)
    have e12 : (d1.next 12).2.l = d1.l := d1.next_l _
    generalize d1.next 12 = q12 at *
    obtain ⟨v12, d12⟩ := q12
    simp only at *
    have h122 := y9 d12 2 (by omega) (by rw [e12]; exact hd1)
    generalize d12.next 2 = q122 at *
    obtain ⟨v122, d122⟩ := q122
    have hz := zjO v12.toNat
    rw [show vY.getD v12.toNat 0 = vY.getD v12.toNat default from rfl] at *
    simp only at *
    rw [Nd.toT_eq]
    refine wIG Tryz.func23 ?_
    repeat' (first | refine wC ?_ | refine yS (f := T.int .i64) (l := vY) rfl rfl rfl rfl rfl rfl rfl rfl ?_ ?_ | refine wK ?_ | ((with_reducible refine zA ?_); refine yf rfl rfl rfl rfl rfl rfl rfl ?_ ?_ ?_) | ((with_reducible refine ze ?_); first | refine wN (.t (.int .i64 2)) [] h6 ?_ | refine wN (.t (.int .i64 v12)) [] h12 ?_ | refine wN (.t (.int .i64 v122)) [] h122 ?_) | refine zd rfl ?_ ?_ <;> intro hc)
    all_goals try omega
    · simp only [List.length_cons, List.length_nil]; omega
    · simp only [vY, List.length_cons, List.length_nil]; omega
    · rw [if_pos hc]
      have e : IntKind.i64.wrap (-1 - vY.getD v12.toNat default) = -1 - vY.getD v12.toNat default := zr (by omega) (by omega)
      rw [e]
      exact wB
    · rw [if_neg hc]
      exact wB
  · clear hsome
    rw [if_neg (by decide), if_neg (by decide), if_pos rfl]
    have hT := ziF d1 hd1
    generalize qp d1 = qT at *
    obtain ⟨sT, dT⟩ := qT
    simp only at *
    rw [Nd.toT_eq]
    refine wIG Tryz.func23 ?_
    repeat' (first | refine wC ?_ | refine wK ?_ | ((with_reducible refine ze ?_); first | refine wN (.t (.int .i64 3)) [] h6 ?_ | refine wN (.t (.str sT)) [] hT ?_) | fail)
    exact wB
  · rw [if_neg (by omega), if_neg (by omega), if_neg (by omega), if_pos hk]
    cases rec with
    | some f => exact hsome f rfl k d1 rfl hk
    | none =>
      clear hsome
      have hn2 := hnone rfl
      simp only
      rcases hk with rfl | rfl
      · rw [Nd.toT_eq]
        refine wIG Tryz.func23 ?_
        repeat' (first | refine wC ?_ | refine wK ?_ | ((with_reducible refine ze ?_); first | refine wN (.t (.int .i64 4)) [] h6 ?_ | exact absurd hn2 ‹_›) | refine zd rfl ?_ ?_ <;> intro hc)
        exact wB
      · rw [Nd.toT_eq]
        refine wIG Tryz.func23 ?_
        repeat' (first | refine wC ?_ | refine wK ?_ | ((with_reducible refine ze ?_); first | refine wN (.t (.int .i64 5)) [] h6 ?_ | exact absurd hn2 ‹_›) | refine zd rfl ?_ ?_ <;> intro hc)
        exact wB
theorem zlx : ∀ j : Fin 18, zbi [T.int IntKind.u8 (IntKind.u8.wrap (48 + IntKind.u8.wrap (((j.val : Nat) : Int).tmod 10))), T.int IntKind.u8 (IntKind.u8.wrap (48 + IntKind.u8.wrap (IntKind.i64.wrap (((j.val : Nat) : Int).tdiv 10))))] = zgr j.val := by decide +kernel
theorem zhH (j : Nat) (h : j < 18) : zbi [T.int IntKind.u8 (IntKind.u8.wrap (48 + IntKind.u8.wrap ((j : Int).tmod 10))), T.int IntKind.u8 (IntKind.u8.wrap (48 + IntKind.u8.wrap (IntKind.i64.wrap ((j : Int).tdiv 10))))] = zgr j := zlx ⟨j, h⟩
set_option maxHeartbeats 16000000 in
theorem zkf (n : Int) (hn : 2 ≤ n ∧ n ≤ 1000) (f : Dc → Nd × Dc) (hl : ∀ d, (f d).2.l = d.l)
    (hf : ∀ d : Dc, d.l.length ≤ 1000 → Spec Tryz.prog 23 [.ref (.par 0) 0 0 0, .t (.int .i64 (n - 1))] [(.par 0, d.row)] (.t (f d).1.toT) [(.par 0, (f d).2.row)])
    (d : Dc) (hd : d.l.length ≤ 1000) (k : Int) (hk : k = 4 ∨ k = 5) (d1 : Dc) (hq : d.next 6 = (k, d1)) : Spec Tryz.prog 23 [.ref (.par 0) 0 0 0, .t (.int .i64 n)] [(.par 0, d.row)] (.t (zfW k f d1).1.toT) [(.par 0, (zfW k f d1).2.row)] := by
  have h6 := y9 d 6 (by omega) hd
  have e6 : (d.next 6).2.l = d.l := d.next_l _
  rw [hq] at h6 e6
  simp only at h6 e6
  have h4 := y9 d1 4 (by omega) (by rw [e6]; exact hd)
  have l4 := d1.next_lt 4 (by omega)
  have e4 : (d1.next 4).2.l = d.l := by rw [Dc.next_l, e6]
  generalize hres : zfW k f d1 = res
  unfold zfW at hres
  simp only at hres
  generalize d1.next 4 = q4 at *
  obtain ⟨v4, d4⟩ := q4
  simp only at *
  refine wIG Tryz.func23 ?_
  repeat' (first | refine wC ?_ | refine wK ?_ | ((with_reducible refine ze ?_); first | refine wN (.t (.int .i64 k)) [] h6 ?_ | refine wN (.t (.int .i64 v4)) [] h4 ?_ | exact absurd hn.1 (by omega)) | refine zd rfl ?_ ?_ <;> intro hc)
  all_goals try (exfalso; omega)
  all_goals clear h6 h4 hq
  · refine zl (zH (r := .loc 7) 5 (.loc 900) 30 6 rfl rfl rfl rfl rfl) ?_
    refine zl (za [0, 1, 4, 5, 7, 8] [.par 0, .loc 4, .loc 7, .loc 900] rfl rfl) ?_
    refine zz (fun m env st => ∃ (c : Nat) (acc : List Nd) (d' : Dc), m = c ∧ c ≤ 3 ∧ acc.length + c ≤ 3 ∧ d'.l = d.l ∧ (acc ++ (yQ f c d').1, (yQ f c d').2) = yQ f v4.toNat d4 ∧
        env = EnvL.get [(0, .ref (.par 0) 0 0 0), (1, .t (.int .i64 n)), (4, .ref (.loc 4) 0 0 0), (5, .t (.int .i64 k)), (7, .ref (.loc 7) 0 0 0), (8, .t (.int .i64 (c : Int)))] ∧
        st = StO.get [(.par 0, some d'.row), (.loc 4, some (.var 30 [.t (.int .i64 0), .t (.bool false), .t (.int .i64 0), .t (.str ⟨#[]⟩), .t .nilsl, .t .nilsl])), (.loc 7, some (.var 30 [.t (.int .i64 k), .t (.bool false), .t (.int .i64 0), .t (.str ⟨#[]⟩), .t .nilsl, .row (.loc 900)])), (.loc 900, some (.slt 30 6 (acc.map Nd.toT)))])
      ?_ (n := v4.toNat) ⟨v4.toNat, [], d4, rfl, by omega, by simp; omega, e4, by simp, by rw [show ((v4.toNat : Nat) : Int) = v4 by omega]; rfl, rfl⟩
    rintro m env st ⟨c, acc, d', rfl, hc3, ha, e', hi, rfl, rfl⟩
    cases m with
    | zero =>
      simp only [yQ, List.append_nil] at hi
      have h20 := y9 d' 20 (by omega) (by rw [e']; exact hd)
      have e20 : (d'.next 20).2.l = d.l := by rw [Dc.next_l, e']
      rw [← hi] at hres
      simp only at hres
      generalize d'.next 20 = q20 at *
      obtain ⟨z, d2⟩ := q20
      simp only at *
      repeat' (first | refine wC ?_ | refine wK ?_ | ((with_reducible refine ze ?_); refine wN (.t (.int .i64 z)) [] h20 ?_) | refine zd rfl ?_ ?_ <;> intro hc)
      · rw [if_pos hc] at hres
        have hac : acc.length ≤ 17 := by omega
        refine zl (za [0, 4, 5, 7] [.par 0, .loc 4, .loc 7, .loc 900] rfl rfl) ?_
        clear h20
        refine zz (fun m env st => ∃ (fu : Nat) (ac : List Nd) (dd : Dc), m = fu ∧ 20 ≤ ac.length + fu ∧ ac.length ≤ 17 ∧ dd.l = d.l ∧ vC fu ac dd = vC 20 acc d2 ∧
            env = EnvL.get [(0, .ref (.par 0) 0 0 0), (4, .ref (.loc 4) 0 0 0), (5, .t (.int .i64 k)), (7, .ref (.loc 7) 0 0 0)] ∧
            st = StO.get [(.par 0, some dd.row), (.loc 4, some (.var 30 [.t (.int .i64 0), .t (.bool false), .t (.int .i64 0), .t (.str ⟨#[]⟩), .t .nilsl, .t .nilsl])), (.loc 7, some (.var 30 [.t (.int .i64 k), .t (.bool false), .t (.int .i64 0), .t (.str ⟨#[]⟩), .t .nilsl, .row (.loc 900)])), (.loc 900, some (.slt 30 6 (ac.map Nd.toT)))])
          ?_ (n := 20) ⟨20, acc, d2, rfl, by omega, hac, e20, rfl, rfl, rfl⟩
        rintro m env st ⟨fu, ac, dd, rfl, ha2, ha3, edd, hfi, rfl, rfl⟩
        obtain ⟨fu, rfl⟩ : ∃ x, m = x + 1 := ⟨m - 1, by omega⟩
        have h3 := y9 dd 3 (by omega) (by rw [edd]; exact hd)
        have l3 := dd.next_lt 3 (by omega)
        have e3 : (dd.next 3).2.l = d.l := by rw [Dc.next_l, edd]
        rw [vC] at hfi
        generalize dd.next 3 = q3 at *
        obtain ⟨v, d3⟩ := q3
        simp only at *
        have e15 : IntKind.i64.wrap (15 + v) = 15 + v := zr (by omega) (by omega)
        rw [← e15] at hfi
        repeat' (first | refine wC ?_ | refine wK ?_ | ((with_reducible refine zw ?_); refine zh rfl rfl rfl rfl rfl rfl rfl rfl rfl rfl ?_ ?_ ?_) | ((with_reducible refine ze ?_); refine wN (.t (.int .i64 v)) [] h3 ?_) | refine zd rfl ?_ ?_ <;> intro hc)
        · simp only [List.length_map, List.length_cons, List.length_nil]; omega
        · simp only [List.length_map, List.length_cons, List.length_nil]; omega
        · have hcc : (ac.length : Int) < IntKind.i64.wrap (15 + v) := by simpa using ‹_ < IntKind.i64.wrap (15 + v)›
          rw [if_pos hcc] at hfi
          rw [e15] at hcc
          refine zI (n' := fu) (by omega) ((zav (id := .loc 78) (r' := .slt 30 6 ((ac ++ [Nd.zero]).map Nd.toT)) rfl (RowLE.slt ?_) rfl).trans ((za [0, 4, 5, 7] [.par 0, .loc 4, .loc 7, .loc 78] rfl rfl).trans (zg (.loc 78) (.loc 900) rfl rfl rfl rfl))) ⟨fu, ac ++ [Nd.zero], d3, rfl, by simp; omega, by simp; omega, e3, hfi, rfl, rfl⟩
          rw [List.map_append, List.map_singleton, zJ]
          exact TLs.append (TLs.refl _) wT
        · have hcc : ¬ (ac.length : Int) < IntKind.i64.wrap (15 + v) := by simpa using ‹¬ _ < IntKind.i64.wrap (15 + v)›
          rw [if_neg hcc] at hfi
          rw [← hfi] at hres
          simp only at hres
          have hg : ∃ g : List Nd × Dc, g = (ac, d3) ∧ g.1.length ≤ 17 ∧ g.2.l = d.l := ⟨_, rfl, by simp only; omega, by simp only; assumption⟩
          obtain ⟨g, eg, hg1, hg2⟩ := hg
          refine zl (zH (r := .loc 7) 4 (.loc 901) 9 1 rfl rfl rfl rfl rfl) ?_
          refine zl (za [0, 4, 5, 7, 82, 83] [.par 0, .loc 4, .loc 7, .loc 900, .loc 901] rfl rfl) ?_
          have hres3 : (Nd.mk k false 0 eS (if k = 5 then yd ac.length 0 d3 else ([], d3)).1 ac, (if k = 5 then yd ac.length 0 d3 else ([], d3)).2) = res := by rw [← hres]
          clear h3
          refine zz (fun m env st => ∃ (j : Nat) (ns : List ByteArray) (dd : Dc), j ≤ ac.length ∧ m = ac.length - j ∧ ns.length ≤ j ∧ dd.l = d.l ∧ (k = 5 → (ns ++ (yd (ac.length - j) j dd).1, (yd (ac.length - j) j dd).2) = yd ac.length 0 d3) ∧ (k = 4 → ns = [] ∧ dd = d3) ∧
              env = EnvL.get [(0, .ref (.par 0) 0 0 0), (4, .ref (.loc 4) 0 0 0), (5, .t (.int .i64 k)), (7, .ref (.loc 7) 0 0 0), (82, .t (.int .i64 ac.length)), (83, .t (.int .i64 (j : Int)))] ∧
              st = StO.get [(.par 0, some dd.row), (.loc 4, some (.var 30 [.t (.int .i64 0), .t (.bool false), .t (.int .i64 0), .t (.str ⟨#[]⟩), .t .nilsl, .t .nilsl])), (.loc 7, some (.var 30 [.t (.int .i64 k), .t (.bool false), .t (.int .i64 0), .t (.str ⟨#[]⟩), .row (.loc 901), .row (.loc 900)])), (.loc 900, some (.slt 30 6 (ac.map Nd.toT))), (.loc 901, some (.slt 9 1 (ns.map .str)))])
            ?_ (n := ac.length) ⟨0, [], d3, by omega, by omega, by simp, by assumption, fun _ => by simp, fun _ => ⟨rfl, rfl⟩, rfl, rfl⟩
          rintro m env st ⟨j, ns, dd, hj, rfl, hns, hdd, h5, h4, rfl, rfl⟩
          by_cases hlt : j < ac.length
          · obtain ⟨c, hcc⟩ : ∃ c, ac.length - j = c + 1 := ⟨ac.length - j - 1, by omega⟩
            have hw := q6 dd xa (by decide) (by decide) (by rw [hdd]; exact hd)
            have ew : (dd.word xa).2.l = d.l := by rw [Dc.word_l, hdd]
            have hwsz := (vc _ (dd.word_mem xa (by simp [xa]))).2
            rw [hcc] at h5
            simp only [yd] at h5
            generalize dd.word xa = qw at *
            obtain ⟨s, d9⟩ := qw
            simp only at *
            repeat' (first | refine wC ?_ | refine wK ?_ | ((with_reducible refine zM ?_); refine yj rfl rfl rfl rfl rfl rfl ?_ ?_) | ((with_reducible refine yJ ?_); refine z6 rfl rfl rfl rfl rfl rfl ?_ ?_) | ((with_reducible refine zw ?_); refine zh rfl rfl rfl rfl rfl rfl rfl rfl rfl rfl ?_ ?_ ?_) | ((with_reducible refine ze ?_); refine wN (.t (.str s)) [(.par 1, .loc 91)] hw ?_) | refine zd rfl ?_ ?_ <;> intro hc)
            all_goals try (exfalso; omega)
            refine zI (n' := ac.length - (j + 1)) (by omega) (za [0, 4, 5, 7, 82, 83] [.par 0, .loc 4, .loc 7, .loc 900, .loc 901] rfl rfl) ⟨j + 1, ns, dd, by omega, rfl, by omega, hdd, fun h => absurd h (by omega), h4, ?_, rfl⟩
            rw [zr (by omega) (by omega)]; rfl
          · have hje : j = ac.length := by omega
            repeat' (first | refine wC ?_ | refine wK ?_ | refine zd rfl ?_ ?_ <;> intro hc)
            all_goals try (exfalso; omega)
            have er : res = (Nd.mk k false 0 eS ns ac, dd) := by
              rw [← hres3]
              rcases hk with rfl | rfl
              · obtain ⟨h4a, h4b⟩ := h4 rfl
                rw [if_neg (by decide), h4a, h4b]
              · have h5 := h5 rfl
                rw [hje, Nat.sub_self] at h5
                simp only [yd, List.append_nil] at h5
                rw [if_pos rfl, ← h5]
            rw [er]
            simp only
            rw [Nd.toT_eq]
            refine zv (za [4] [.par 0, .loc 4, .loc 900, .loc 901] rfl rfl) ?_
            refine zv (zB (id := .loc 900) rfl rfl rfl) ?_; refine zv (zB (id := .loc 901) rfl rfl rfl) ?_
            exact wB
      · rw [if_neg hc] at hres
        simp only at hres
        have hg : ∃ g : List Nd × Dc, g = (acc, d2) ∧ g.1.length ≤ 17 ∧ g.2.l = d.l := ⟨_, rfl, by simp only; omega, by simp only; assumption⟩
        obtain ⟨g, eg, hg1, hg2⟩ := hg
        refine zl (zH (r := .loc 7) 4 (.loc 901) 9 1 rfl rfl rfl rfl rfl) ?_
        refine zl (za [0, 4, 5, 7, 82, 83] [.par 0, .loc 4, .loc 7, .loc 900, .loc 901] rfl rfl) ?_
        have hres3 : (Nd.mk k false 0 eS (if k = 5 then yd acc.length 0 d2 else ([], d2)).1 acc, (if k = 5 then yd acc.length 0 d2 else ([], d2)).2) = res := by rw [← hres]
        clear h20
        refine zz (fun m env st => ∃ (j : Nat) (ns : List ByteArray) (dd : Dc), j ≤ acc.length ∧ m = acc.length - j ∧ ns.length ≤ j ∧ dd.l = d.l ∧ (k = 5 → (ns ++ (yd (acc.length - j) j dd).1, (yd (acc.length - j) j dd).2) = yd acc.length 0 d2) ∧ (k = 4 → ns = [] ∧ dd = d2) ∧
            env = EnvL.get [(0, .ref (.par 0) 0 0 0), (4, .ref (.loc 4) 0 0 0), (5, .t (.int .i64 k)), (7, .ref (.loc 7) 0 0 0), (82, .t (.int .i64 acc.length)), (83, .t (.int .i64 (j : Int)))] ∧
            st = StO.get [(.par 0, some dd.row), (.loc 4, some (.var 30 [.t (.int .i64 0), .t (.bool false), .t (.int .i64 0), .t (.str ⟨#[]⟩), .t .nilsl, .t .nilsl])), (.loc 7, some (.var 30 [.t (.int .i64 k), .t (.bool false), .t (.int .i64 0), .t (.str ⟨#[]⟩), .row (.loc 901), .row (.loc 900)])), (.loc 900, some (.slt 30 6 (acc.map Nd.toT))), (.loc 901, some (.slt 9 1 (ns.map .str)))])
          ?_ (n := acc.length) ⟨0, [], d2, by omega, by omega, by simp, by assumption, fun _ => by simp, fun _ => ⟨rfl, rfl⟩, rfl, rfl⟩
        rintro m env st ⟨j, ns, dd, hj, rfl, hns, hdd, h5, h4, rfl, rfl⟩
        by_cases hlt : j < acc.length
        · obtain ⟨c, hcc⟩ : ∃ c, acc.length - j = c + 1 := ⟨acc.length - j - 1, by omega⟩
          have hw := q6 dd xa (by decide) (by decide) (by rw [hdd]; exact hd)
          have ew : (dd.word xa).2.l = d.l := by rw [Dc.word_l, hdd]
          have hwsz := (vc _ (dd.word_mem xa (by simp [xa]))).2
          rw [hcc] at h5
          simp only [yd] at h5
          generalize dd.word xa = qw at *
          obtain ⟨s, d9⟩ := qw
          simp only at *
          repeat' (first | refine wC ?_ | refine wK ?_ | ((with_reducible refine zM ?_); refine yj rfl rfl rfl rfl rfl rfl ?_ ?_) | ((with_reducible refine yJ ?_); refine z6 rfl rfl rfl rfl rfl rfl ?_ ?_) | ((with_reducible refine zw ?_); refine zh rfl rfl rfl rfl rfl rfl rfl rfl rfl rfl ?_ ?_ ?_) | ((with_reducible refine ze ?_); refine wN (.t (.str s)) [(.par 1, .loc 91)] hw ?_) | refine zd rfl ?_ ?_ <;> intro hc)
          all_goals try (exfalso; omega)
          refine zI (n' := acc.length - (j + 1)) (by omega) (za [0, 4, 5, 7, 82, 83] [.par 0, .loc 4, .loc 7, .loc 900, .loc 901] rfl rfl) ⟨j + 1, ns, dd, by omega, rfl, by omega, hdd, fun h => absurd h (by omega), h4, ?_, rfl⟩
          rw [zr (by omega) (by omega)]; rfl
        · have hje : j = acc.length := by omega
          repeat' (first | refine wC ?_ | refine wK ?_ | refine zd rfl ?_ ?_ <;> intro hc)
          all_goals try (exfalso; omega)
          have er : res = (Nd.mk k false 0 eS ns acc, dd) := by
            rw [← hres3]
            rcases hk with rfl | rfl
            · obtain ⟨h4a, h4b⟩ := h4 rfl
              rw [if_neg (by decide), h4a, h4b]
            · have h5 := h5 rfl
              rw [hje, Nat.sub_self] at h5
              simp only [yd, List.append_nil] at h5
              rw [if_pos rfl, ← h5]
          rw [er]
          simp only
          rw [Nd.toT_eq]
          refine zv (za [4] [.par 0, .loc 4, .loc 900, .loc 901] rfl rfl) ?_
          refine zv (zB (id := .loc 900) rfl rfl rfl) ?_; refine zv (zB (id := .loc 901) rfl rfl rfl) ?_
          exact wB
    | succ c =>
      have hF := hf d' (by rw [e']; exact hd)
      have eF := hl d'
      simp only [yQ] at hi
      generalize f d' = qf at *
      obtain ⟨x, d2⟩ := qf
      simp only at *
      have hF := hF.res x.toT_full
      have hn1 : IntKind.i64.wrap (n - 1) = n - 1 := zr (by omega) (by omega)
      rw [← hn1] at hF
      repeat' (first | refine wC ?_ | refine wK ?_ | ((with_reducible refine zw ?_); refine zh rfl rfl rfl rfl rfl rfl rfl rfl rfl rfl ?_ ?_ ?_) | ((with_reducible refine ze ?_); refine wN (.t (.agg [_, _, _, _, _, _])) [] hF ?_) | refine zd rfl ?_ ?_ <;> intro hc)
      all_goals try (exfalso; omega)
      · simp only [List.length_map, List.length_cons, List.length_nil]; omega
      · simp only [List.length_map, List.length_cons, List.length_nil]; omega
      · refine zI (n' := c) (by omega) ((za [0, 1, 4, 5, 7, 8] [.par 0, .loc 4, .loc 7, .loc 62] rfl rfl).trans (zg (.loc 62) (.loc 900) rfl rfl rfl rfl)) ⟨c, acc ++ [x], d2, rfl, by omega, by simp; omega, by rw [eF, e'], by rw [← hi, List.append_assoc]; rfl, ?_, ?_⟩
        · rw [zr (by omega) (by omega), show ((c + 1 : Nat) : Int) - 1 = (c : Int) by omega]; rfl
        · rw [List.map_append, List.map_singleton, x.toT_full]; rfl
  · refine zl (zH (r := .loc 7) 5 (.loc 900) 30 6 rfl rfl rfl rfl rfl) ?_
    refine zl (za [0, 1, 4, 5, 7, 8] [.par 0, .loc 4, .loc 7, .loc 900] rfl rfl) ?_
    refine zz (fun m env st => ∃ (c : Nat) (acc : List Nd) (d' : Dc), m = c ∧ c ≤ 3 ∧ acc.length + c ≤ 3 ∧ d'.l = d.l ∧ (acc ++ (yQ f c d').1, (yQ f c d').2) = yQ f v4.toNat d4 ∧
        env = EnvL.get [(0, .ref (.par 0) 0 0 0), (1, .t (.int .i64 n)), (4, .ref (.loc 4) 0 0 0), (5, .t (.int .i64 k)), (7, .ref (.loc 7) 0 0 0), (8, .t (.int .i64 (c : Int)))] ∧
        st = StO.get [(.par 0, some d'.row), (.loc 4, some (.var 30 [.t (.int .i64 0), .t (.bool false), .t (.int .i64 0), .t (.str ⟨#[]⟩), .t .nilsl, .t .nilsl])), (.loc 7, some (.var 30 [.t (.int .i64 k), .t (.bool false), .t (.int .i64 0), .t (.str ⟨#[]⟩), .t .nilsl, .row (.loc 900)])), (.loc 900, some (.slt 30 6 (acc.map Nd.toT)))])
      ?_ (n := v4.toNat) ⟨v4.toNat, [], d4, rfl, by omega, by simp; omega, e4, by simp, by rw [show ((v4.toNat : Nat) : Int) = v4 by omega]; rfl, rfl⟩
    rintro m env st ⟨c, acc, d', rfl, hc3, ha, e', hi, rfl, rfl⟩
    cases m with
    | zero =>
      simp only [yQ, List.append_nil] at hi
      have h20 := y9 d' 20 (by omega) (by rw [e']; exact hd)
      have e20 : (d'.next 20).2.l = d.l := by rw [Dc.next_l, e']
      rw [← hi] at hres
      simp only at hres
      generalize d'.next 20 = q20 at *
      obtain ⟨z, d2⟩ := q20
      simp only at *
      repeat' (first | refine wC ?_ | refine wK ?_ | ((with_reducible refine ze ?_); refine wN (.t (.int .i64 z)) [] h20 ?_) | refine zd rfl ?_ ?_ <;> intro hc)
      · rw [if_pos hc] at hres
        have hac : acc.length ≤ 17 := by omega
        refine zl (za [0, 4, 5, 7] [.par 0, .loc 4, .loc 7, .loc 900] rfl rfl) ?_
        clear h20
        refine zz (fun m env st => ∃ (fu : Nat) (ac : List Nd) (dd : Dc), m = fu ∧ 20 ≤ ac.length + fu ∧ ac.length ≤ 17 ∧ dd.l = d.l ∧ vC fu ac dd = vC 20 acc d2 ∧
            env = EnvL.get [(0, .ref (.par 0) 0 0 0), (4, .ref (.loc 4) 0 0 0), (5, .t (.int .i64 k)), (7, .ref (.loc 7) 0 0 0)] ∧
            st = StO.get [(.par 0, some dd.row), (.loc 4, some (.var 30 [.t (.int .i64 0), .t (.bool false), .t (.int .i64 0), .t (.str ⟨#[]⟩), .t .nilsl, .t .nilsl])), (.loc 7, some (.var 30 [.t (.int .i64 k), .t (.bool false), .t (.int .i64 0), .t (.str ⟨#[]⟩), .t .nilsl, .row (.loc 900)])), (.loc 900, some (.slt 30 6 (ac.map Nd.toT)))])
          ?_ (n := 20) ⟨20, acc, d2, rfl, by omega, hac, e20, rfl, rfl, rfl⟩
        rintro m env st ⟨fu, ac, dd, rfl, ha2, ha3, edd, hfi, rfl, rfl⟩
        obtain ⟨fu, rfl⟩ : ∃ x, m = x + 1 := ⟨m - 1, by omega⟩
        have h3 := y9 dd 3 (by omega) (by rw [edd]; exact hd)
        have l3 := dd.next_lt 3 (by omega)
        have e3 : (dd.next 3).2.l = d.l := by rw [Dc.next_l, edd]
        rw [vC] at hfi
        generalize dd.next 3 = q3 at *
        obtain ⟨v, d3⟩ := q3
        simp only at *
        have e15 : IntKind.i64.wrap (15 + v) = 15 + v := zr (by omega) (by omega)
        rw [← e15] at hfi
        repeat' (first | refine wC ?_ | refine wK ?_ | ((with_reducible refine zw ?_); refine zh rfl rfl rfl rfl rfl rfl rfl rfl rfl rfl ?_ ?_ ?_) | ((with_reducible refine ze ?_); refine wN (.t (.int .i64 v)) [] h3 ?_) | refine zd rfl ?_ ?_ <;> intro hc)
        · simp only [List.length_map, List.length_cons, List.length_nil]; omega
        · simp only [List.length_map, List.length_cons, List.length_nil]; omega
        · have hcc : (ac.length : Int) < IntKind.i64.wrap (15 + v) := by simpa using ‹_ < IntKind.i64.wrap (15 + v)›
          rw [if_pos hcc] at hfi
          rw [e15] at hcc
          refine zI (n' := fu) (by omega) ((zav (id := .loc 78) (r' := .slt 30 6 ((ac ++ [Nd.zero]).map Nd.toT)) rfl (RowLE.slt ?_) rfl).trans ((za [0, 4, 5, 7] [.par 0, .loc 4, .loc 7, .loc 78] rfl rfl).trans (zg (.loc 78) (.loc 900) rfl rfl rfl rfl))) ⟨fu, ac ++ [Nd.zero], d3, rfl, by simp; omega, by simp; omega, e3, hfi, rfl, rfl⟩
          rw [List.map_append, List.map_singleton, zJ]
          exact TLs.append (TLs.refl _) wT
        · have hcc : ¬ (ac.length : Int) < IntKind.i64.wrap (15 + v) := by simpa using ‹¬ _ < IntKind.i64.wrap (15 + v)›
          rw [if_neg hcc] at hfi
          rw [← hfi] at hres
          simp only at hres
          have hg : ∃ g : List Nd × Dc, g = (ac, d3) ∧ g.1.length ≤ 17 ∧ g.2.l = d.l := ⟨_, rfl, by simp only; omega, by simp only; assumption⟩
          obtain ⟨g, eg, hg1, hg2⟩ := hg
          refine zl (zH (r := .loc 7) 4 (.loc 901) 9 1 rfl rfl rfl rfl rfl) ?_
          refine zl (za [0, 4, 5, 7, 82, 83] [.par 0, .loc 4, .loc 7, .loc 900, .loc 901] rfl rfl) ?_
          have hres3 : (Nd.mk k false 0 eS (if k = 5 then yd ac.length 0 d3 else ([], d3)).1 ac, (if k = 5 then yd ac.length 0 d3 else ([], d3)).2) = res := by rw [← hres]
          clear h3
          refine zz (fun m env st => ∃ (j : Nat) (ns : List ByteArray) (dd : Dc), j ≤ ac.length ∧ m = ac.length - j ∧ ns.length ≤ j ∧ dd.l = d.l ∧ (k = 5 → (ns ++ (yd (ac.length - j) j dd).1, (yd (ac.length - j) j dd).2) = yd ac.length 0 d3) ∧ (k = 4 → ns = [] ∧ dd = d3) ∧
              env = EnvL.get [(0, .ref (.par 0) 0 0 0), (4, .ref (.loc 4) 0 0 0), (5, .t (.int .i64 k)), (7, .ref (.loc 7) 0 0 0), (82, .t (.int .i64 ac.length)), (83, .t (.int .i64 (j : Int)))] ∧
              st = StO.get [(.par 0, some dd.row), (.loc 4, some (.var 30 [.t (.int .i64 0), .t (.bool false), .t (.int .i64 0), .t (.str ⟨#[]⟩), .t .nilsl, .t .nilsl])), (.loc 7, some (.var 30 [.t (.int .i64 k), .t (.bool false), .t (.int .i64 0), .t (.str ⟨#[]⟩), .row (.loc 901), .row (.loc 900)])), (.loc 900, some (.slt 30 6 (ac.map Nd.toT))), (.loc 901, some (.slt 9 1 (ns.map .str)))])
            ?_ (n := ac.length) ⟨0, [], d3, by omega, by omega, by simp, by assumption, fun _ => by simp, fun _ => ⟨rfl, rfl⟩, rfl, rfl⟩
          rintro m env st ⟨j, ns, dd, hj, rfl, hns, hdd, h5, h4, rfl, rfl⟩
          by_cases hlt : j < ac.length
          · obtain ⟨c, hcc⟩ : ∃ c, ac.length - j = c + 1 := ⟨ac.length - j - 1, by omega⟩
            have hw := q6 dd xa (by decide) (by decide) (by rw [hdd]; exact hd)
            have ew : (dd.word xa).2.l = d.l := by rw [Dc.word_l, hdd]
            have hwsz := (vc _ (dd.word_mem xa (by simp [xa]))).2
            rw [hcc] at h5
            simp only [yd] at h5
            generalize dd.word xa = qw at *
            obtain ⟨s, d9⟩ := qw
            simp only at *
            repeat' (first | refine wC ?_ | refine wK ?_ | ((with_reducible refine zM ?_); refine yj rfl rfl rfl rfl rfl rfl ?_ ?_) | ((with_reducible refine yJ ?_); refine z6 rfl rfl rfl rfl rfl rfl ?_ ?_) | ((with_reducible refine zw ?_); refine zh rfl rfl rfl rfl rfl rfl rfl rfl rfl rfl ?_ ?_ ?_) | ((with_reducible refine ze ?_); refine wN (.t (.str s)) [(.par 1, .loc 91)] hw ?_) | refine zd rfl ?_ ?_ <;> intro hc)
            all_goals try (exfalso; omega)
            all_goals try rw [zhH j (by omega)]
            · intro e he
              simp only [List.mem_cons, List.not_mem_nil, or_false] at he
              rcases he with rfl | rfl <;> rfl
            · have : (zgr j).size = 2 := rfl
              omega
            · simp only [List.length_map, List.length_cons, List.length_nil]; omega
            · simp only [List.length_map, List.length_cons, List.length_nil]; omega
            · refine zI (n' := ac.length - (j + 1)) (by omega) ((za [0, 4, 5, 7, 82, 83] [.par 0, .loc 4, .loc 7, .loc 900, .loc 105] rfl rfl).trans (zg (.loc 105) (.loc 901) rfl rfl rfl rfl)) ⟨j + 1, ns ++ [s ++ zgr j], d9, by omega, rfl, by simp; omega, ew, fun h => ?_, fun h => by omega, ?_, ?_⟩
              · rw [← h5 h, show ac.length - (j + 1) = c by omega, List.append_assoc]; rfl
              · rw [zr (by omega) (by omega)]; rfl
              · rw [List.map_append, List.map_singleton]; rfl
          · have hje : j = ac.length := by omega
            repeat' (first | refine wC ?_ | refine wK ?_ | refine zd rfl ?_ ?_ <;> intro hc)
            all_goals try (exfalso; omega)
            have er : res = (Nd.mk k false 0 eS ns ac, dd) := by
              rw [← hres3]
              rcases hk with rfl | rfl
              · obtain ⟨h4a, h4b⟩ := h4 rfl
                rw [if_neg (by decide), h4a, h4b]
              · have h5 := h5 rfl
                rw [hje, Nat.sub_self] at h5
                simp only [yd, List.append_nil] at h5
                rw [if_pos rfl, ← h5]
            rw [er]
            simp only
            rw [Nd.toT_eq]
            refine zv (za [4] [.par 0, .loc 4, .loc 900, .loc 901] rfl rfl) ?_
            refine zv (zB (id := .loc 900) rfl rfl rfl) ?_; refine zv (zB (id := .loc 901) rfl rfl rfl) ?_
            exact wB
      · rw [if_neg hc] at hres
        simp only at hres
        have hg : ∃ g : List Nd × Dc, g = (acc, d2) ∧ g.1.length ≤ 17 ∧ g.2.l = d.l := ⟨_, rfl, by simp only; omega, by simp only; assumption⟩
        obtain ⟨g, eg, hg1, hg2⟩ := hg
        refine zl (zH (r := .loc 7) 4 (.loc 901) 9 1 rfl rfl rfl rfl rfl) ?_
        refine zl (za [0, 4, 5, 7, 82, 83] [.par 0, .loc 4, .loc 7, .loc 900, .loc 901] rfl rfl) ?_
        have hres3 : (Nd.mk k false 0 eS (if k = 5 then yd acc.length 0 d2 else ([], d2)).1 acc, (if k = 5 then yd acc.length 0 d2 else ([], d2)).2) = res := by rw [← hres]
        clear h20
        refine zz (fun m env st => ∃ (j : Nat) (ns : List ByteArray) (dd : Dc), j ≤ acc.length ∧ m = acc.length - j ∧ ns.length ≤ j ∧ dd.l = d.l ∧ (k = 5 → (ns ++ (yd (acc.length - j) j dd).1, (yd (acc.length - j) j dd).2) = yd acc.length 0 d2) ∧ (k = 4 → ns = [] ∧ dd = d2) ∧
            env = EnvL.get [(0, .ref (.par 0) 0 0 0), (4, .ref (.loc 4) 0 0 0), (5, .t (.int .i64 k)), (7, .ref (.loc 7) 0 0 0), (82, .t (.int .i64 acc.length)), (83, .t (.int .i64 (j : Int)))] ∧
            st = StO.get [(.par 0, some dd.row), (.loc 4, some (.var 30 [.t (.int .i64 0), .t (.bool false), .t (.int .i64 0), .t (.str ⟨#[]⟩), .t .nilsl, .t .nilsl])), (.loc 7, some (.var 30 [.t (.int .i64 k), .t (.bool false), .t (.int .i64 0), .t (.str ⟨#[]⟩), .row (.loc 901), .row (.loc 900)])), (.loc 900, some (.slt 30 6 (acc.map Nd.toT))), (.loc 901, some (.slt 9 1 (ns.map .str)))])
          ?_ (n := acc.length) ⟨0, [], d2, by omega, by omega, by simp, by assumption, fun _ => by simp, fun _ => ⟨rfl, rfl⟩, rfl, rfl⟩
        rintro m env st ⟨j, ns, dd, hj, rfl, hns, hdd, h5, h4, rfl, rfl⟩
        by_cases hlt : j < acc.length
        · obtain ⟨c, hcc⟩ : ∃ c, acc.length - j = c + 1 := ⟨acc.length - j - 1, by omega⟩
          have hw := q6 dd xa (by decide) (by decide) (by rw [hdd]; exact hd)
          have ew : (dd.word xa).2.l = d.l := by rw [Dc.word_l, hdd]
          have hwsz := (vc _ (dd.word_mem xa (by simp [xa]))).2
          rw [hcc] at h5
          simp only [yd] at h5
          generalize dd.word xa = qw at *
          obtain ⟨s, d9⟩ := qw
          simp only at *
          repeat' (first | refine wC ?_ | refine wK ?_ | ((with_reducible refine zM ?_); refine yj rfl rfl rfl rfl rfl rfl ?_ ?_) | ((with_reducible refine yJ ?_); refine z6 rfl rfl rfl rfl rfl rfl ?_ ?_) | ((with_reducible refine zw ?_); refine zh rfl rfl rfl rfl rfl rfl rfl rfl rfl rfl ?_ ?_ ?_) | ((with_reducible refine ze ?_); refine wN (.t (.str s)) [(.par 1, .loc 91)] hw ?_) | refine zd rfl ?_ ?_ <;> intro hc)
          all_goals try (exfalso; omega)
          all_goals try rw [zhH j (by omega)]
          · intro e he
            simp only [List.mem_cons, List.not_mem_nil, or_false] at he
            rcases he with rfl | rfl <;> rfl
          · have : (zgr j).size = 2 := rfl
            omega
          · simp only [List.length_map, List.length_cons, List.length_nil]; omega
          · simp only [List.length_map, List.length_cons, List.length_nil]; omega
          · refine zI (n' := acc.length - (j + 1)) (by omega) ((za [0, 4, 5, 7, 82, 83] [.par 0, .loc 4, .loc 7, .loc 900, .loc 105] rfl rfl).trans (zg (.loc 105) (.loc 901) rfl rfl rfl rfl)) ⟨j + 1, ns ++ [s ++ zgr j], d9, by omega, rfl, by simp; omega, ew, fun h => ?_, fun h => by omega, ?_, ?_⟩
            · rw [← h5 h, show acc.length - (j + 1) = c by omega, List.append_assoc]; rfl
            · rw [zr (by omega) (by omega)]; rfl
            · rw [List.map_append, List.map_singleton]; rfl
        · have hje : j = acc.length := by omega
          repeat' (first | refine wC ?_ | refine wK ?_ | refine zd rfl ?_ ?_ <;> intro hc)
          all_goals try (exfalso; omega)
          have er : res = (Nd.mk k false 0 eS ns acc, dd) := by
            rw [← hres3]
            rcases hk with rfl | rfl
            · obtain ⟨h4a, h4b⟩ := h4 rfl
              rw [if_neg (by decide), h4a, h4b]
            · have h5 := h5 rfl
              rw [hje, Nat.sub_self] at h5
              simp only [yd, List.append_nil] at h5
              rw [if_pos rfl, ← h5]
          rw [er]
          simp only
          rw [Nd.toT_eq]
          refine zv (za [4] [.par 0, .loc 4, .loc 900, .loc 901] rfl rfl) ?_
          refine zv (zB (id := .loc 900) rfl rfl rfl) ?_; refine zv (zB (id := .loc 901) rfl rfl rfl) ?_
          exact wB
    | succ c =>
      have hF := hf d' (by rw [e']; exact hd)
      have eF := hl d'
      simp only [yQ] at hi
      generalize f d' = qf at *
      obtain ⟨x, d2⟩ := qf
      simp only at *
      have hF := hF.res x.toT_full
      have hn1 : IntKind.i64.wrap (n - 1) = n - 1 := zr (by omega) (by omega)
      rw [← hn1] at hF
      repeat' (first | refine wC ?_ | refine wK ?_ | ((with_reducible refine zw ?_); refine zh rfl rfl rfl rfl rfl rfl rfl rfl rfl rfl ?_ ?_ ?_) | ((with_reducible refine ze ?_); refine wN (.t (.agg [_, _, _, _, _, _])) [] hF ?_) | refine zd rfl ?_ ?_ <;> intro hc)
      all_goals try (exfalso; omega)
      · simp only [List.length_map, List.length_cons, List.length_nil]; omega
      · simp only [List.length_map, List.length_cons, List.length_nil]; omega
      · refine zI (n' := c) (by omega) ((za [0, 1, 4, 5, 7, 8] [.par 0, .loc 4, .loc 7, .loc 62] rfl rfl).trans (zg (.loc 62) (.loc 900) rfl rfl rfl rfl)) ⟨c, acc ++ [x], d2, rfl, by omega, by simp; omega, by rw [eF, e'], by rw [← hi, List.append_assoc]; rfl, ?_, ?_⟩
        · rw [zr (by omega) (by omega), show ((c + 1 : Nat) : Int) - 1 = (c : Int) by omega]; rfl
        · rw [List.map_append, List.map_singleton, x.toT_full]; rfl
theorem zdq : ∀ (n : Nat), n ≤ 1000 → ∀ d : Dc, d.l.length ≤ 1000 → Spec Tryz.prog 23 [.ref (.par 0) 0 0 0, .t (.int .i64 (n : Int))] [(.par 0, d.row)] (.t (qA n d).1.toT) [(.par 0, (qA n d).2.row)]
  | 0, hn, d, hd => zag 0 (by omega) none (fun _ => by omega) d hd (by simp)
  | 1, hn, d, hd => zag 1 (by omega) none (fun _ => by omega) d hd (by simp)
  | n + 2, hn, d, hd => by
    refine zag ((n + 2 : Nat) : Int) (by omega) (some (qA (n + 1))) (by simp) d hd ?_
    rintro f hf k d1 hq hk
    cases hf
    refine zkf ((n + 2 : Nat) : Int) (by omega) _ (zf1 (n + 1)) (fun d' hd' => ?_) d hd k hk d1 hq
    have h := zdq (n + 1) (by omega) d' hd'
    rw [show ((n + 2 : Nat) : Int) - 1 = ((n + 1 : Nat) : Int) by omega]
    exact h
set_option maxHeartbeats 4000000 in
theorem zjL (n : Nat) (hn : 1 ≤ n ∧ n ≤ 1000) (d : Dc) (hd : d.l.length ≤ 1000) : Spec Tryz.prog 15 [.ref (.par 0) 0 0 0, .t (.int .i64 (n : Int))] [(.par 0, d.row)] (.t (zih n d).1.toT) [(.par 0, (zih n d).2.row)] := by
  have h4 := y9 d 4 (by omega) hd
  have l4 := d.next_lt 4 (by omega)
  have e4 : (d.next 4).2.l = d.l := d.next_l _
  have hf := zdq (n - 1) (by omega)
  have hl := zf1 (n - 1)
  unfold zih
  generalize qA (n - 1) = f at *
  generalize d.next 4 = q4 at *
  obtain ⟨v4, d4⟩ := q4
  simp only at *
  refine wIG Tryz.func15 ?_
  repeat' (first | refine wC ?_ | refine wK ?_ | ((with_reducible refine ze ?_); refine wN (.t (.int .i64 v4)) [] h4 ?_) | fail)
  refine zl (zH (r := .loc 5) 4 (.loc 900) 9 1 rfl rfl rfl rfl rfl) ?_
  refine zl (zH (r := .loc 5) 5 (.loc 901) 30 6 rfl rfl rfl rfl rfl) ?_
  refine zl (za [0, 1, 4, 5, 9, 10] [.par 0, .loc 4, .loc 5, .loc 900, .loc 901] rfl rfl) ?_
  generalize hI : yQ f v4.toNat d4 = R at *
  clear h4
  refine zz (fun m env st => ∃ (j : Nat) (acc : List Nd) (dd : Dc), (j : Int) ≤ v4 ∧ m = v4.toNat - j ∧ acc.length = j ∧ dd.l = d.l ∧ (acc ++ (yQ f (v4.toNat - j) dd).1, (yQ f (v4.toNat - j) dd).2) = R ∧
      env = EnvL.get [(0, .ref (.par 0) 0 0 0), (1, .t (.int .i64 (n : Int))), (4, .ref (.loc 4) 0 0 0), (5, .ref (.loc 5) 0 0 0), (9, .t (.int .i64 v4)), (10, .t (.int .i64 (j : Int)))] ∧
      st = StO.get [(.par 0, some dd.row), (.loc 4, some (.var 30 [.t (.int .i64 0), .t (.bool false), .t (.int .i64 0), .t (.str ⟨#[]⟩), .t .nilsl, .t .nilsl])), (.loc 5, some (.var 30 [.t (.int .i64 5), .t (.bool false), .t (.int .i64 0), .t (.str ⟨#[]⟩), .row (.loc 900), .row (.loc 901)])), (.loc 900, some (.slt 9 1 ((yu.take j).map .str))), (.loc 901, some (.slt 30 6 (acc.map Nd.toT)))])
    ?_ (n := v4.toNat) ⟨0, [], d4, by omega, by omega, rfl, e4, by rw [← hI]; rfl, rfl, rfl⟩
  rintro m env st ⟨j, acc, dd, hj, rfl, hac, edd, hi, rfl, rfl⟩
  by_cases hlt : (j : Int) < v4
  · obtain ⟨c, hcc⟩ : ∃ c, v4.toNat - j = c + 1 := ⟨v4.toNat - j - 1, by omega⟩
    have hF := hf dd (by rw [edd]; exact hd)
    have eF := hl dd
    rw [hcc] at hi
    simp only [yQ] at hi
    generalize f dd = qf at *
    obtain ⟨x, d2⟩ := qf
    simp only at *
    have hF := hF.res x.toT_full
    have hn1 : IntKind.i64.wrap ((n : Int) - 1) = ((n - 1 : Nat) : Int) := by rw [zr (by omega) (by omega)]; omega
    rw [← hn1] at hF
    have hm : (yu.take (j + 1)).map T.str = (yu.take j).map T.str ++ [.str (yu.getD (j : Int).toNat default)] := by
      rw [List.take_add_one, List.map_append, Int.toNat_natCast, List.getD_eq_getElem?_getD]
      have : j < yu.length := by simp only [yu, List.length_cons, List.length_nil]; omega
      rw [List.getElem?_eq_getElem this]; rfl
    repeat' (first | refine wC ?_ | refine yS (f := T.str) (l := yu) rfl rfl rfl rfl rfl rfl rfl rfl ?_ ?_ | refine wK ?_ | ((with_reducible refine zA ?_); refine yf rfl rfl rfl rfl rfl rfl rfl ?_ ?_ ?_) | ((with_reducible refine zw ?_); refine zh rfl rfl rfl rfl rfl rfl rfl rfl rfl rfl ?_ ?_ ?_) | ((with_reducible refine ze ?_); refine wN (.t (.agg [_, _, _, _, _, _])) [] hF ?_) | refine zd rfl ?_ ?_ <;> intro hc)
    all_goals try (exfalso; omega)
    · omega
    · simp only [List.length_cons, List.length_nil]; omega
    · simp only [yu, List.length_cons, List.length_nil]; omega
    · simp only [List.length_map, List.length_cons, List.length_nil, List.length_take]; omega
    · simp only [List.length_map, List.length_cons, List.length_nil, List.length_take]; omega
    · simp only [List.length_map, List.length_cons, List.length_nil]; omega
    · simp only [List.length_map, List.length_cons, List.length_nil]; omega
    · refine zI (n' := v4.toNat - (j + 1)) (by omega) ((za [0, 1, 4, 5, 9, 10] [.par 0, .loc 4, .loc 5, .loc 20, .loc 29] rfl rfl).trans ((zg (.loc 20) (.loc 900) rfl rfl rfl rfl).trans (zg (.loc 29) (.loc 901) rfl rfl rfl rfl))) ⟨j + 1, acc ++ [x], d2, by omega, rfl, by simp [hac], by rw [eF, edd], ?_, ?_, ?_⟩
      · rw [← hi, show v4.toNat - (j + 1) = c by omega, List.append_assoc]; rfl
      · rw [zr (by omega) (by omega)]; rfl
      · rw [hm, List.map_append, List.map_singleton, x.toT_full]; rfl
  · have hje : (j : Int) = v4 := by omega
    repeat' (first | refine wC ?_ | refine wK ?_ | ((with_reducible refine zA ?_); refine yf rfl rfl rfl rfl rfl rfl rfl ?_ ?_ ?_) | refine zd rfl ?_ ?_ <;> intro hc)
    all_goals try (exfalso; omega)
    rw [show v4.toNat - j = 0 by omega] at hi
    simp only [yQ, List.append_nil] at hi
    rw [← hi, show v4.toNat = j by omega]
    simp only
    rw [Nd.toT_eq]
    refine zv (za [4] [.par 0, .loc 4, .loc 900, .loc 901] rfl rfl) ?_
    refine zv (zB (id := .loc 900) rfl rfl rfl) ?_; refine zv (zB (id := .loc 901) rfl rfl rfl) ?_
    exact wB
def Nd.ofNum (n : Int) : Nd := .mk 2 false n eS [] []
theorem zhM (n : Int) : (Nd.ofNum n).Ok := .mk (by simp) (by simp) (by simp)
theorem zch {V : ByteArray → Bool} (hV : VOk V) (n e : Int) (he : 1 ≤ e) : (Nd.ofNum n).validB V e = true := by
  rw [Nd.ofNum, yo]
  exact ⟨he, by decide, by decide, by simp [Nd.fieldsOK, eS], wc hV, by simp, by simp, by simp⟩
def u8L (l : List UInt8) : List T := l.map u8T
theorem zZ (l : List UInt8) : (u8L l).length = l.length := by simp [u8L]
theorem zP (a b : List UInt8) : u8L (a ++ b) = u8L a ++ u8L b := by simp [u8L]
theorem zes (n c : Nat) : IntKind.u8.wrap ((n : Int) / 2 ^ (8 * c)) = ((UInt8.ofNat (n / 256 ^ c)).toNat : Int) := by
  have e : (2 : Int) ^ (8 * c) = ((256 ^ c : Nat) : Int) := by
    have : (256 : Nat) ^ c = 2 ^ (8 * c) := by rw [Nat.pow_mul]
    rw [this]; simp
  rw [e]
  simp only [IntKind.wrap, IntKind.bits, IntKind.signed, Bool.false_and, Bool.false_eq_true, if_false]
  rw [UInt8.toNat_ofNat']
  omega
set_option maxHeartbeats 2000000 in
theorem jq (es : List T) (hes : es.length ≤ 1000000000) (n : Nat) (hn : n < 18446744073709551616) (k : Nat) (hk : k ≤ 8) : Spec Tryz.prog 229 [.row (.par 0), .t (.int .u64 (n : Int)), .t (.int .i64 (k : Int))] [(.par 0, .slt 5 1 es)] (.row (.res 0)) [(.res 0, .slt 5 1 (es ++ u8L (yr k n)))] := by
  refine wIG Tryz.func229 ?_
  repeat' (first | refine wC ?_ | refine wK ?_ | fail)
  refine zl ((za [0, 1, 7] [.par 0] rfl rfl).trans (zbN (.par 0) (.loc 900) rfl rfl rfl rfl)) ?_
  refine zz (fun p env st => ∃ (c : Nat) (xs : List T), c ≤ 8 ∧ p = c ∧ xs.length + c = es.length + k ∧ xs ++ u8L (yr c n) = es ++ u8L (yr k n) ∧
      env = EnvL.get [(0, .row (.loc 900)), (1, .t (.int .u64 (n : Int))), (7, .t (.int .i64 ((c : Int) - 1)))] ∧ st = StO.get [(.loc 900, some (.slt 5 1 xs))])
    ?_ (n := k) ⟨k, es, hk, rfl, rfl, rfl, ?_, rfl⟩
  rotate_left
  · rw [zr (by omega) (by omega)]; rfl
  rintro p env st ⟨c, xs, hc8, rfl, hlen, hi, rfl, rfl⟩
  repeat' (first | refine wC ?_ | refine wK ?_ | ((with_reducible refine zM ?_); refine je rfl rfl rfl rfl rfl rfl ?_ ?_) | ((with_reducible refine zw ?_); refine zh rfl rfl rfl rfl rfl rfl rfl rfl rfl rfl ?_ ?_ ?_) | refine zd rfl ?_ ?_ <;> intro hc)
  · rw [zr (by omega) (by omega)]; omega
  · simp; omega
  · simp; omega
  · obtain ⟨c, rfl⟩ : ∃ c, p = c + 1 := ⟨p - 1, by omega⟩
    refine zI (n' := c) (by omega) ((za [0, 1, 7] [.loc 21] rfl rfl).trans (zg (.loc 21) (.loc 900) rfl rfl rfl rfl)) ⟨c, _, by omega, rfl, ?_, ?_, ?_, rfl⟩
    · simp; omega
    · rw [← hi, List.append_assoc]
      congr 1
      have e : (min (IntKind.i64.wrap (8 * ((c + 1 : Nat) - 1 : Int))).toNat IntKind.u64.bits) = 8 * c := by
        rw [zr (by omega) (by omega)]
        have : IntKind.u64.bits = 64 := rfl
        omega
      rw [e, zes]
      rfl
    · rw [zr (by omega) (by omega)]
      rw [show ((c + 1 : Nat) : Int) - 1 - 1 = (c : Int) - 1 by omega]
      rfl
  · obtain rfl : p = 0 := by omega
    simp only [yr, u8L, List.map_nil, List.append_nil] at hi
    rw [hi]
    refine zv ((za [6] [.loc 900] rfl rfl).trans (zg (.loc 900) (.res 0) rfl rfl rfl rfl)) ?_
    exact zL (zp (zK rfl (AVLE.refl _)) (zc ⟨rfl, trivial⟩))
theorem zkr : ∀ m : Fin 8, ∀ b : Fin 32, IntKind.u8.wrap ((BitVec.ofInt IntKind.u8.bits (IntKind.u8.wrap (IntKind.i64.wrap ((m.val : Int) * 2 ^ min (Int.toNat 5) IntKind.i64.bits))) ||| BitVec.ofInt IntKind.u8.bits (b.val : Int)).toNat : Int) = ((UInt8.ofNat (32 * m.val + b.val)).toNat : Int) := by decide +kernel
theorem zbg {m b : Nat} (hm : m ≤ 7) (hb : b < 32) : IntKind.u8.wrap ((BitVec.ofInt IntKind.u8.bits (IntKind.u8.wrap (IntKind.i64.wrap ((m : Int) * 2 ^ min (Int.toNat 5) IntKind.i64.bits))) ||| BitVec.ofInt IntKind.u8.bits (b : Int)).toNat : Int) = ((UInt8.ofNat (32 * m + b)).toNat : Int) := zkr ⟨m, by omega⟩ ⟨b, hb⟩
theorem xo {n : Int} (h0 : 0 ≤ n) (h : n < 256) : IntKind.u8.wrap n = n := by
  simp only [IntKind.wrap, IntKind.bits, IntKind.signed, Bool.false_and, Bool.false_eq_true, if_false]
  omega
def zlH (m n j : Nat) : List UInt8 := UInt8.ofNat (32 * m + (24 + j)) :: yr (2 ^ j) n
theorem zeV {m n : Nat} (h : n < 24) : hdL m n = [UInt8.ofNat (32 * m + n)] := by unfold hdL; rw [if_pos h]
theorem zjQ {m n j : Nat} (hn : n < 18446744073709551616) (h24 : 24 ≤ n) (hj : j ≤ 3) (hlo : ∀ i, i < j → 256 ^ (2 ^ i) ≤ n) (hhi : n < 256 ^ (2 ^ j)) : hdL m n = zlH m n j := by
  unfold hdL zlH
  rw [if_neg (by omega)]
  match j, hj with
  | 0, _ => rw [if_pos (by simpa using hhi)]; try rfl
  | 1, _ =>
    have := hlo 0 (by omega)
    rw [if_neg (by simp at this; omega), if_pos (by simpa using hhi)]; try rfl
  | 2, _ =>
    have h0 := hlo 0 (by omega)
    have h1 := hlo 1 (by omega)
    rw [if_neg (by simp at h0; omega), if_neg (by simp at h1; omega), if_pos (by simpa using hhi)]; try rfl
  | 3, _ =>
    have h0 := hlo 0 (by omega)
    have h1 := hlo 1 (by omega)
    have h2 := hlo 2 (by omega)
    rw [if_neg (by simp at h0; omega), if_neg (by simp at h1; omega), if_neg (by simp at h2; omega)]; try rfl
theorem zl6 {j : Nat} (hj : j ≤ 3) : IntKind.i64.wrap (1 * 2 ^ min (j : Int).toNat IntKind.i64.bits) = ((2 ^ j : Nat) : Int) := by
  match j, hj with
  | 0, _ | 1, _ | 2, _ | 3, _ => decide
theorem zm8 {j : Nat} (hj : j ≤ 3) : IntKind.u8.wrap (IntKind.i64.wrap (24 + (j : Int))) = ((24 + j : Nat) : Int) := by
  match j, hj with
  | 0, _ | 1, _ | 2, _ | 3, _ => decide
theorem zjD {n j : Nat} (hj : j ≤ 3) : (n : Int) / 2 ^ min (IntKind.u64.wrap (8 * 2 ^ min (j : Int).toNat IntKind.u64.bits)).toNat IntKind.u64.bits = 0 ↔ n < 256 ^ (2 ^ j) := by
  match j, hj with
  | 0, _ => rw [show min (IntKind.u64.wrap (8 * 2 ^ min ((0 : Nat) : Int).toNat IntKind.u64.bits)).toNat IntKind.u64.bits = 8 by decide]; simp <;> omega
  | 1, _ => rw [show min (IntKind.u64.wrap (8 * 2 ^ min ((1 : Nat) : Int).toNat IntKind.u64.bits)).toNat IntKind.u64.bits = 16 by decide]; simp <;> omega
  | 2, _ => rw [show min (IntKind.u64.wrap (8 * 2 ^ min ((2 : Nat) : Int).toNat IntKind.u64.bits)).toNat IntKind.u64.bits = 32 by decide]; simp <;> omega
  | 3, _ => rw [show min (IntKind.u64.wrap (8 * 2 ^ min ((3 : Nat) : Int).toNat IntKind.u64.bits)).toNat IntKind.u64.bits = 64 by decide]; simp <;> omega
set_option maxHeartbeats 4000000 in
theorem xN (es : List T) (hes : es.length ≤ 100000000) (m : Nat) (hm : m ≤ 7) (n : Nat) (hn : n < 18446744073709551616) : Spec Tryz.prog 238 [.row (.par 0), .t (.int .i64 (m : Int)), .t (.int .u64 (n : Int))] [(.par 0, .slt 5 1 es)] (.row (.res 0)) [(.res 0, .slt 5 1 (es ++ u8L (hdL m n)))] := by
  refine wIG Tryz.func238 ?_
  repeat' (first | refine wC ?_ | refine wK ?_ | ((with_reducible refine zw ?_); refine zh rfl rfl rfl rfl rfl rfl rfl rfl rfl rfl ?_ ?_ ?_) | refine zd rfl ?_ ?_ <;> intro hc)
  all_goals try omega
  · simp; omega
  · simp; omega
  · have h24 : n < 24 := by omega
    rw [zeV h24]
    refine zv ((za [6] [.loc 20] rfl rfl).trans (zg (.loc 20) (.res 0) rfl rfl rfl rfl)) ?_
    refine zL (zp (zK rfl (AVLE.refl _)) (zc ⟨?_, trivial⟩))
    rw [xo (n := (n : Int)) (by omega) (by omega), zbg hm (by omega)]
    rfl
  have h24 : 24 ≤ n := by omega
  refine zl (za [0, 2, 7, 21] [.par 0] rfl rfl) ?_
  refine zz (fun p env st => ∃ (j : Nat), j ≤ 3 ∧ p = 3 - j ∧ (∀ i, i < j → 256 ^ (2 ^ i) ≤ n) ∧
      env = EnvL.get [(0, .row (.par 0)), (2, .t (.int .u64 (n : Int))), (7, .t (.int .u8 (IntKind.u8.wrap (IntKind.i64.wrap ((m : Int) * 2 ^ min (Int.toNat 5) IntKind.i64.bits))))), (21, .t (.int .i64 (j : Int)))] ∧ st = StO.get [(.par 0, some (.slt 5 1 es))])
    ?_ (n := 3) ⟨0, by omega, rfl, fun i hi => by omega, rfl, rfl⟩
  rintro p env st ⟨j, hj, rfl, hlo, rfl, rfl⟩
  have hP : ∀ X : T, Spec Tryz.prog 229 [.row (.par 0), .t (.int .u64 (n : Int)), .t (.int .i64 (IntKind.i64.wrap (1 * 2 ^ min (j : Int).toNat IntKind.i64.bits)))] [(.par 0, .slt 5 1 (es ++ [X]))] (.row (.res 0)) [(.res 0, .slt 5 1 ((es ++ [X]) ++ u8L (yr (2 ^ j) n)))] := fun X => by
    rw [zl6 hj]
    exact jq _ (by simp; omega) n hn (2 ^ j) (by match j, hj with | 0, _ | 1, _ | 2, _ | 3, _ => decide)
  have hP8 : ∀ X : T, Spec Tryz.prog 229 [.row (.par 0), .t (.int .u64 (n : Int)), .t (.int .i64 8)] [(.par 0, .slt 5 1 (es ++ [X]))] (.row (.res 0)) [(.res 0, .slt 5 1 ((es ++ [X]) ++ u8L (yr 8 n)))] := fun X =>
    jq _ (by simp; omega) n hn 8 (by omega)
  repeat' (first | refine wC ?_ | refine wK ?_ | ((with_reducible refine zM ?_); first | refine xi rfl rfl rfl rfl rfl rfl ?_ ?_ | refine je rfl rfl rfl rfl rfl rfl ?_ ?_) | ((with_reducible refine zw ?_); refine zh rfl rfl rfl rfl rfl rfl rfl rfl rfl rfl ?_ ?_ ?_) | ((with_reducible refine ze ?_); first | refine wN (.row (.loc 901)) [(.par 0, .loc 36), (.res 0, .loc 901)] (hP _) ?_ | refine wN (.row (.loc 902)) [(.par 0, .loc 46), (.res 0, .loc 902)] (hP8 _) ?_) | refine zd rfl ?_ ?_ <;> intro hc)
  all_goals try omega
  · rw [show (8 : Int) * 2 ^ min (j : Int).toNat IntKind.u64.bits = ((8 * 2 ^ j : Nat) : Int) by match j, hj with | 0, _ | 1, _ | 2, _ | 3, _ => decide]
    simp only [IntKind.wrap, IntKind.bits, IntKind.signed, Bool.false_and, Bool.false_eq_true, if_false]
    omega
  · simp; omega
  · simp; omega
  · have hz := hc
    have hlt := (zjD hj).1 hz
    have e : hdL m n = zlH m n j := zjQ hn h24 hj hlo hlt
    refine zv ((za [6] [.loc 901] rfl rfl).trans (zg (.loc 901) (.res 0) rfl rfl rfl rfl)) ?_
    refine zL (zp (zK rfl (AVLE.refl _)) (zc ⟨?_, trivial⟩))
    rw [e, zm8 hj, zbg hm (by omega), List.append_assoc]
    rfl
  · have hz := hc
    have hge : 256 ^ (2 ^ j) ≤ n := Nat.le_of_not_lt fun h => hz ((zjD hj).2 h)
    refine zI (n' := 3 - (j + 1)) (by omega) (za [0, 2, 7, 21] [.par 0] rfl rfl) ⟨j + 1, by omega, rfl, fun i hi => ?_, by rw [zr (by omega) (by omega)]; rfl, rfl⟩
    rcases Nat.lt_or_ge i j with h | h
    · exact hlo i h
    · obtain rfl : i = j := by omega
      exact hge
  · simp; omega
  · simp; omega
  · obtain rfl : j = 3 := by omega
    have e : hdL m n = zlH m n 3 := zjQ hn h24 (by omega) hlo (by simpa using hn)
    refine zv ((za [6] [.loc 902] rfl rfl).trans (zg (.loc 902) (.res 0) rfl rfl rfl rfl)) ?_
    refine zL (zp (zK rfl (AVLE.refl _)) (zc ⟨?_, trivial⟩))
    rw [e, show (27 : Int) = ((27 : Nat) : Int) from rfl, zbg hm (by omega), List.append_assoc]
    rfl
set_option maxHeartbeats 2000000 in
theorem zdk (k : Int) (b : Bool) (n : Int) (t : ByteArray) (ns : List ByteArray) (is : List Nd) : Spec Tryz.prog 163 [.t (.agg [.int .i64 k, .bool b, .int .i64 n, .str t, .sl 1 (ns.map .str), .sl 6 (is.map Nd.toT)])] [] (.fn 230 [.ref (.res 0) 0 0 0]) [(.res 0, .var 30 [.t (.int .i64 k), .t (.bool b), .t (.int .i64 n), .t (.str t), .t (.sl 1 (ns.map .str)), .t (.sl 6 (is.map Nd.toT))])] := by
  refine wIG Tryz.func163 ?_
  repeat' (first | refine wC ?_ | refine wK ?_ | fail)
  refine zv ((za [2] [.loc 1] rfl rfl).trans (zg (.loc 1) (.res 0) rfl rfl rfl rfl)) ?_
  exact zL (zp (zK rfl (AVLE.of_eq rfl)) (zc ⟨rfl, trivial⟩))
def jr (k : Int) (ns : List ByteArray) (i : Nat) : ByteArray := if k = 5 then ns.getD i default else eS
set_option maxHeartbeats 4000000 in
theorem qx (k : Int) (b : Bool) (n : Int) (t : ByteArray) (ns : List ByteArray) (is : List Nd) (hlen : is.length ≤ 1000) (hk : k = 5 → ns.length = is.length)
    (kk : LoopK) (tb tn : Nat) (e : T) (f : Nat → List T)
    (H : ∀ i, i < is.length → RoundT Tryz.prog kk [(tb, .ref (.par 10) 0 0 0), (tn, .tp e 0)] [.t (.str (jr k ns i)), .t ((is.getD i default).toT)] [(.par 10, .var 82 [.row (.par 11)]), (.par 11, .slt 5 1 (f i))] [(.par 10, .var 82 [.row (.res 0)]), (.res 0, .slt 5 1 (f (i + 1)))]) :
    Spec Tryz.prog 230 [.row (.par 50), .tp (.agg [.int .i64 k, .bool b, .int .i64 n, .str t, .sl 1 (ns.map .str), .sl 6 (is.map Nd.toT)]) 0] [(.par 50, .loop kk [(tb, .ref (.par 10) 0 0 0), (tn, .tp e 0)]), (.par 10, .var 82 [.row (.par 11)]), (.par 11, .slt 5 1 (f 0))]
      (.tup []) [(.par 50, .loop kk [(tb, .ref (.par 10) 0 0 0), (tn, .tp e 0)]), (.par 10, .var 82 [.row (.res 0)]), (.res 0, .slt 5 1 (f is.length))] := by
  refine wIG Tryz.func230 ?_
  repeat' (first | refine wC ?_ | refine wK ?_ | fail)
  refine zl ((za [0, 1, 7, 8, 9] [.par 50, .par 10, .par 11] rfl rfl).trans (zbN (.par 11) (.loc 900) rfl rfl rfl rfl)) ?_
  refine zz (fun p env st => ∃ (j : Nat), j ≤ is.length ∧ p = is.length - j ∧
      env = EnvL.get [(0, .row (.par 50)), (1, .tp (.agg [.int .i64 k, .bool b, .int .i64 n, .str t, .sl 1 (ns.map .str), .sl 6 (is.map Nd.toT)]) 0), (7, .t (.sl 6 (is.map Nd.toT))), (8, .t (.int .i64 (is.length : Int))), (9, .t (.int .i64 (j : Int)))] ∧
      st = StO.get [(.par 50, some (.loop kk [(tb, .ref (.par 10) 0 0 0), (tn, .tp e 0)])), (.par 10, some (.var 82 [.row (.loc 900)])), (.loc 900, some (.slt 5 1 (f j)))])
    ?_ (n := is.length) ⟨0, by omega, rfl, ?_, ?_⟩
  rotate_left
  · rfl
  · rfl
  rintro p env st ⟨j, hj, rfl, rfl, rfl⟩
  by_cases hlt : j < is.length
  · have hR := H j hlt
    have hg : is.getD (j : Int).toNat default = is.getD j default := rfl
    have hT := (is.getD j default).toT_full
    rw [hT] at hR
    by_cases h5 : k = 5
    · subst h5
      have hnm : jr 5 ns j = ns.getD (j : Int).toNat default := by simp [jr]
      rw [hnm] at hR
      have hl5 := hk rfl
      repeat' (first | refine wC ?_ | refine zR rfl rfl hT rfl rfl rfl rfl rfl rfl ?_ | refine wK ?_ | ((with_reducible refine zA ?_); refine zq rfl rfl rfl rfl rfl rfl ?_ ?_ ?_) | ((with_reducible refine ze ?_); refine zhg [(.par 11, .loc 900), (.res 0, .loc 901)] rfl rfl hR rfl (ArgsLE.refl _) rfl rfl ⟨rfl, rfl, trivial⟩ rfl rfl rfl rfl rfl rfl rfl rfl rfl rfl ?_) | refine zd rfl ?_ ?_ <;> intro hc)
      all_goals try omega
      · refine zI (n' := is.length - (j + 1)) (by omega) ((za [0, 1, 7, 8, 9] [.par 50, .par 10, .loc 901] rfl rfl).trans (zg (.loc 901) (.loc 900) rfl rfl rfl rfl)) ⟨j + 1, by omega, rfl, by rw [zr (by omega) (by omega)]; rfl, rfl⟩
    · have hnm : jr k ns j = eS := by simp [jr, h5]
      rw [hnm] at hR
      repeat' (first | refine wC ?_ | refine zR rfl rfl hT rfl rfl rfl rfl rfl rfl ?_ | refine wK ?_ | ((with_reducible refine zA ?_); refine zq rfl rfl rfl rfl rfl rfl ?_ ?_ ?_) | ((with_reducible refine ze ?_); refine zhg [(.par 11, .loc 900), (.res 0, .loc 901)] rfl rfl hR rfl (ArgsLE.refl _) rfl rfl ⟨rfl, rfl, trivial⟩ rfl rfl rfl rfl rfl rfl rfl rfl rfl rfl ?_) | refine zd rfl ?_ ?_ <;> intro hc)
      all_goals try omega
      · refine zI (n' := is.length - (j + 1)) (by omega) ((za [0, 1, 7, 8, 9] [.par 50, .par 10, .loc 901] rfl rfl).trans (zg (.loc 901) (.loc 900) rfl rfl rfl rfl)) ⟨j + 1, by omega, rfl, by rw [zr (by omega) (by omega)]; rfl, rfl⟩
  · repeat' (first | refine wC ?_ | refine wK ?_ | ((with_reducible refine zA ?_); refine zq rfl rfl rfl rfl rfl rfl ?_ ?_ ?_) | refine zd rfl ?_ ?_ <;> intro hc)
    all_goals try omega
    obtain rfl : j = is.length := by omega
    refine zv ((za [] [.par 50, .par 10, .loc 900] rfl rfl).trans (zg (.loc 900) (.res 0) rfl rfl rfl rfl)) ?_
    exact zL (zns (zcw rfl) (zc ⟨rfl, rfl, rfl, trivial⟩))
end Go.AL
namespace Go.AL
open Go Go.RowKit
theorem Nd.ok_of_valid {V : ByteArray → Bool} : ∀ (x : Nd) (e : Int), x.validB V e = true → x.Ok
  | .mk k b n t ns is, e, h => by
    rw [yo] at h
    obtain ⟨_, _, _, h4, _, h6, h7, h8⟩ := h
    refine .mk ?_ (by omega) fun x hx => Nd.ok_of_valid x (e - 1) (h8 x hx)
    by_cases hk : k = 5
    · have := (h7 hk).2; omega
    · have : ns.length = 0 := by
        simp only [Nd.fieldsOK, Bool.and_eq_true, Bool.or_eq_true, decide_eq_true_eq] at h4
        have := h4.2
        omega
      omega
termination_by x => SizeOf.sizeOf x
decreasing_by
  have := List.sizeOf_lt_of_mem hx
  simp only [Nd.mk.sizeOf_spec]
  omega
end Go.AL
