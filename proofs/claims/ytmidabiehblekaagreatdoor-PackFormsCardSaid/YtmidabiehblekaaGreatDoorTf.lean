/- What functions of the program and of the document answer, and the plain laws behind it; each under the conditions that its own theorem names. -/
import Derived.Test.YtmidabiehblekaaGreatDoorTe
import Derived.Test.YtmidabiehblekaaGreatDoorAl3
import Derived.Test.YtmidabiehblekaaGreatDoorTd
import Derived.Lib.ItoaNum
import Derived.Lib.ItoaMem
import Derived.Test.YtmidabiehblekaaGreatDoorTb
import Derived.Test.YtmidabiehblekaaGreatDoorAl4
import Derived.Shelf.Strconv.Itoa1
import Derived.Test.YtmidabiehblekaaGreatDoorTa
import Derived.Shelf.Strconv.Itoa2
import Derived.Shelf.Strconv.Itoa3
import Derived.Lib.AppendIntMem
import Derived.Shelf.Strconv.AtoiAll
set_option linter.unusedVariables false
namespace Go.AL
open Go Go.Proofs Go.RowKit
theorem zmZ {i : Nat} (hi : i ≤ 3) {u : Int} (h0 : 0 ≤ u) (h1 : u < (256 : Int) ^ (2 ^ i)) : IntKind.i64.wrap (IntKind.u64.wrap (u * 2 ^ min (IntKind.i64.wrap (64 - IntKind.i64.wrap (8 * (2 : Int) ^ i))).toNat IntKind.u64.bits)) / 2 ^ min (IntKind.i64.wrap (64 - IntKind.i64.wrap (8 * (2 : Int) ^ i))).toNat IntKind.i64.bits = sx (2 ^ i) u := by
  have w : ∀ x : Int, IntKind.u64.wrap x = x % 18446744073709551616 := fun x => by
    simp only [IntKind.wrap, IntKind.bits, IntKind.signed, Bool.false_and, Bool.false_eq_true, if_false]; rfl
  have v : ∀ x : Int, 0 ≤ x → x < 18446744073709551616 → IntKind.i64.wrap x = if x < 9223372036854775808 then x else x - 18446744073709551616 := fun x hx hx2 => by
    simp only [IntKind.wrap, IntKind.signed, IntKind.bits]
    simp
    split <;> split <;> omega
  match i, hi with
  | 0, _ =>
    rw [show min (IntKind.i64.wrap (64 - IntKind.i64.wrap (8 * (2 : Int) ^ 0))).toNat IntKind.u64.bits = 56 by decide, show min (IntKind.i64.wrap (64 - IntKind.i64.wrap (8 * (2 : Int) ^ 0))).toNat IntKind.i64.bits = 56 by decide, w, v _ (by omega) (by omega)]
    simp at h1
    unfold sx
    simp
    split <;> split <;> omega
  | 1, _ =>
    rw [show min (IntKind.i64.wrap (64 - IntKind.i64.wrap (8 * (2 : Int) ^ 1))).toNat IntKind.u64.bits = 48 by decide, show min (IntKind.i64.wrap (64 - IntKind.i64.wrap (8 * (2 : Int) ^ 1))).toNat IntKind.i64.bits = 48 by decide, w, v _ (by omega) (by omega)]
    simp at h1
    unfold sx
    simp
    split <;> split <;> omega
  | 2, _ =>
    rw [show min (IntKind.i64.wrap (64 - IntKind.i64.wrap (8 * (2 : Int) ^ 2))).toNat IntKind.u64.bits = 32 by decide, show min (IntKind.i64.wrap (64 - IntKind.i64.wrap (8 * (2 : Int) ^ 2))).toNat IntKind.i64.bits = 32 by decide, w, v _ (by omega) (by omega)]
    simp at h1
    unfold sx
    simp
    split <;> split <;> omega
  | 3, _ =>
    rw [show min (IntKind.i64.wrap (64 - IntKind.i64.wrap (8 * (2 : Int) ^ 3))).toNat IntKind.u64.bits = 0 by decide, show min (IntKind.i64.wrap (64 - IntKind.i64.wrap (8 * (2 : Int) ^ 3))).toNat IntKind.i64.bits = 0 by decide, w, v _ (by omega) (by omega)]
    simp at h1
    unfold sx
    simp
    split <;> split <;> omega
theorem zoh : ∀ c : Fin 256, 224 ≤ c.val → IntKind.i64.wrap (IntKind.i8.wrap (c.val : Int)) = (c.val : Int) - 256 := by decide +kernel
theorem zds {r : Rs} {i : Nat} (hi : i ≤ 3) : 0 ≤ (r.uint (2 ^ i)).1 ∧ (r.uint (2 ^ i)).1 < (256 : Int) ^ (2 ^ i) := by
  by_cases h : (r.uint (2 ^ i)).2.bad = false
  · exact (vT hi h).2.2
  · have hb : (r.take (2 ^ i)).2.bad = true := by
      have : (r.uint (2 ^ i)).2 = (r.take (2 ^ i)).2 := rfl
      rw [this] at h; simpa using h
    have he : (r.take (2 ^ i)).1 = eS := by
      unfold Rs.take at hb ⊢
      split
      · rfl
      · rename_i hn; rw [if_neg hn] at hb; simp at hb
    unfold Rs.uint
    rw [he]
    exact ⟨Int.le_refl 0, Int.pow_pos (by decide)⟩
set_option maxHeartbeats 8000000 in
theorem zij (r : Rs) (hs : r.s.size ≤ 1000000) (c : Int) (c0 : 0 ≤ c) (c1 : c < 256) : Spec Tryz.prog 247 [.ref (.par 0) 0 0 0, .t (.int .u8 c)] [(.par 0, r.row 197)] (.t (.int .i64 (wX r c).1)) [(.par 0, (wX r c).2.row 197)] := by
  have hU : ∀ (m : Int) (i : Nat) (k : Int), k = 2 ^ i → i ≤ 3 → Spec Tryz.prog 281 [.ref (.par 0) 0 0 0, .t (.int .i64 k)] [(.par 0, r.row 197)] (.t (.int .u64 (r.uint (2 ^ i)).1)) [(.par 0, (r.uint (2 ^ i)).2.row 197)] := fun m i k hk hi => by
    subst hk
    refine zb2 197 r _ ?_ (by omega)
    match i, hi with
    | 0, _ | 1, _ | 2, _ | 3, _ => decide
  unfold wX
  by_cases hA : c < 128
  · rw [if_pos hA]
    obtain ⟨s, bad⟩ := r
    unfold Rs.row at *
    simp only
    refine wI Tryz.func247 ?_
    repeat' (first | refine wC ?_ | refine wK ?_ | ((with_reducible refine zM ?_); refine xi rfl rfl rfl rfl rfl rfl ?_ ?_) | refine zd rfl ?_ ?_ <;> intro hc | refine zj rfl ?_ ?_ <;> intro hc)
    all_goals try (exfalso; omega)
    exact zp (zo rfl rfl (congrArg (T.int .i64) (zr (by omega) (by omega)))) (zc ⟨rfl, trivial⟩)
  rw [if_neg hA]
  by_cases hB : 224 ≤ c
  · rw [if_pos hB]
    have h8 := zoh ⟨c.toNat, by omega⟩ (by simp only; omega)
    simp only at h8
    rw [show ((c.toNat : Nat) : Int) = c by omega] at h8
    obtain ⟨s, bad⟩ := r
    unfold Rs.row at *
    simp only
    refine wI Tryz.func247 ?_
    repeat' (first | refine wC ?_ | refine wK ?_ | ((with_reducible refine zM ?_); refine xi rfl rfl rfl rfl rfl rfl ?_ ?_) | refine zd rfl ?_ ?_ <;> intro hc | refine zj rfl ?_ ?_ <;> intro hc)
    all_goals try (exfalso; omega)
    exact zp (zo rfl rfl (congrArg (T.int .i64) h8)) (zc ⟨rfl, trivial⟩)
  rw [if_neg hB]
  by_cases hC : 204 ≤ c ∧ c ≤ 207
  · rw [if_pos hC]
    obtain ⟨i, hi⟩ : ∃ i, (c - 204).toNat = i := ⟨_, rfl⟩
    have hsh := zkV (l := c) (m := 204) hC.1 (by omega) (by omega) c1
    rw [hi] at hsh ⊢
    have hU := hU 0 i _ hsh (by omega)
    generalize r.uint (2 ^ i) = y at hU ⊢
    obtain ⟨y, ys, yb⟩ := y
    obtain ⟨s, bad⟩ := r
    unfold Rs.row at *
    simp only at hU ⊢
    clear hsh
    refine wI Tryz.func247 ?_
    repeat' (first | refine wC ?_ | refine wK ?_ | ((with_reducible refine zM ?_); refine xi rfl rfl rfl rfl rfl rfl ?_ ?_) | ((with_reducible refine ze ?_); refine wN (.t (.int .u64 y)) [] hU ?_) | refine zd rfl ?_ ?_ <;> intro hc | refine zj rfl ?_ ?_ <;> intro hc)
    all_goals try (exfalso; omega)
    all_goals try (rw [xo (by omega) (by omega)]; omega)
    exact zp (zo rfl rfl rfl) (zc ⟨rfl, trivial⟩)
  rw [if_neg hC]
  by_cases hD : 208 ≤ c ∧ c ≤ 211
  · rw [if_pos hD]
    obtain ⟨i, hi⟩ : ∃ i, (c - 208).toNat = i := ⟨_, rfl⟩
    have hsh := zkV (l := c) (m := 208) hD.1 (by omega) (by omega) c1
    rw [hi] at hsh ⊢
    have hi3 : i ≤ 3 := by omega
    have hU := hU 0 i _ hsh hi3
    have hub := zds (r := r) hi3
    have hsx := zmZ hi3 hub.1 hub.2
    generalize r.uint (2 ^ i) = y at hU hub hsx ⊢
    rw [← hsh] at hsx
    obtain ⟨y, ys, yb⟩ := y
    obtain ⟨s, bad⟩ := r
    unfold Rs.row at *
    simp only at hU hsx ⊢
    have hpos : 0 ≤ IntKind.i64.wrap (64 - IntKind.i64.wrap (8 * IntKind.i64.wrap (1 * 2 ^ min (IntKind.u8.wrap (c - 208)).toNat IntKind.i64.bits))) := by
      rw [hsh]
      match i, hi3 with
      | 0, _ | 1, _ | 2, _ | 3, _ => decide
    refine wI Tryz.func247 ?_
    repeat' (first | refine wC ?_ | refine wK ?_ | ((with_reducible refine zM ?_); first | refine xi rfl rfl rfl rfl rfl rfl ?_ ?_ | refine je rfl rfl rfl rfl rfl rfl ?_ ?_) | ((with_reducible refine ze ?_); refine wN (.t (.int .u64 y)) [] hU ?_) | refine zd rfl ?_ ?_ <;> intro hc | refine zj rfl ?_ ?_ <;> intro hc)
    all_goals try (exfalso; omega)
    all_goals try (rw [xo (by omega) (by omega)]; omega)
    all_goals try (exact hpos)
    exact zp (zo rfl rfl (congrArg (T.int .i64) hsx)) (zc ⟨rfl, trivial⟩)
  · rw [if_neg hD]
    obtain ⟨s, bad⟩ := r
    unfold Rs.row at *
    simp only
    refine wI Tryz.func247 ?_
    repeat' (first | refine wC ?_ | refine wK ?_ | ((with_reducible refine zM ?_); refine xi rfl rfl rfl rfl rfl rfl ?_ ?_) | refine zd rfl ?_ ?_ <;> intro hc | refine zj rfl ?_ ?_ <;> intro hc)
    all_goals try (exfalso; omega)
    all_goals exact zp (zo rfl rfl rfl) (zc ⟨rfl, trivial⟩)
set_option maxHeartbeats 8000000 in
theorem zg6 (d : Nat) (hd : d ≤ 1000) (B : Nat) (hB : B ≤ 1000000)
    (IH : ∀ q : Rs, q.s.size ≤ B → Spec Tryz.prog 169 [.ref (.par 0) 0 0 0, .t (.int .i64 (d : Int))] [(.par 0, q.row 197)] (.t (yL d q).1.toT) [(.par 0, (yL d q).2.row 197)])
    (k : Int) (hk : k = 4 ∨ k = 5) (c : Nat) (hc : c ≤ 1000000) (r : Rs) (hr : r.s.size ≤ B) :
    Spec Tryz.prog 244 [.ref (.par 0) 0 0 0, .t (.agg [.int .i64 k, .bool false, .int .i64 0, .str ⟨#[]⟩, .nilsl, .nilsl]), .t (.int .i64 (c : Int)), .t (.int .i64 ((d + 1 : Nat) : Int))] [(.par 0, r.row 197)] (.t (yg yK (yL d) k c [] [] r).1.toT) [(.par 0, (yg yK (yL d) k c [] [] r).2.row 197)] := by
  generalize hres : yg yK (yL d) k c [] [] r = res
  have hNB := kx B (by omega) d
  generalize yL d = f at *
  unfold Rs.row
  refine wIG Tryz.func244 ?_
  repeat' (first | refine wC ?_ | refine wK ?_ | fail)
  refine zl (zH (r := .loc 5) 5 (.loc 900) 30 6 rfl rfl rfl rfl rfl) ?_
  refine zl (zH (r := .loc 5) 4 (.loc 901) 9 1 rfl rfl rfl rfl rfl) ?_
  refine zl (za [0, 2, 3, 5, 8] [.par 0, .loc 5, .loc 8, .loc 900, .loc 901] rfl rfl) ?_
  refine zz (fun m env st => ∃ (j : Nat) (ns : List ByteArray) (is : List Nd) (q : Rs), m = j ∧ j ≤ 1000000 ∧ ns.length + j ≤ 1000000 ∧ is.length + j ≤ 1000000 ∧ q.s.size ≤ B ∧ yg yK f k j ns is q = res ∧
      env = EnvL.get [(0, .ref (.par 0) 0 0 0), (2, .t (.int .i64 (j : Int))), (3, .t (.int .i64 ((d + 1 : Nat) : Int))), (5, .ref (.loc 5) 0 0 0), (8, .ref (.loc 8) 0 0 0)] ∧
      st = StO.get [(.par 0, some (.var 197 [.t (.str q.s), .t (.bool q.bad)])), (.loc 5, some (.var 30 [.t (.int .i64 k), .t (.bool false), .t (.int .i64 0), .t (.str ⟨#[]⟩), .row (.loc 901), .row (.loc 900)])), (.loc 8, some (.var 30 [.t (.int .i64 0), .t (.bool false), .t (.int .i64 0), .t (.str ⟨#[]⟩), .t .nilsl, .t .nilsl])), (.loc 900, some (.slt 30 6 (is.map Nd.toT))), (.loc 901, some (.slt 9 1 (ns.map .str)))])
    ?_ (n := c) ⟨c, [], [], r, rfl, by omega, by simp; omega, by simp; omega, hr, hres, rfl, rfl⟩
  rintro m env st ⟨j, ns, is, q, rfl, hj, hns, his, hq, hi, rfl, rfl⟩
  have hN : ∀ (v : Int) (q : Rs), v = (d : Int) → q.s.size ≤ B → Spec Tryz.prog 169 [.ref (.par 0) 0 0 0, .t (.int .i64 v)] [(.par 0, .var 197 [.t (.str q.s), .t (.bool q.bad)])] (.t (f q).1.toT) [(.par 0, .var 197 [.t (.str (f q).2.s), .t (.bool (f q).2.bad)])] := fun v q hv hq => by subst hv; exact IH q hq
  cases m with
  | zero =>
    rw [yg] at hi
    repeat' (first | refine wC ?_ | refine wK ?_ | fail)
    rw [← hi]
    simp only
    rw [Nd.toT_eq]
    refine zv (za [8] [.par 0, .loc 8, .loc 900, .loc 901] rfl rfl) ?_
    refine zv (zB (id := .loc 900) rfl rfl rfl) ?_; refine zv (zB (id := .loc 901) rfl rfl rfl) ?_
    exact wB
  | succ j =>
    rw [yg] at hi
    obtain ⟨qs, qb⟩ := q
    cases qb with
    | true =>
      rw [if_pos rfl] at hi
      repeat' (first | refine wC ?_ | refine wK ?_ | refine zj rfl ?_ ?_ <;> intro hc)
      all_goals try (exfalso; omega)
      rw [← hi]
      simp only
      rw [Nd.toT_eq]
      refine zv (za [8] [.par 0, .loc 8, .loc 900, .loc 901] rfl rfl) ?_
      refine zv (zB (id := .loc 900) rfl rfl rfl) ?_; refine zv (zB (id := .loc 901) rfl rfl rfl) ?_
      exact wB
    | false =>
      rw [if_neg (by simp)] at hi
      rcases hk with rfl | rfl
      · rw [if_neg (by decide)] at hi
        replace hN := hN (IntKind.i64.wrap (((d + 1 : Nat) : Int) - 1)) ⟨qs, false⟩ (by rw [zr (by omega) (by omega)]; omega) hq
        have hb := hNB ⟨qs, false⟩ hq
        generalize f ⟨qs, false⟩ = y at hi hN hb
        obtain ⟨x, us, ub⟩ := y
        have hT := x.toT_full
        simp only at hN hi hb
        rw [hT] at hN
        repeat' (first | refine wC ?_ | refine wK ?_ | ((with_reducible refine zw ?_); refine zh rfl rfl rfl rfl rfl rfl rfl rfl rfl rfl ?_ ?_ ?_) | ((with_reducible refine ze ?_); refine wN (.t (.agg [.int .i64 x.kind, .bool x.bool, .int .i64 x.num, .str x.text, .sl 1 (x.names.map .str), .sl 6 (x.items.map Nd.toT)])) [] hN ?_) | refine zj rfl ?_ ?_ <;> intro hc)
        all_goals try (exfalso; omega)
        all_goals try (simp only [List.length_map, List.length_cons, List.length_nil]; omega)
        refine zI (n' := j) (by omega) ((za [0, 2, 3, 5, 8] [.par 0, .loc 5, .loc 8, .loc 42, .loc 901] rfl rfl).trans (zg (.loc 42) (.loc 900) rfl rfl rfl rfl)) ⟨j, ns, is ++ [x], ⟨us, ub⟩, rfl, by omega, by omega, by simp only [List.length_append, List.length_cons, List.length_nil]; omega, hb.1, hi, ?_, ?_⟩
        · rw [zr (by omega) (by omega), show ((j + 1 : Nat) : Int) - 1 = j by omega]; rfl
        · rw [List.map_append, List.map_singleton, hT]; rfl
      · rw [if_pos rfl] at hi
        have hB0 := vG 197 ⟨qs, false⟩ (by have := Nat.le_trans hq hB; omega)
        have hBr := xK ⟨qs, false⟩
        have hBl := wW ⟨qs, false⟩
        have hM : Spec Tryz.prog 246 [.ref (.par 0) 0 0 0, .t (.int .u8 (Rs.mk qs false).byte.1)] [(.par 0, (Rs.mk qs false).byte.2.row 197)] (.t (.str (yK ⟨qs, false⟩).1)) [(.par 0, (yK ⟨qs, false⟩).2.row 197)] := zc1 (Rs.mk qs false).byte.2 (by have := Nat.le_trans hq hB; have h2 : (Rs.mk qs false).s.size = qs.size := rfl; simp only at hBl; omega) _ hBr.1 hBr.2
        have hM2 := zhy ⟨qs, false⟩
        generalize yK ⟨qs, false⟩ = z at hi hM hM2
        generalize (Rs.mk qs false).byte = w at hB0 hM hBr hBl
        obtain ⟨cb, ws, wb⟩ := w
        obtain ⟨nm, ps, pb⟩ := z
        simp only at hi hM hM2 hB0
        replace hN := hN (IntKind.i64.wrap (((d + 1 : Nat) : Int) - 1)) ⟨ps, pb⟩ (by rw [zr (by omega) (by omega)]; omega) (Nat.le_trans hM2.1 hq)
        have hb := hNB ⟨ps, pb⟩ (Nat.le_trans hM2.1 hq)
        generalize f ⟨ps, pb⟩ = y at hi hN hb
        obtain ⟨x, us, ub⟩ := y
        have hT := x.toT_full
        unfold Rs.row at hM hB0
        simp only at hN hi hb hM hB0
        rw [hT] at hN
        repeat' (first | refine wC ?_ | refine wK ?_ | ((with_reducible refine zw ?_); refine zh rfl rfl rfl rfl rfl rfl rfl rfl rfl rfl ?_ ?_ ?_) | ((with_reducible refine ze ?_); first | refine wN (.t (.int .u8 cb)) [] hB0 ?_ | refine wN (.t (.str nm)) [] hM ?_ | refine wN (.t (.agg [.int .i64 x.kind, .bool x.bool, .int .i64 x.num, .str x.text, .sl 1 (x.names.map .str), .sl 6 (x.items.map Nd.toT)])) [] hN ?_) | refine zj rfl ?_ ?_ <;> intro hc)
        all_goals try (exfalso; omega)
        all_goals try (simp only [List.length_map, List.length_cons, List.length_nil]; omega)
        refine zI (n' := j) (by omega) ((za [0, 2, 3, 5, 8] [.par 0, .loc 5, .loc 8, .loc 42, .loc 33] rfl rfl).trans ((zg (.loc 42) (.loc 900) rfl rfl rfl rfl).trans (zg (.loc 33) (.loc 901) rfl rfl rfl rfl))) ⟨j, ns ++ [nm], is ++ [x], ⟨us, ub⟩, rfl, by omega, by simp only [List.length_append, List.length_cons, List.length_nil]; omega, by simp only [List.length_append, List.length_cons, List.length_nil]; omega, hb.1, hi, ?_, ?_⟩
        · rw [zr (by omega) (by omega), show ((j + 1 : Nat) : Int) - 1 = j by omega]; rfl
        · rw [List.map_append, List.map_append, List.map_singleton, List.map_singleton, hT]; rfl
set_option maxHeartbeats 16000000 in
theorem zc2 : ∀ (d : Nat), d ≤ 1000 → ∀ r : Rs, r.s.size ≤ 1000000 → Spec Tryz.prog 169 [.ref (.par 0) 0 0 0, .t (.int .i64 (d : Int))] [(.par 0, r.row 197)] (.t (yL d r).1.toT) [(.par 0, (yL d r).2.row 197)]
  | 0, hd, r, hr => by
    have hH := vG 197 r (by omega)
    rw [yL]
    generalize r.byte = h at hH ⊢
    obtain ⟨c, qs, qb⟩ := h
    obtain ⟨s, bad⟩ := r
    unfold Rs.row at hH ⊢
    simp only at hH ⊢
    rw [zJ]
    refine wI Tryz.func169 ?_
    repeat' (first | refine wC ?_ | refine wK ?_ | ((with_reducible refine ze ?_); refine wN (.t (.int .u8 c)) [] hH ?_) | fail)
    exact wD
  | d + 1, hd, r, hr => by
    have hH := vG 197 r (by omega)
    have hcr := xK r
    have hql := wW r
    have IH := zc2 d (by omega)
    obtain ⟨c, q, hh⟩ : ∃ c q, r.byte = (c, q) := ⟨_, _, rfl⟩
    rw [xE hh]
    rw [hh] at hH hcr hql
    simp only at hH hcr hql
    have hq1 : q.s.size ≤ 1000000 := by omega
    have hI : ∀ (k : Int), k = 4 ∨ k = 5 → ∀ (v : Int) (n : Nat) (z : Rs), v = (n : Int) → n ≤ 1000000 → z.s.size ≤ 1000000 → Spec Tryz.prog 244 [.ref (.par 0) 0 0 0, .t (.agg [.int .i64 k, .bool false, .int .i64 0, .str ⟨#[]⟩, .nilsl, .nilsl]), .t (.int .i64 v), .t (.int .i64 ((d + 1 : Nat) : Int))] [(.par 0, z.row 197)] (.t (yg yK (yL d) k n [] [] z).1.toT) [(.par 0, (yg yK (yL d) k n [] [] z).2.row 197)] := fun k hk v n z hv hn hz => by
      subst hv
      exact zg6 d (by omega) 1000000 (by omega) (fun q hq => IH q hq) k hk n hn z hz
    have hC := zdg 197 q 1 (by omega) 2 rfl hq1
    have hCl := zbc q 2
    have hCg : 0 ≤ (q.count 2).1 := zjx (zds (r := q) (i := 1) (by omega)).1
    have hT := zc1 q hq1 c hcr.1 hcr.2
    have hN := zij q hq1 c hcr.1 hcr.2
    clear IH
    by_cases h192 : c = 192
    · subst h192
      rw [if_pos rfl]
      clear hI hC hT hN
      obtain ⟨qs, qb⟩ := q
      obtain ⟨s, bad⟩ := r
      unfold Rs.row at *
      simp only at hH ⊢
      rw [zJ]
      refine wI Tryz.func169 ?_
      repeat' (first | refine wC ?_ | refine wK ?_ | ((with_reducible refine ze ?_); refine wN (.t (.int .u8 192)) [] hH ?_) | fail)
      all_goals try (exfalso; omega)
      exact wD
    by_cases h194 : c = 194
    · subst h194
      rw [if_neg (by decide), if_pos (.inl rfl)]
      clear hI hC hT hN
      obtain ⟨qs, qb⟩ := q
      obtain ⟨s, bad⟩ := r
      unfold Rs.row at *
      simp only at hH ⊢
      rw [Nd.toT_eq]
      refine wI Tryz.func169 ?_
      repeat' (first | refine wC ?_ | refine wK ?_ | ((with_reducible refine ze ?_); refine wN (.t (.int .u8 194)) [] hH ?_) | fail)
      all_goals try (exfalso; omega)
      exact wD
    by_cases h195 : c = 195
    · subst h195
      rw [if_neg (by decide), if_pos (.inr rfl)]
      clear hI hC hT hN
      obtain ⟨qs, qb⟩ := q
      obtain ⟨s, bad⟩ := r
      unfold Rs.row at *
      simp only at hH ⊢
      rw [Nd.toT_eq]
      refine wI Tryz.func169 ?_
      repeat' (first | refine wC ?_ | refine wK ?_ | ((with_reducible refine ze ?_); refine wN (.t (.int .u8 195)) [] hH ?_) | fail)
      all_goals try (exfalso; omega)
      exact wD
    rw [if_neg h192, if_neg (by omega)]
    by_cases hm : 128 ≤ c ∧ c < 144
    · rw [if_pos hm]
      have hJ := fun v h => hI 5 (by omega) v (c - 128).toNat q h (by omega) hq1
      clear hI hC hT hN
      generalize yg yK (yL d) 5 (c - 128).toNat [] [] q = y at hJ ⊢
      obtain ⟨x, xs, xb⟩ := y
      have hx := x.toT_full
      obtain ⟨qs, qb⟩ := q
      obtain ⟨s, bad⟩ := r
      unfold Rs.row at *
      simp only at hH hJ ⊢
      rw [hx] at hJ ⊢
      refine wI Tryz.func169 ?_
      repeat' (first | refine wC ?_ | refine wK ?_ | ((with_reducible refine ze ?_); first | refine wN (.t (.int .u8 c)) [] hH ?_ | refine ja (r' := .t (.agg [.int .i64 x.kind, .bool x.bool, .int .i64 x.num, .str x.text, .sl 1 (x.names.map .str), .sl 6 (x.items.map Nd.toT)])) [] rfl rfl (hJ _ ?_) (ArgsLE.refl _) rfl ⟨rfl, trivial⟩ rfl rfl rfl rfl rfl rfl rfl rfl rfl rfl ?_) | refine zd rfl ?_ ?_ <;> intro hc | refine zj rfl ?_ ?_ <;> intro hc)
      all_goals try (exfalso; omega)
      · rw [xo (by omega) (by omega), zr (by omega) (by omega)]; omega
      · exact wD
    rw [if_neg hm]
    by_cases h222 : c = 222
    · subst h222
      rw [if_pos rfl]
      have hJ := fun v h => hI 5 (by omega) v (q.count 2).1.toNat (q.count 2).2 h (by omega) (by omega)
      replace hJ := hJ (q.count 2).1 (by omega)
      clear hI hT hN
      generalize yg yK (yL d) 5 (q.count 2).1.toNat [] [] (q.count 2).2 = y at hJ ⊢
      generalize q.count 2 = z at hC hJ
      obtain ⟨z, zs, zb⟩ := z
      obtain ⟨x, xs, xb⟩ := y
      have hx := x.toT_full
      obtain ⟨qs, qb⟩ := q
      obtain ⟨s, bad⟩ := r
      unfold Rs.row at *
      simp only at hH hC hJ ⊢
      rw [hx] at hJ ⊢
      refine wI Tryz.func169 ?_
      repeat' (first | refine wC ?_ | refine wK ?_ | ((with_reducible refine ze ?_); first | refine wN (.t (.int .u8 222)) [] hH ?_ | refine wN (.t (.int .i64 z)) [] hC ?_ | refine wN (.t (.agg [.int .i64 x.kind, .bool x.bool, .int .i64 x.num, .str x.text, .sl 1 (x.names.map .str), .sl 6 (x.items.map Nd.toT)])) [] hJ ?_) | fail)
      all_goals try (exfalso; omega)
      exact wD
    rw [if_neg h222]
    by_cases hl : 144 ≤ c ∧ c < 160
    · rw [if_pos hl]
      have hJ := fun v h => hI 4 (by omega) v (c - 144).toNat q h (by omega) hq1
      clear hI hC hT hN
      generalize yg yK (yL d) 4 (c - 144).toNat [] [] q = y at hJ ⊢
      obtain ⟨x, xs, xb⟩ := y
      have hx := x.toT_full
      obtain ⟨qs, qb⟩ := q
      obtain ⟨s, bad⟩ := r
      unfold Rs.row at *
      simp only at hH hJ ⊢
      rw [hx] at hJ ⊢
      refine wI Tryz.func169 ?_
      repeat' (first | refine wC ?_ | refine wK ?_ | ((with_reducible refine ze ?_); first | refine wN (.t (.int .u8 c)) [] hH ?_ | refine ja (r' := .t (.agg [.int .i64 x.kind, .bool x.bool, .int .i64 x.num, .str x.text, .sl 1 (x.names.map .str), .sl 6 (x.items.map Nd.toT)])) [] rfl rfl (hJ _ ?_) (ArgsLE.refl _) rfl ⟨rfl, trivial⟩ rfl rfl rfl rfl rfl rfl rfl rfl rfl rfl ?_) | refine zd rfl ?_ ?_ <;> intro hc | refine zj rfl ?_ ?_ <;> intro hc)
      all_goals try (exfalso; omega)
      · rw [xo (by omega) (by omega), zr (by omega) (by omega)]; omega
      · exact wD
    rw [if_neg hl]
    by_cases h220 : c = 220
    · subst h220
      rw [if_pos rfl]
      have hJ := fun v h => hI 4 (by omega) v (q.count 2).1.toNat (q.count 2).2 h (by omega) (by omega)
      replace hJ := hJ (q.count 2).1 (by omega)
      clear hI hT hN
      generalize yg yK (yL d) 4 (q.count 2).1.toNat [] [] (q.count 2).2 = y at hJ ⊢
      generalize q.count 2 = z at hC hJ
      obtain ⟨z, zs, zb⟩ := z
      obtain ⟨x, xs, xb⟩ := y
      have hx := x.toT_full
      obtain ⟨qs, qb⟩ := q
      obtain ⟨s, bad⟩ := r
      unfold Rs.row at *
      simp only at hH hC hJ ⊢
      rw [hx] at hJ ⊢
      refine wI Tryz.func169 ?_
      repeat' (first | refine wC ?_ | refine wK ?_ | ((with_reducible refine ze ?_); first | refine wN (.t (.int .u8 220)) [] hH ?_ | refine wN (.t (.int .i64 z)) [] hC ?_ | refine wN (.t (.agg [.int .i64 x.kind, .bool x.bool, .int .i64 x.num, .str x.text, .sl 1 (x.names.map .str), .sl 6 (x.items.map Nd.toT)])) [] hJ ?_) | fail)
      all_goals try (exfalso; omega)
      exact wD
    rw [if_neg h220]
    by_cases ht : (160 ≤ c ∧ c < 192) ∨ (217 ≤ c ∧ c ≤ 219)
    · rw [if_pos ht]
      clear hI hC hN
      generalize wU q c = t at hT ⊢
      obtain ⟨t, ts, tb⟩ := t
      obtain ⟨qs, qb⟩ := q
      obtain ⟨s, bad⟩ := r
      unfold Rs.row at *
      simp only at hH hT ⊢
      rw [Nd.toT_eq]
      refine wI Tryz.func169 ?_
      repeat' (first | refine wC ?_ | refine wK ?_ | ((with_reducible refine ze ?_); first | refine wN (.t (.int .u8 c)) [] hH ?_ | refine wN (.t (.str t)) [] hT ?_) | refine zd rfl ?_ ?_ <;> intro hc | refine zj rfl ?_ ?_ <;> intro hc)
      all_goals try (exfalso; omega)
      all_goals exact wD
    · rw [if_neg ht]
      clear hI hC hT
      generalize wX q c = t at hN ⊢
      obtain ⟨t, ts, tb⟩ := t
      obtain ⟨qs, qb⟩ := q
      obtain ⟨s, bad⟩ := r
      unfold Rs.row at *
      simp only at hH hN ⊢
      rw [Nd.toT_eq]
      refine wI Tryz.func169 ?_
      repeat' (first | refine wC ?_ | refine wK ?_ | ((with_reducible refine ze ?_); first | refine wN (.t (.int .u8 c)) [] hH ?_ | refine wN (.t (.int .i64 t)) [] hN ?_) | refine zd rfl ?_ ?_ <;> intro hc | refine zj rfl ?_ ?_ <;> intro hc)
      all_goals try (exfalso; omega)
      all_goals exact wD
def pkR (s : ByteArray) : Nd × Rs := yL 8 ⟨s, false⟩
theorem zj5 {V : ByteArray → Bool} (s : ByteArray) : kH pkC V s = if (pkR s).2.bad = false ∧ (pkR s).2.s = eS ∧ (pkR s).1.validB V 8 = true ∧ za0 pkC V (pkR s).1 = (s, 0) then ((pkR s).1, 0) else (Nd.zero, 4) := rfl
set_option maxHeartbeats 8000000 in
theorem zjq {oF oA : Obj} {V : ByteArray → Bool} (hS : xH oF oA V) (s : ByteArray) (hs : s.size ≤ 1000000) : Spec Tryz.prog 105 [.t (.str s)] [(.par 100, .dat (.fix 0 oF)), (.par 101, .dat (.fix 1 oA))] (.tup [.t (kH pkC V s).1.toT, .t (.int .i64 (kH pkC V s).2)]) [(.par 100, .dat (.fix 0 oF)), (.par 101, .dat (.fix 1 oA))] := by
  have hR : Spec Tryz.prog 169 [.ref (.par 0) 0 0 0, .t (.int .i64 8)] [(.par 0, Rs.row 197 ⟨s, false⟩)] (.t (pkR s).1.toT) [(.par 0, (pkR s).2.row 197)] := zc2 8 (by omega) ⟨s, false⟩ hs
  have hle := kx 1000000 (by omega) 8 ⟨s, false⟩ hs
  have hg : (pkR s).2.bad = false → (pkR s).1.pb.length ≤ s.size ∧ (pkR s).1.In := fun h => ⟨Nat.le_trans (Nat.le_add_right _ _) (vH 8 ⟨s, false⟩ h).2.1, (vH 8 ⟨s, false⟩ h).2.2⟩
  have hD := zj5 (V := V) s
  have hF := zbJ hS 197 50 s (pkR s).1 hle.2 (pkR s).2 (za0 pkC V (pkR s).1) (fun h1 h2 h3 => by
    have := hg h1
    exact jx hS (pkR s).1 hle.2 this.2 (fun _ => by have h9 : (pkR s).1.pb.length ≤ s.size := this.1; omega)) (kH pkC V s) hD
  clear hD hg hle
  generalize kH pkC V s = res at hF ⊢
  generalize pkR s = y at hR hF
  obtain ⟨x, rs, rb⟩ := y
  obtain ⟨z, e⟩ := res
  have hT := x.toT_full
  have hZ := z.toT_full
  unfold Rs.row at hR hF
  simp only at hR hF ⊢
  rw [hT] at hR hF
  rw [hZ] at hF ⊢
  refine wI Tryz.func105 ?_
  repeat' (first | refine wC ?_ | refine wK ?_ | ((with_reducible refine ze ?_); first | refine wN (.t (.agg [.int .i64 x.kind, .bool x.bool, .int .i64 x.num, .str x.text, .sl 1 (x.names.map .str), .sl 6 (x.items.map Nd.toT)])) [(.par 0, .loc 9)] hR ?_ | refine wN (.tup [.t (.agg [.int .i64 z.kind, .bool z.bool, .int .i64 z.num, .str z.text, .sl 1 (z.names.map .str), .sl 6 (z.items.map Nd.toT)]), .t (.int .i64 e)]) [(.par 0, .loc 9)] hF ?_) | fail)
  exact wE
end Go.AL
namespace Go.AL
open Go Go.RowKit
def zmo : List (UInt8 × UInt8) := [(34, 34), (92, 92), (8, 98), (9, 116), (10, 110), (12, 102), (13, 114)]
def zii (c : UInt8) : Option UInt8 := zmo.lookup c
def qJ (n : Nat) : UInt8 := if n < 10 then UInt8.ofNat (48 + n) else UInt8.ofNat (87 + n)
def zez (c : UInt8) : List UInt8 :=
  match zii c with
  | some l => [92, l]
  | none => if c.toNat < 32 then [92, 117, 48, 48, qJ (c.toNat / 16), qJ (c.toNat % 16)] else [c]
def yB : List UInt8 → List UInt8
  | [] => []
  | c :: l => zez c ++ yB l
def jQ (s : ByteArray) : List UInt8 := 34 :: (yB s.data.toList ++ [34])
theorem zeH (c : UInt8) : 1 ≤ (zez c).length ∧ (zez c).length ≤ 6 := by
  unfold zez
  split
  · simp
  · split <;> simp
theorem za4 : ∀ a b : List UInt8, yB (a ++ b) = yB a ++ yB b
  | [], b => rfl
  | c :: a, b => by simp [yB, za4 a b]
theorem jV : ∀ l : List UInt8, (yB l).length ≤ 6 * l.length
  | [] => by simp [yB]
  | c :: l => by
    have := zeH c
    have := jV l
    simp only [yB, List.length_append, List.length_cons]; omega
theorem zdw (l : List UInt8) (i : Nat) (h : i < l.length) : yB (l.take (i + 1)) = yB (l.take i) ++ zez (l.getD i default) := by
  rw [List.take_add_one, List.getElem?_eq_getElem h, Option.toList_some, za4, List.getD_eq_getElem?_getD, List.getElem?_eq_getElem h]
  simp [yB]
def kE : List UInt8 := [110, 117, 108, 108]
def w7 : List UInt8 := [116, 114, 117, 101]
def xm : List UInt8 := [102, 97, 108, 115, 101]
mutual
def Nd.jb : Nd → List UInt8
  | .mk k b n t ns is =>
    if k = 0 then kE else if k = 1 then (if b then w7 else xm) else if k = 2 then Lib.itoa n
    else if k = 3 then jQ t else if k = 4 then 91 :: (Nd.jbs true is ++ [93]) else 123 :: (Nd.jbm true ns is ++ [125])
def Nd.jbs : Bool → List Nd → List UInt8
  | _, [] => []
  | f, x :: xs => (if f then [] else [44]) ++ (x.jb ++ Nd.jbs false xs)
def Nd.jbm : Bool → List ByteArray → List Nd → List UInt8
  | f, s :: ns, x :: xs => (if f then [] else [44]) ++ (jQ s ++ (58 :: (x.jb ++ Nd.jbm false ns xs)))
  | _, _, _ => []
end
theorem zbk : ∀ (f : Bool) (a : List Nd) (x : Nd), Nd.jbs f (a ++ [x]) = Nd.jbs f a ++ ((if f && a.isEmpty then [] else [44]) ++ x.jb)
  | f, [], x => by simp [Nd.jbs]
  | f, y :: a, x => by simp [Nd.jbs, zbk false a x, List.append_assoc]
theorem zbb : ∀ (f : Bool) (a : List ByteArray) (b : List Nd) (s : ByteArray) (x : Nd), a.length = b.length → Nd.jbm f (a ++ [s]) (b ++ [x]) = Nd.jbm f a b ++ ((if f && b.isEmpty then [] else [44]) ++ (jQ s ++ (58 :: x.jb)))
  | f, [], [], s, x, _ => by simp [Nd.jbm]
  | f, n :: a, y :: b, s, x, h => by simp [Nd.jbm, zbb false a b s x (by simpa using h), List.append_assoc]
  | _, [], _ :: _, _, _, h => by simp at h
  | _, _ :: _, [], _, _, h => by simp at h
def xz (k : Int) (ns : List ByteArray) (is : List Nd) (i : Nat) : List UInt8 := if k = 5 then Nd.jbm true (ns.take i) (is.take i) else Nd.jbs true (is.take i)
theorem jz {α : Type} [Inhabited α] (l : List α) (i : Nat) (h : i < l.length) : l.take (i + 1) = l.take i ++ [l.getD i default] := by
  rw [List.take_add_one, List.getElem?_eq_getElem h]; simp [List.getD_eq_getElem?_getD, h]
theorem zdU {α : Type} (l : List α) (i : Nat) (h : i < l.length) : (l.take i).isEmpty = decide (i = 0) := by
  cases i with
  | zero => simp
  | succ i => cases l with
    | nil => simp at h
    | cons x l => simp
theorem q7 {k : Int} {ns : List ByteArray} {is : List Nd} {i : Nat} (hk : k ≠ 5) (hi : i < is.length) : xz k ns is (i + 1) = xz k ns is i ++ ((if i = 0 then [] else [44]) ++ (is.getD i default).jb) := by
  simp only [xz, if_neg hk, jz is i hi, zbk, zdU is i hi, Bool.true_and, decide_eq_true_eq]
theorem ju {ns : List ByteArray} {is : List Nd} {i : Nat} (hl : ns.length = is.length) (hi : i < is.length) : xz 5 ns is (i + 1) = xz 5 ns is i ++ ((if i = 0 then [] else [44]) ++ (jQ (ns.getD i default) ++ (58 :: (is.getD i default).jb))) := by
  have := zbb true (ns.take i) (is.take i) (ns.getD i default) (is.getD i default) (by simp; omega)
  simp only [xz, if_true, jz is i hi, jz ns i (by omega), this, zdU is i hi, Bool.true_and, decide_eq_true_eq]
theorem wR {k : Int} {ns : List ByteArray} {is : List Nd} (hk : k = 5 → ns.length = is.length) {i j : Nat} (hij : i ≤ j) (hj : j ≤ is.length) : (xz k ns is i).length ≤ (xz k ns is j).length := by
  induction j with
  | zero => rw [show i = 0 by omega]; exact Nat.le_refl _
  | succ j ih =>
    rcases Nat.lt_or_ge i (j + 1) with h | h
    · refine Nat.le_trans (ih (by omega) (by omega)) ?_
      by_cases h5 : k = 5
      · subst h5
        rw [ju (hk rfl) (by omega), List.length_append]; omega
      · rw [q7 h5 (by omega), List.length_append]; omega
    · rw [show i = j + 1 by omega]; exact Nat.le_refl _
theorem zgW (u : Nat) (h : u < 18446744073709551616) : 1 ≤ (Lib.decDigits u).length ∧ (Lib.decDigits u).length ≤ 20 := by
  rw [Lib.decDigits_length]
  have h1 : 1 ≤ Lib.nDigits u := by
    by_cases h : u < 10
    · rw [Lib.nDigits_small h]; omega
    · rw [Lib.nDigits_big h]; omega
  refine ⟨h1, ?_⟩
  by_cases h0 : 1 ≤ u
  · have := Lib.numDigits_eq u h0 h; split at this <;> omega
  · rw [show u = 0 by omega, Lib.nDigits_small (by omega)]; omega
theorem kj (n : Int) (h0 : -9223372036854775808 ≤ n) (h1 : n ≤ 9223372036854775807) : 1 ≤ (Lib.itoa n).length ∧ (Lib.itoa n).length ≤ 21 := by
  unfold Lib.itoa
  split
  · have := zgW n.natAbs (by omega); simp only [List.length_cons]; omega
  · have := zgW n.toNat (by omega); omega
theorem zaH (s : ByteArray) : 2 ≤ (jQ s).length ∧ (jQ s).length ≤ 6 * s.size + 2 := by
  have := jV s.data.toList
  have hd : s.data.toList.length = s.size := by rw [Array.length_toList]; rfl
  unfold jQ
  simp only [List.length_cons, List.length_append, List.length_nil]; omega
def zim (V : ByteArray → Bool) (x : Nd) : ByteArray × Int := if x.validB V 8 = true then (if 65536 < x.jb.length then (eS, 3) else (ofL x.jb, 0)) else (eS, 1)
end Go.AL
namespace Go.AL
open Go Go.Proofs Go.RowKit
def zl1 : List (T × T) := zmo.map fun x => (T.int .u8 (x.1.toNat : Int), T.int .u8 (x.2.toNat : Int))
theorem zln (c : UInt8) : kg zl1 (.int .u8 (c.toNat : Int)) = (zii c).map fun l => T.int .u8 (l.toNat : Int) := by
  have key : ∀ (l : List (UInt8 × UInt8)), kg (l.map fun x => (T.int .u8 (x.1.toNat : Int), T.int .u8 (x.2.toNat : Int))) (.int .u8 (c.toNat : Int)) = (l.lookup c).map fun l => T.int .u8 (l.toNat : Int) := by
    intro l
    induction l with
    | nil => rfl
    | cons x l ih =>
      obtain ⟨a, b⟩ := x
      by_cases h : c = a
      · subst h; simp [kg, zaj, List.lookup]
      · have h2 : ¬ ((c.toNat : Int) = (a.toNat : Int)) := fun e => h (UInt8.toNat_inj.1 (by omega))
        simp only [List.map_cons, kg, zaj, h2, decide_false, Bool.false_eq_true, if_false, List.lookup, beq_iff_eq, h, ih]
        have h3 : (c == a) = false := by simpa using h
        rw [h3]
  exact key zmo
theorem zk3 : xp (.int .u8) zl1 = true := by decide
set_option maxHeartbeats 2000000 in
theorem zaJ : Spec Tryz.prog 277 [] [] (.row (.res 0)) [(.res 0, .dat (.map zl1))] := by
  refine wIG Tryz.func277 ?_
  repeat' (first | refine wC ?_ | refine wK ?_ | ((with_reducible refine zhR ?_); refine zeT rfl rfl rfl rfl rfl rfl rfl rfl ?_ ?_))
  all_goals try rfl
  refine zv ((za [0] [.loc 1] rfl rfl).trans (zg (.loc 1) (.res 0) rfl rfl rfl rfl)) ?_
  exact zL (zp (zK rfl (AVLE.refl _)) (zc ⟨rfl, trivial⟩))
theorem zjY (n : Nat) (h : n < 16) : bAt ⟨#[48, 49, 50, 51, 52, 53, 54, 55, 56, 57, 97, 98, 99, 100, 101, 102]⟩ (n : Int) = ((qJ n).toNat : Int) := by
  have : n = 0 ∨ n = 1 ∨ n = 2 ∨ n = 3 ∨ n = 4 ∨ n = 5 ∨ n = 6 ∨ n = 7 ∨ n = 8 ∨ n = 9 ∨ n = 10 ∨ n = 11 ∨ n = 12 ∨ n = 13 ∨ n = 14 ∨ n = 15 := by omega
  rcases this with rfl | rfl | rfl | rfl | rfl | rfl | rfl | rfl | rfl | rfl | rfl | rfl | rfl | rfl | rfl | rfl <;> decide
theorem znJ : ∀ c : Fin 256, IntKind.u8.wrap ((BitVec.ofInt IntKind.u8.bits (c.val : Int) &&& BitVec.ofInt IntKind.u8.bits 15).toNat : Int) = ((c.val % 16 : Nat) : Int) := by decide +kernel
set_option maxHeartbeats 8000000 in
theorem kN (es : List T) (s : ByteArray) (hb : es.length + (6 * s.size + 2) ≤ 100000000) : Spec Tryz.prog 233 [.row (.par 0), .t (.str s)] [(.par 0, .slt 5 1 es)] (.row (.res 0)) [(.res 0, .slt 5 1 (es ++ u8L (jQ s)))] := by
  have hE := zaJ
  have hl : s.data.toList.length = s.size := by rw [Array.length_toList]; rfl
  refine wIG Tryz.func233 ?_
  repeat' (first | refine wC ?_ | refine wK ?_ | ((with_reducible refine zw ?_); refine zh rfl rfl rfl rfl rfl rfl rfl rfl rfl rfl ?_ ?_ ?_) | ((with_reducible refine ze ?_); refine wN (.row (.loc 901)) [(.res 0, .loc 901)] hE ?_) | fail)
  all_goals try (simp only [List.length_singleton]; omega)
  refine zl ((za [0, 1, 5, 15, 16] [.loc 901, .loc 13] rfl rfl).trans (zg (.loc 13) (.loc 900) rfl rfl rfl rfl)) ?_
  refine zz (fun p env st => ∃ (i : Nat), i ≤ s.size ∧ p = s.size - i ∧
      env = EnvL.get [(0, .row (.loc 900)), (1, .t (.str s)), (5, .row (.loc 901)), (15, .t (.int .i64 (s.size : Int))), (16, .t (.int .i64 (i : Int)))] ∧
      st = StO.get [(.loc 901, some (.dat (.map zl1))), (.loc 900, some (.slt 5 1 (es ++ u8L (34 :: yB (s.data.toList.take i)))))])
    ?_ (n := s.size) ⟨0, by omega, rfl, rfl, rfl⟩
  rintro p env st ⟨i, hi, rfl, rfl, rfl⟩
  have wi : IntKind.i64.wrap ((i : Int) + 1) = ((i + 1 : Nat) : Int) := by rw [zr (by omega) (by omega)]; omega
  have hq := jV (s.data.toList.take i)
  have hql : (s.data.toList.take i).length ≤ i := by rw [List.length_take]; omega
  have hxl : (es ++ u8L (34 :: yB (s.data.toList.take i))).length ≤ 99999999 := by
    simp only [List.length_append, zZ, List.length_cons]; omega
  by_cases hlt : i < s.size
  · have hbt : bAt s (i : Int) = ((s.data.toList.getD i default).toNat : Int) := rfl
    have hg := zln (s.data.toList.getD i default)
    have hk := zk3
    have ht := zdw s.data.toList i (by omega)
    have hc8 := (s.data.toList.getD i default).toNat_lt
    rw [show es ++ u8L (34 :: yB (s.data.toList.take i)) = es ++ u8L (34 :: yB (s.data.toList.take i)) from rfl]
    obtain ⟨X, hX⟩ : ∃ X, X = es ++ u8L (34 :: yB (s.data.toList.take i)) := ⟨_, rfl⟩
    have hnext : es ++ u8L (34 :: yB (s.data.toList.take (i + 1))) = X ++ u8L (zez (s.data.toList.getD i default)) := by
      rw [hX, ht, List.append_assoc, ← zP]; rfl
    rw [← hX] at hxl ⊢
    rw [← hbt] at hg
    generalize hcc : s.data.toList.getD i default = c at *
    unfold zez at hnext
    clear hX ht
    cases hO : zii c with
    | some l =>
      rw [hO] at hg hnext
      simp only [Option.map_some] at hg
      repeat' (first | refine wC ?_ | (exfalso; omega) | refine x4 (zT := .int _ _) rfl rfl rfl rfl hg (fun _ => rfl) rfl rfl rfl rfl ?_ ?_ | refine wK ?_ | ((with_reducible refine zy ?_); refine zf rfl rfl rfl rfl rfl rfl ?_ ?_ ?_) | ((with_reducible refine zw ?_); refine zh rfl rfl rfl rfl rfl rfl rfl rfl rfl rfl ?_ ?_ ?_) | refine zd rfl ?_ ?_ <;> intro hc)
      all_goals try exact hk
      all_goals try (simp only [List.length_cons, List.length_nil]; omega)
      all_goals try omega
      exact zI (n' := s.size - (i + 1)) (by omega) ((za [0, 1, 5, 15, 16] [.loc 901, .loc 37] rfl rfl).trans (zg (.loc 37) (.loc 900) rfl rfl rfl rfl)) ⟨i + 1, by omega, rfl, by rw [wi]; rfl, by rw [hnext]; rfl⟩
    | none =>
      rw [hO] at hg hnext
      simp only [Option.map_none] at hg
      simp only at hnext
      by_cases h32 : c.toNat < 32
      · rw [if_pos h32] at hnext
        have h4 : bAt s (i : Int) / 2 ^ min (Int.toNat 4) IntKind.u8.bits = ((c.toNat / 16 : Nat) : Int) := by rw [hbt]; show (c.toNat : Int) / 16 = _; omega
        have h15 : IntKind.u8.wrap ((BitVec.ofInt IntKind.u8.bits (bAt s (i : Int)) &&& BitVec.ofInt IntKind.u8.bits 15).toNat : Int) = ((c.toNat % 16 : Nat) : Int) := by rw [hbt]; exact znJ ⟨c.toNat, hc8⟩
        have e1 := zjY (c.toNat / 16) (by omega)
        have e2 := zjY (c.toNat % 16) (by omega)
        repeat' (first | refine wC ?_ | (exfalso; omega) | refine vb (zT := .int _ _) rfl rfl rfl rfl hg (fun _ => rfl) rfl rfl rfl rfl ?_ ?_ | refine wK ?_ | ((with_reducible refine zy ?_); refine zf rfl rfl rfl rfl rfl rfl ?_ ?_ ?_) | ((with_reducible refine zw ?_); refine zh rfl rfl rfl rfl rfl rfl rfl rfl rfl rfl ?_ ?_ ?_) | refine zd rfl ?_ ?_ <;> intro hc)
        all_goals try exact hk
        all_goals try (simp only [List.length_cons, List.length_nil]; omega)
        all_goals try (rw [h4]; omega)
        all_goals try (rw [h4]; show _ < (16 : Int); omega)
        all_goals try (rw [h15]; omega)
        all_goals try (rw [h15]; show _ < (16 : Int); omega)
        all_goals try omega
        exact zI (n' := s.size - (i + 1)) (by omega) ((za [0, 1, 5, 15, 16] [.loc 901, .loc 49] rfl rfl).trans (zg (.loc 49) (.loc 900) rfl rfl rfl rfl)) ⟨i + 1, by omega, rfl, by rw [wi]; rfl, by rw [hnext, h4, h15, e1, e2]; rfl⟩
      · rw [if_neg h32] at hnext
        repeat' (first | refine wC ?_ | (exfalso; omega) | refine vb (zT := .int _ _) rfl rfl rfl rfl hg (fun _ => rfl) rfl rfl rfl rfl ?_ ?_ | refine wK ?_ | ((with_reducible refine zy ?_); refine zf rfl rfl rfl rfl rfl rfl ?_ ?_ ?_) | ((with_reducible refine zw ?_); refine zh rfl rfl rfl rfl rfl rfl rfl rfl rfl rfl ?_ ?_ ?_) | refine zd rfl ?_ ?_ <;> intro hc)
        all_goals try exact hk
        all_goals try (simp only [List.length_cons, List.length_nil]; omega)
        all_goals try omega
        exact zI (n' := s.size - (i + 1)) (by omega) ((za [0, 1, 5, 15, 16] [.loc 901, .loc 31] rfl rfl).trans (zg (.loc 31) (.loc 900) rfl rfl rfl rfl)) ⟨i + 1, by omega, rfl, by rw [wi]; rfl, by rw [hnext, hbt]; rfl⟩
  · obtain rfl : i = s.size := by omega
    have e : es ++ u8L (34 :: yB (s.data.toList.take s.size)) ++ [T.int .u8 34] = es ++ u8L (jQ s) := by
      rw [← hl, List.take_length, List.append_assoc]
      congr 1
      show u8L _ ++ u8L [34] = _
      rw [← zP]; rfl
    repeat' (first | refine wC ?_ | (exfalso; omega) | refine wK ?_ | ((with_reducible refine zw ?_); refine zh rfl rfl rfl rfl rfl rfl rfl rfl rfl rfl ?_ ?_ ?_) | refine zd rfl ?_ ?_ <;> intro hc)
    all_goals try (simp only [List.length_singleton]; omega)
    refine zv ((za [4] [.loc 53] rfl rfl).trans (zg (.loc 53) (.res 0) rfl rfl rfl rfl)) ?_
    exact zL (zp (zK rfl (AVLE.of_eq rfl)) (zc ⟨by rw [← e]; rfl, trivial⟩))
set_option maxHeartbeats 2000000 in
theorem zbD (es : List T) (b : Bool) (hb : es.length ≤ 100000000) : Spec Tryz.prog 231 [.row (.par 0), .t (.bool b)] [(.par 0, .slt 5 1 es)] (.row (.res 0)) [(.res 0, .slt 5 1 (es ++ u8L (if b then w7 else xm)))] := by
  have hI : Spec Tryz.prog 275 [.row (.par 0), .t (.bool b)] [(.par 0, .slt 5 1 es)] (.row (.res 0)) [(.res 0, .slt 5 1 (es ++ u8L (if b then w7 else xm)))] := by
    cases b with
    | true =>
      refine wIG Tryz.func275 ?_
      repeat' (first | refine wC ?_ | refine wK ?_ | ((with_reducible refine zw ?_); refine yH rfl rfl rfl rfl rfl rfl rfl rfl rfl ?_ ?_ ?_))
      · show (es.length + 4) * 1 ≤ _; omega
      · show es.length + 4 ≤ _; omega
      refine zv ((za [4] [.loc 7] rfl rfl).trans (zg (.loc 7) (.res 0) rfl rfl rfl rfl)) ?_
      exact zL (zp (zK rfl (AVLE.of_eq rfl)) (zc ⟨rfl, trivial⟩))
    | false =>
      refine wIG Tryz.func275 ?_
      repeat' (first | refine wC ?_ | refine wK ?_ | ((with_reducible refine zw ?_); refine yH rfl rfl rfl rfl rfl rfl rfl rfl rfl ?_ ?_ ?_))
      · show (es.length + 5) * 1 ≤ _; omega
      · show es.length + 5 ≤ _; omega
      refine zv ((za [4] [.loc 9] rfl rfl).trans (zg (.loc 9) (.res 0) rfl rfl rfl rfl)) ?_
      exact zL (zp (zK rfl (AVLE.of_eq rfl)) (zc ⟨rfl, trivial⟩))
  refine wIG Tryz.func231 ?_
  repeat' (first | refine wC ?_ | refine wK ?_ | ((with_reducible refine ze ?_); refine wN (.row (.loc 903)) [(.res 0, .loc 903)] hI ?_) | fail)
  refine zv ((za [4] [.loc 903] rfl rfl).trans (zg (.loc 903) (.res 0) rfl rfl rfl rfl)) ?_
  exact zL (zp (zK rfl (AVLE.of_eq rfl)) (zc ⟨rfl, trivial⟩))
theorem zbL (b : Bool) : Spec Tryz.prog 170 [.t (.bool b)] [] (.t (.str (ofL (if b then w7 else xm)))) [] := by
  have hI : Spec Tryz.prog 248 [.t (.bool b)] [] (.t (.str (ofL (if b then w7 else xm)))) [] := by
    cases b with
    | true =>
      refine wI Tryz.func248 ?_
      repeat' (first | refine wC ?_ | refine wK ?_ | fail)
      exact zp (zo rfl rfl rfl) (by simp)
    | false =>
      refine wI Tryz.func248 ?_
      repeat' (first | refine wC ?_ | refine wK ?_ | fail)
      exact zp (zo rfl rfl rfl) (by simp)
  generalize ofL (if b then w7 else xm) = r at *
  refine wI Tryz.func170 ?_
  repeat' (first | refine wC ?_ | refine wK ?_ | ((with_reducible refine ze ?_); refine wL hI ?_) | fail)
  exact zp (zo rfl rfl rfl) (by simp)
end Go.AL
namespace Go.AL
open Go Go.Proofs Go.RowKit Go.Shelf
theorem zkB {P : Program} (t : TypeId) {d : TypeDesc} [tu : TyU P t d] (w : World) : (isAgg t).run P w = .ok (xk d) w := wQ tu
theorem zjw {P : Program} (t : TypeId) {s b : Nat} {z : Value} [ti : TyI P t s b z] (w : World) : (Go.sizeOf t).run P w = .ok s w := y4 ti
theorem zkg {P : Program} (t : TypeId) {s b : Nat} {z : Value} [ti : TyI P t s b z] (w : World) : (zeroValue t).run P w = .ok z w := yv ti
def zlA : Ren := ⟨fun | 283 => 200 | x => x, fun | 3 => 3 | 4 => 4 | 9 => 9 | x => x, fun x => x⟩
set_option maxRecDepth 100000 in
theorem zjy : Lays.n283 Tryz.prog zlA where
  mixed := by kernel_rfl
  f283 := by kernel_rfl
  t3 := Tryz.underlying3
  a3 := fun w => zkB (P := Tryz.prog) (d := (TypeDesc.int IntKind.i64)) 3 w
  z3 := fun w => zjw (P := Tryz.prog) 3 w
  v3 := fun w => zkg (P := Tryz.prog) 3 w
  t4 := Tryz.underlying4
  a4 := fun w => zkB (P := Tryz.prog) (d := TypeDesc.bool) 4 w
  z4 := fun w => zjw (P := Tryz.prog) 4 w
  v4 := fun w => zkg (P := Tryz.prog) 4 w
  t9 := Tryz.underlying9
  a9 := fun w => zkB (P := Tryz.prog) (d := TypeDesc.string) 9 w
  z9 := fun w => zjw (P := Tryz.prog) 9 w
  v9 := fun w => zkg (P := Tryz.prog) 9 w
theorem zaX {P : Program} (t : TypeId) {d : TypeDesc} [tu : TyU P t d] (w : World) : (isAgg t).run P w = .ok (xk d) w := wQ tu
theorem zaK {P : Program} (t : TypeId) {s b : Nat} {z : Value} [ti : TyI P t s b z] (w : World) : (Go.sizeOf t).run P w = .ok s w := y4 ti
theorem zaF {P : Program} (t : TypeId) {s b : Nat} {z : Value} [ti : TyI P t s b z] (w : World) : (zeroValue t).run P w = .ok z w := yv ti
def zlc : Ren := ⟨fun | 129 => 265 | 284 => 201 | 317 => 264 | 318 => 266 | x => x, fun | 0 => 0 | 3 => 3 | 4 => 4 | 5 => 5 | 9 => 9 | 46 => 148 | 53 => 201 | 212 => 276 | x => x, fun | 17 => 2 | x => x⟩
set_option maxRecDepth 100000 in
theorem zkM : LaysM.n284 Tryz.prog zlc where
  mixed := by kernel_rfl
  f129 := by kernel_rfl
  f284 := by kernel_rfl
  f317 := by kernel_rfl
  f318 := by kernel_rfl
  t0 := Tryz.underlying0
  a0 := fun w => zaX (P := Tryz.prog) (d := (TypeDesc.tuple #[])) 0 w
  z0 := fun w => zaK (P := Tryz.prog) 0 w
  v0 := fun w => zaF (P := Tryz.prog) 0 w
  t3 := Tryz.underlying3
  a3 := fun w => zaX (P := Tryz.prog) (d := (TypeDesc.int IntKind.i64)) 3 w
  z3 := fun w => zaK (P := Tryz.prog) 3 w
  v3 := fun w => zaF (P := Tryz.prog) 3 w
  t4 := Tryz.underlying4
  a4 := fun w => zaX (P := Tryz.prog) (d := TypeDesc.bool) 4 w
  z4 := fun w => zaK (P := Tryz.prog) 4 w
  v4 := fun w => zaF (P := Tryz.prog) 4 w
  t5 := Tryz.underlying5
  a5 := fun w => zaX (P := Tryz.prog) (d := (TypeDesc.int IntKind.u8)) 5 w
  z5 := fun w => zaK (P := Tryz.prog) 5 w
  v5 := fun w => zaF (P := Tryz.prog) 5 w
  t9 := Tryz.underlying9
  a9 := fun w => zaX (P := Tryz.prog) (d := TypeDesc.string) 9 w
  z9 := fun w => zaK (P := Tryz.prog) 9 w
  v9 := fun w => zaF (P := Tryz.prog) 9 w
  t46 := Tryz.underlying148
  a46 := fun w => zaX (P := Tryz.prog) (d := (TypeDesc.int IntKind.u64)) 148 w
  z46 := fun w => zaK (P := Tryz.prog) 148 w
  v46 := fun w => zaF (P := Tryz.prog) 148 w
  t53 := Tryz.underlying201
  a53 := fun w => zaX (P := Tryz.prog) (d := (TypeDesc.int IntKind.u64)) 201 w
  z53 := fun w => zaK (P := Tryz.prog) 201 w
  v53 := fun w => zaF (P := Tryz.prog) 201 w
  t212 := Tryz.underlying276
  a212 := fun w => zaX (P := Tryz.prog) (d := (TypeDesc.array 20 201)) 276 w
  z212 := fun w => zaK (P := Tryz.prog) 276 w
  v212 := fun w => zaF (P := Tryz.prog) 276 w
  g17 := by kernel_rfl
  i0 := by kernel_rfl
  i3 := by kernel_rfl
  i4 := by kernel_rfl
  i5 := by kernel_rfl
  i9 := by kernel_rfl
  i46 := by kernel_rfl
  i53 := by kernel_rfl
  i212 := by kernel_rfl
  m17 := by kernel_rfl
theorem zaD {P : Program} (t : TypeId) {d : TypeDesc} [tu : TyU P t d] (w : World) : (isAgg t).run P w = .ok (xk d) w := wQ tu
theorem zaZ {P : Program} (t : TypeId) {s b : Nat} {z : Value} [ti : TyI P t s b z] (w : World) : (Go.sizeOf t).run P w = .ok s w := y4 ti
theorem zaI {P : Program} (t : TypeId) {s b : Nat} {z : Value} [ti : TyI P t s b z] (w : World) : (zeroValue t).run P w = .ok z w := yv ti
def zli : Ren := ⟨fun | 285 => 202 | x => x, fun | 0 => 0 | 3 => 3 | 4 => 4 | 5 => 5 | 9 => 9 | 37 => 82 | 51 => 168 | 53 => 201 | x => x, fun x => x⟩
set_option maxRecDepth 100000 in
theorem zjW : Lays.n285 Tryz.prog zli where
  mixed := by kernel_rfl
  f285 := by kernel_rfl
  t0 := Tryz.underlying0
  a0 := fun w => zaD (P := Tryz.prog) (d := (TypeDesc.tuple #[])) 0 w
  z0 := fun w => zaZ (P := Tryz.prog) 0 w
  v0 := fun w => zaI (P := Tryz.prog) 0 w
  t3 := Tryz.underlying3
  a3 := fun w => zaD (P := Tryz.prog) (d := (TypeDesc.int IntKind.i64)) 3 w
  z3 := fun w => zaZ (P := Tryz.prog) 3 w
  v3 := fun w => zaI (P := Tryz.prog) 3 w
  t4 := Tryz.underlying4
  a4 := fun w => zaD (P := Tryz.prog) (d := TypeDesc.bool) 4 w
  z4 := fun w => zaZ (P := Tryz.prog) 4 w
  v4 := fun w => zaI (P := Tryz.prog) 4 w
  t5 := Tryz.underlying5
  a5 := fun w => zaD (P := Tryz.prog) (d := (TypeDesc.int IntKind.u8)) 5 w
  z5 := fun w => zaZ (P := Tryz.prog) 5 w
  v5 := fun w => zaI (P := Tryz.prog) 5 w
  t9 := Tryz.underlying9
  a9 := fun w => zaD (P := Tryz.prog) (d := TypeDesc.string) 9 w
  z9 := fun w => zaZ (P := Tryz.prog) 9 w
  v9 := fun w => zaI (P := Tryz.prog) 9 w
  t37 := Tryz.underlying82
  a37 := fun w => zaD (P := Tryz.prog) (d := (TypeDesc.slice 5)) 82 w
  z37 := fun w => zaZ (P := Tryz.prog) 82 w
  v37 := fun w => zaI (P := Tryz.prog) 82 w
  t51 := Tryz.underlying168
  a51 := fun w => zaD (P := Tryz.prog) (d := (TypeDesc.int IntKind.u32)) 168 w
  z51 := fun w => zaZ (P := Tryz.prog) 168 w
  v51 := fun w => zaI (P := Tryz.prog) 168 w
  t53 := Tryz.underlying201
  a53 := fun w => zaD (P := Tryz.prog) (d := (TypeDesc.int IntKind.u64)) 201 w
  z53 := fun w => zaZ (P := Tryz.prog) 201 w
  v53 := fun w => zaI (P := Tryz.prog) 201 w
theorem wJ {P : Program} (t : TypeId) {d : TypeDesc} [tu : TyU P t d] (w : World) : (isAgg t).run P w = .ok (xk d) w := wQ tu
theorem ww {P : Program} (t : TypeId) {s b : Nat} {z : Value} [ti : TyI P t s b z] (w : World) : (Go.sizeOf t).run P w = .ok s w := y4 ti
theorem wY {P : Program} (t : TypeId) {s b : Nat} {z : Value} [ti : TyI P t s b z] (w : World) : (zeroValue t).run P w = .ok z w := yv ti
def zls : Ren := ⟨fun | 129 => 265 | 171 => 171 | 243 => 249 | 246 => 124 | 283 => 200 | 284 => 201 | 285 => 202 | 286 => 203 | 317 => 264 | 318 => 266 | 319 => 267 | 320 => 268 | 337 => 292 | 338 => 293 | x => x, fun | 0 => 0 | 2 => 2 | 3 => 3 | 4 => 4 | 5 => 5 | 9 => 9 | 20 => 20 | 37 => 82 | 46 => 148 | 51 => 168 | 53 => 201 | 171 => 227 | 173 => 230 | 212 => 276 | 213 => 277 | 232 => 175 | 233 => 311 | x => x, fun | 17 => 2 | 18 => 6 | 19 => 7 | x => x⟩
set_option maxRecDepth 100000 in
theorem zkG : LaysM.n171 Tryz.prog zls where
  mixed := by kernel_rfl
  f129 := by kernel_rfl
  f171 := by kernel_rfl
  f243 := by kernel_rfl
  f246 := by kernel_rfl
  f283 := by kernel_rfl
  f284 := by kernel_rfl
  f285 := by kernel_rfl
  f286 := by kernel_rfl
  f317 := by kernel_rfl
  f318 := by kernel_rfl
  f319 := by kernel_rfl
  f320 := by kernel_rfl
  f337 := by kernel_rfl
  f338 := by kernel_rfl
  t0 := Tryz.underlying0
  a0 := fun w => wJ (P := Tryz.prog) (d := (TypeDesc.tuple #[])) 0 w
  z0 := fun w => ww (P := Tryz.prog) 0 w
  v0 := fun w => wY (P := Tryz.prog) 0 w
  t2 := Tryz.underlying2
  a2 := fun w => wJ (P := Tryz.prog) (d := (TypeDesc.int IntKind.i64)) 2 w
  z2 := fun w => ww (P := Tryz.prog) 2 w
  v2 := fun w => wY (P := Tryz.prog) 2 w
  t3 := Tryz.underlying3
  a3 := fun w => wJ (P := Tryz.prog) (d := (TypeDesc.int IntKind.i64)) 3 w
  z3 := fun w => ww (P := Tryz.prog) 3 w
  v3 := fun w => wY (P := Tryz.prog) 3 w
  t4 := Tryz.underlying4
  a4 := fun w => wJ (P := Tryz.prog) (d := TypeDesc.bool) 4 w
  z4 := fun w => ww (P := Tryz.prog) 4 w
  v4 := fun w => wY (P := Tryz.prog) 4 w
  t5 := Tryz.underlying5
  a5 := fun w => wJ (P := Tryz.prog) (d := (TypeDesc.int IntKind.u8)) 5 w
  z5 := fun w => ww (P := Tryz.prog) 5 w
  v5 := fun w => wY (P := Tryz.prog) 5 w
  t9 := Tryz.underlying9
  a9 := fun w => wJ (P := Tryz.prog) (d := TypeDesc.string) 9 w
  z9 := fun w => ww (P := Tryz.prog) 9 w
  v9 := fun w => wY (P := Tryz.prog) 9 w
  t20 := Tryz.underlying20
  a20 := fun w => wJ (P := Tryz.prog) (d := (TypeDesc.interface #[])) 20 w
  z20 := fun w => ww (P := Tryz.prog) 20 w
  v20 := fun w => wY (P := Tryz.prog) 20 w
  t37 := Tryz.underlying82
  a37 := fun w => wJ (P := Tryz.prog) (d := (TypeDesc.slice 5)) 82 w
  z37 := fun w => ww (P := Tryz.prog) 82 w
  v37 := fun w => wY (P := Tryz.prog) 82 w
  t46 := Tryz.underlying148
  a46 := fun w => wJ (P := Tryz.prog) (d := (TypeDesc.int IntKind.u64)) 148 w
  z46 := fun w => ww (P := Tryz.prog) 148 w
  v46 := fun w => wY (P := Tryz.prog) 148 w
  t51 := Tryz.underlying168
  a51 := fun w => wJ (P := Tryz.prog) (d := (TypeDesc.int IntKind.u32)) 168 w
  z51 := fun w => ww (P := Tryz.prog) 168 w
  v51 := fun w => wY (P := Tryz.prog) 168 w
  t53 := Tryz.underlying201
  a53 := fun w => wJ (P := Tryz.prog) (d := (TypeDesc.int IntKind.u64)) 201 w
  z53 := fun w => ww (P := Tryz.prog) 201 w
  v53 := fun w => wY (P := Tryz.prog) 201 w
  t171 := Tryz.underlying227
  a171 := fun w => wJ (P := Tryz.prog) (d := (TypeDesc.array 24 5)) 227 w
  z171 := fun w => ww (P := Tryz.prog) 227 w
  v171 := fun w => wY (P := Tryz.prog) 227 w
  t173 := Tryz.underlying230
  a173 := fun w => wJ (P := Tryz.prog) (d := (TypeDesc.tuple #[82, 9])) 230 w
  z173 := fun w => ww (P := Tryz.prog) 230 w
  v173 := fun w => wY (P := Tryz.prog) 230 w
  t212 := Tryz.underlying276
  a212 := fun w => wJ (P := Tryz.prog) (d := (TypeDesc.array 20 201)) 276 w
  z212 := fun w => ww (P := Tryz.prog) 276 w
  v212 := fun w => wY (P := Tryz.prog) 276 w
  t213 := Tryz.underlying277
  a213 := fun w => wJ (P := Tryz.prog) (d := (TypeDesc.array 65 5)) 277 w
  z213 := fun w => ww (P := Tryz.prog) 277 w
  t232 := Tryz.underlying175
  a232 := fun w => wJ (P := Tryz.prog) (d := (TypeDesc.array 32 5)) 175 w
  z232 := fun w => ww (P := Tryz.prog) 175 w
  v232 := fun w => wY (P := Tryz.prog) 175 w
  t233 := Tryz.underlying311
  a233 := fun w => wJ (P := Tryz.prog) (d := (TypeDesc.array 64 5)) 311 w
  z233 := fun w => ww (P := Tryz.prog) 311 w
  v233 := fun w => wY (P := Tryz.prog) 311 w
  g17 := by kernel_rfl
  g18 := by kernel_rfl
  g19 := by kernel_rfl
  i0 := by kernel_rfl
  i2 := by kernel_rfl
  i3 := by kernel_rfl
  i4 := by kernel_rfl
  i5 := by kernel_rfl
  i9 := by kernel_rfl
  i20 := by kernel_rfl
  i37 := by kernel_rfl
  i46 := by kernel_rfl
  i51 := by kernel_rfl
  i53 := by kernel_rfl
  i171 := by kernel_rfl
  i173 := by kernel_rfl
  i212 := by kernel_rfl
  i232 := by kernel_rfl
  i233 := by kernel_rfl
  m17 := by kernel_rfl
  m18 := by kernel_rfl
  m19 := by kernel_rfl
end Go.AL
namespace Go.AL
open Go Go.Proofs Go.RowKit Go.Sort
theorem Spec.of_same {P : Program} {f : FuncId} {args : List AV} {r : AV} {S : StL} (H : ∀ h m (vs : Array Value) w, Sim h m (StL.get S) w → vs.size = args.length → RepAs h m (fun j => vs[j]?) 0 args → Calls P f vs w fun e w' => ∃ v, e = .returned v ∧ (∀ h' m', RepA h' m' v r) ∧ w' = w) : Spec P f args S r S where
  run h m vs w hs hv hr := (H h m vs w hs hv hr).mono fun e w' ⟨v, he, hv', hw⟩ => by
    subst hw
    exact ⟨v, h, m, he, hv' h m, hs, ⟨Foot.refl .., fun _ => rfl⟩⟩
theorem zd4 {h : Heap} {m : zQ} {vs : Array Value} {x : T} (hv : vs.size = 1) (hr : RepAs h m (fun j => vs[j]?) 0 [.t x]) {u : Value} (hx : ∀ v, RepT h v x → v = u) : vs = #[u] := by
  simp only [RepAs, RepA, and_true] at hr
  obtain ⟨v, h0, h1⟩ := hr
  have := hx v h1
  subst this
  apply Array.ext
  · simpa using hv
  · intro i h1' h2'
    obtain rfl : i = 0 := by omega
    rw [Array.getElem?_eq_getElem h1'] at h0; simpa using h0
theorem zmh {oP : Obj} (hP : y3 .u64 Lib.pow10Tab oP) {w : World} (h : w.heap[2]? = some oP) : Lib.TabIs Tryz.prog w "internal/strconv.uint64pow10" .u64 Lib.pow10Tab := by
  unfold Lib.TabIs World.var?
  rw [show Tryz.prog.globalNamed "internal/strconv.uint64pow10" = some 2 by kernel_rfl, Option.bind_some, h]
  cases oP with
  | cells cs e fr =>
    have : cs.toList = Lib.pow10Tab.map (Value.int .u64) := hP
    show some cs = _
    congr 1
    apply Array.ext'
    rw [this]
  | _ => exact hP.elim
theorem zgf {oP : Obj} {h : Heap} {m : zQ} {w : World} {S : StL} {b : Nat} {id : Id} (hs : Sim h m (StL.get S) w) (hS : StL.get S id = some (.dat (.fix b oP))) : w.heap[b]? = some oP := by
  obtain ⟨b', o, e1, e2, e3⟩ := hs.rows id _ hS
  obtain ⟨e4, e5⟩ := e3
  subst e5
  rw [e4] at e1
  cases e1
  exact e2
theorem zcL {oP : Obj} (hP : y3 .u64 Lib.pow10Tab oP) (u : Nat) (h1 : 1 ≤ u) (h2 : u < 18446744073709551616) : Spec Tryz.prog 201 [.t (.int .u64 (u : Int))] [(.par 102, .dat (.fix 2 oP))] (.t (.int .i64 (Lib.nDigits u : Int))) [(.par 102, .dat (.fix 2 oP))] :=
  Spec.of_same fun h m vs w hs hv hr => by
    obtain rfl := zd4 hv hr (u := .int .u64 u) fun v hv => by simpa [RepT] using hv
    exact (Any.internal_strconv_numDigits zkM u h1 h2 w (zmh hP (zgf hs (yz _ _)))).mono fun e w' ⟨he, hw⟩ => ⟨_, he, fun h' m' => by simp [RepA, RepT], hw⟩
theorem zil (i : Nat) (hi : i < 100) : Spec Tryz.prog 200 [.t (.int .i64 (i : Int))] [] (.t (.str (ofL (Lib.decDigits i)))) [] :=
  Spec.of_same fun h m vs w hs hv hr => by
    obtain rfl := zd4 hv hr (u := .int .i64 i) fun v hv => by simpa [RepT] using hv
    exact (Any.internal_strconv_small zjy i hi w).mono fun e w' ⟨he, hw⟩ => ⟨_, he, fun h' m' => by simp [RepA, RepT, ofL], hw⟩
theorem zjt {oP : Obj} (hP : y3 .u64 Lib.pow10Tab oP) (n : Int) (h0 : -9223372036854775808 ≤ n) (h1 : n ≤ 9223372036854775807) : Spec Tryz.prog 171 [.t (.int .i64 n)] [(.par 102, .dat (.fix 2 oP))] (.t (.str (ofL (Lib.itoa n)))) [(.par 102, .dat (.fix 2 oP))] where
  run h m vs w hs hv hr := by
    obtain rfl := zd4 hv hr (u := .int .i64 n) fun v hv => by simpa [RepT] using hv
    refine (Any.strconv_Itoa zkG n h0 h1 w (zmh hP (zgf hs (yz _ _)))).mono fun e w' ⟨he, k, os, hw⟩ => ?_
    have hb : Below w.heap.size w w' := by rw [hw]; exact Lib.below_grow w.heap.size w (Nat.le_refl _) k os
    have := zbo hs hb
    exact ⟨_, h, m, he, by simp [RepA, RepT, ofL], this.1, this.2⟩
theorem zmN (l : List UInt8) (d : Array UInt8) (n : Nat) (hl : l.length = n) (hd : d.size = n) (H : ∀ j (hj : j < l.length), l[j] = d[j]!) : d = l.toArray := by
  apply Array.ext
  · simp; omega
  · intro i h1 h2
    have := H i (by simpa using h2)
    rw [getElem!_pos d i h1] at this
    simp [this]
theorem zh2 {aty : TypeId} (bs : List UInt8) (u : Nat) (hu : u < 18446744073709551616) (hlen : Lib.nDigits u ≤ bs.length) (hsz : bs.length ≤ 100) : Spec Tryz.prog 202 [.view (.par 0) (Lib.nDigits u) bs.length, .t (.int .u64 (u : Int))] [(.par 0, .arr aty 1 (u8L bs))] (.tup []) [(.par 0, .arr aty 1 (u8L (Lib.decDigits u ++ bs.drop (Lib.nDigits u))))] where
  run h m vs w hs hv hr := by
    obtain ⟨b, arr, e1, e2, e3, e4⟩ := hs.rows (.par 0) _ (yz _ _)
    simp only [RepAs, RepA, RepT, and_true] at hr
    obtain ⟨⟨v0, k0, b', k1, rfl⟩, v1, k2, rfl⟩ := hr
    rw [e1] at k1
    cases k1
    have hv2 : vs.size = 2 := hv
    have evs : vs = #[.slice (some ⟨b, 0, none⟩) (Lib.nDigits u) bs.length, .int .u64 u] := by
      apply Array.ext
      · simpa using hv2
      · intro i h1' h2'
        have : i = 0 ∨ i = 1 := by omega
        rcases this with rfl | rfl
        · rw [Array.getElem?_eq_getElem h1'] at k0; simpa using k0
        · rw [Array.getElem?_eq_getElem h1'] at k2; simpa using k2
    subst evs
    have hal : arr.size = bs.length := by rw [e3, zZ, Nat.mul_one]
    have cell : ∀ j (hj : j < bs.length), arr[j]? = some (.int .u8 (bs[j].toNat : Int)) := fun j hj => by
      obtain ⟨_, c2⟩ := wv e4 (i := j) (e := u8T bs[j]) (by simp [u8L, hj])
      simp only [u8T, T.cells, RepL, RepT, and_true, Nat.mul_one, Nat.zero_add] at c2
      obtain ⟨x, c3, _, rfl⟩ := c2
      exact c3
    have hH : Holds (fun (b : UInt8) => Value.int .u8 (b.toNat : Int)) w b 0 (bs.take (Lib.nDigits u)).toArray := fun j hj => by
      have hj' : j < Lib.nDigits u := by simp at hj; omega
      refine ⟨?_, ?_⟩
      · rw [Nat.zero_add, yI e2, cell j (by omega), getElem!_pos _ j hj]
        simp
      · simp [World.frozen?, e2]
    have hds : (bs.take (Lib.nDigits u)).toArray.size = Lib.nDigits u := by simp; omega
    have hfmt := Any.internal_strconv_formatBase10 zjW b 0 bs.length u (bs.take (Lib.nDigits u)).toArray w hH (by rw [hds]; exact Lib.lt_pow_nDigits u) hu (by rw [hds]; omega)
    rw [hds] at hfmt
    refine hfmt.mono fun e w' ⟨he, n, v', dk, hw, hF⟩ => ?_
    have hdk : dk = (Lib.decDigits u).toArray := zmN _ _ (Lib.nDigits u) (Lib.decDigits_length u) hF.size (fun j hj => Lib.row_is_numeral hF j hj)
    have hdl : (Lib.decDigits u).length = Lib.nDigits u := Lib.decDigits_length u
    have hbl : b < w.heap.size := (Array.getElem?_eq_some_iff.1 e2).1
    have hheap : w'.heap = w.heap.modify b (onCells (putCells (fun (b : UInt8) => Value.int .u8 (b.toNat : Int)) 0 dk)) := by rw [hw]; rfl
    have hwr : Wrote w w' b := ⟨by rw [hw]; rfl, by rw [hw]; rfl, by rw [hw]; rfl, by rw [hheap]; simp, fun k hk => by rw [hheap, Array.getElem?_modify, if_neg (Ne.symm hk)]⟩
    have hnew : w'.heap[b]? = some (.cells (putCells (fun (b : UInt8) => Value.int .u8 (b.toNat : Int)) 0 dk arr) aty (0, 0)) := by
      rw [hheap, Array.getElem?_modify, if_pos rfl, e2]; rfl
    obtain ⟨s1, s2⟩ := jt hs (by rw [e1]; rfl) hwr (row' := .arr aty 1 (u8L (Lib.decDigits u ++ bs.drop (Lib.nDigits u)))) ⟨b, _, e1, hnew, by
      simp only [putCells, Array.size_mapIdx, hal, zZ, List.length_append, hdl, List.length_drop]; omega, by
      refine xM fun i e' he' => ?_
      have hi : i < (Lib.decDigits u ++ bs.drop (Lib.nDigits u)).length := by
        have := (List.getElem?_eq_some_iff.1 he').1
        rwa [zZ] at this
      have hi2 : i < bs.length := by rw [List.length_append, List.length_drop] at hi; omega
      have e5 : e' = u8T (Lib.decDigits u ++ bs.drop (Lib.nDigits u))[i] := by
        have := he'
        simp only [u8L, List.getElem?_map, List.getElem?_eq_getElem hi, Option.map_some, Option.some.injEq] at this
        exact this.symm
      subst e5
      refine ⟨rfl, ?_⟩
      simp only [u8T, T.cells, RepL, RepT, and_true, Nat.mul_one, Nat.zero_add]
      refine ⟨_, ?_, rfl, rfl⟩
      simp only [putCells, Array.getElem?_mapIdx, cell i hi2, Option.map_some, Nat.zero_le, true_and, Nat.zero_add, Nat.sub_zero]
      congr 1
      by_cases hlt : i < dk.size
      · rw [if_pos hlt]
        have h3 : i < (Lib.decDigits u).length := by rw [hdl]; rw [hF.size] at hlt; exact hlt
        rw [List.getElem_append_left h3, Lib.row_is_numeral hF i h3]
      · rw [if_neg hlt]
        have h3 : (Lib.decDigits u).length ≤ i := by rw [hdl]; rw [hF.size] at hlt; omega
        rw [List.getElem_append_right h3, List.getElem_drop]
        congr 3
        have h4 : Lib.nDigits u + (i - (Lib.decDigits u).length) = i := by omega
        simp only [h4]⟩
    exact ⟨_, h, m, he, ⟨#[], rfl, rfl, trivial⟩, s1, ⟨s2, fun _ => rfl⟩⟩
end Go.AL
namespace Go.AL
open Go Go.Proofs Go.RowKit Go.Shelf
theorem y8 {P : Program} (t : TypeId) {d : TypeDesc} [tu : TyU P t d] (w : World) : (isAgg t).run P w = .ok (xk d) w := wQ tu
theorem y7 {P : Program} (t : TypeId) {s b : Nat} {z : Value} [ti : TyI P t s b z] (w : World) : (Go.sizeOf t).run P w = .ok s w := y4 ti
theorem xc {P : Program} (t : TypeId) {s b : Nat} {z : Value} [ti : TyI P t s b z] (w : World) : (zeroValue t).run P w = .ok z w := yv ti
def zly : Ren := ⟨fun | 129 => 265 | 171 => 171 | 172 => 263 | 205 => 289 | 243 => 249 | 244 => 291 | 245 => 195 | 246 => 124 | 247 => 194 | 279 => 258 | 280 => 259 | 281 => 260 | 282 => 261 | 283 => 200 | 284 => 201 | 285 => 202 | 286 => 203 | 287 => 257 | 316 => 288 | 317 => 264 | 318 => 266 | 319 => 267 | 320 => 268 | 321 => 286 | 322 => 287 | 337 => 292 | 338 => 293 | x => x, fun | 0 => 0 | 2 => 2 | 3 => 3 | 4 => 4 | 5 => 5 | 9 => 9 | 20 => 20 | 21 => 21 | 37 => 82 | 46 => 148 | 51 => 168 | 53 => 201 | 75 => 128 | 143 => 307 | 145 => 309 | 167 => 269 | 168 => 270 | 210 => 296 | 76 => 156 | 85 => 129 | 127 => 240 | 171 => 227 | 173 => 230 | 175 => 234 | 212 => 276 | 213 => 277 | 232 => 175 | 233 => 311 | 80 => 64 | x => x, fun | 15 => 3 | 16 => 4 | 17 => 2 | 18 => 6 | 19 => 7 | x => x⟩
set_option maxRecDepth 100000 in
theorem qU : LaysC.n172 Tryz.prog zly where
  mixed := by kernel_rfl
  f129 := by kernel_rfl
  f171 := by kernel_rfl
  f172 := by kernel_rfl
  f205 := by kernel_rfl
  f243 := by kernel_rfl
  f244 := by kernel_rfl
  f245 := by kernel_rfl
  f246 := by kernel_rfl
  f247 := by kernel_rfl
  f279 := by kernel_rfl
  f280 := by kernel_rfl
  f281 := by kernel_rfl
  f282 := by kernel_rfl
  f283 := by kernel_rfl
  f284 := by kernel_rfl
  f285 := by kernel_rfl
  f286 := by kernel_rfl
  f287 := by kernel_rfl
  f316 := by kernel_rfl
  f317 := by kernel_rfl
  f318 := by kernel_rfl
  f319 := by kernel_rfl
  f320 := by kernel_rfl
  f321 := by kernel_rfl
  f322 := by kernel_rfl
  f337 := by kernel_rfl
  f338 := by kernel_rfl
  t0 := Tryz.underlying0
  a0 := fun w => y8 (P := Tryz.prog) (d := (TypeDesc.tuple #[])) 0 w
  z0 := fun w => y7 (P := Tryz.prog) 0 w
  v0 := fun w => xc (P := Tryz.prog) 0 w
  t2 := Tryz.underlying2
  a2 := fun w => y8 (P := Tryz.prog) (d := (TypeDesc.int IntKind.i64)) 2 w
  z2 := fun w => y7 (P := Tryz.prog) 2 w
  v2 := fun w => xc (P := Tryz.prog) 2 w
  t3 := Tryz.underlying3
  a3 := fun w => y8 (P := Tryz.prog) (d := (TypeDesc.int IntKind.i64)) 3 w
  z3 := fun w => y7 (P := Tryz.prog) 3 w
  v3 := fun w => xc (P := Tryz.prog) 3 w
  t4 := Tryz.underlying4
  a4 := fun w => y8 (P := Tryz.prog) (d := TypeDesc.bool) 4 w
  z4 := fun w => y7 (P := Tryz.prog) 4 w
  v4 := fun w => xc (P := Tryz.prog) 4 w
  t5 := Tryz.underlying5
  a5 := fun w => y8 (P := Tryz.prog) (d := (TypeDesc.int IntKind.u8)) 5 w
  z5 := fun w => y7 (P := Tryz.prog) 5 w
  v5 := fun w => xc (P := Tryz.prog) 5 w
  t9 := Tryz.underlying9
  a9 := fun w => y8 (P := Tryz.prog) (d := TypeDesc.string) 9 w
  z9 := fun w => y7 (P := Tryz.prog) 9 w
  v9 := fun w => xc (P := Tryz.prog) 9 w
  t20 := Tryz.underlying20
  a20 := fun w => y8 (P := Tryz.prog) (d := (TypeDesc.interface #[])) 20 w
  z20 := fun w => y7 (P := Tryz.prog) 20 w
  v20 := fun w => xc (P := Tryz.prog) 20 w
  t21 := Tryz.underlying21
  a21 := fun w => y8 (P := Tryz.prog) (d := (TypeDesc.int IntKind.i32)) 21 w
  z21 := fun w => y7 (P := Tryz.prog) 21 w
  v21 := fun w => xc (P := Tryz.prog) 21 w
  t37 := Tryz.underlying82
  a37 := fun w => y8 (P := Tryz.prog) (d := (TypeDesc.slice 5)) 82 w
  z37 := fun w => y7 (P := Tryz.prog) 82 w
  v37 := fun w => xc (P := Tryz.prog) 82 w
  t46 := Tryz.underlying148
  a46 := fun w => y8 (P := Tryz.prog) (d := (TypeDesc.int IntKind.u64)) 148 w
  z46 := fun w => y7 (P := Tryz.prog) 148 w
  v46 := fun w => xc (P := Tryz.prog) 148 w
  t51 := Tryz.underlying168
  a51 := fun w => y8 (P := Tryz.prog) (d := (TypeDesc.int IntKind.u32)) 168 w
  z51 := fun w => y7 (P := Tryz.prog) 168 w
  v51 := fun w => xc (P := Tryz.prog) 168 w
  t53 := Tryz.underlying201
  a53 := fun w => y8 (P := Tryz.prog) (d := (TypeDesc.int IntKind.u64)) 201 w
  z53 := fun w => y7 (P := Tryz.prog) 201 w
  v53 := fun w => xc (P := Tryz.prog) 201 w
  t75 := Tryz.underlying128
  a75 := fun w => y8 (P := Tryz.prog) (d := (TypeDesc.interface #[("Error", 64)])) 128 w
  z75 := fun w => y7 (P := Tryz.prog) 128 w
  v75 := fun w => xc (P := Tryz.prog) 128 w
  t76 := Tryz.underlying156
  a76 := fun w => y8 (P := Tryz.prog) (d := (TypeDesc.tuple #[3, 128])) 156 w
  z76 := fun w => y7 (P := Tryz.prog) 156 w
  v76 := fun w => xc (P := Tryz.prog) 156 w
  t85 := Tryz.underlying129
  a85 := fun w => y8 (P := Tryz.prog) (d := (TypeDesc.tuple #[2, 128])) 129 w
  z85 := fun w => y7 (P := Tryz.prog) 129 w
  v85 := fun w => xc (P := Tryz.prog) 129 w
  t127 := Tryz.underlying240
  a127 := fun w => y8 (P := Tryz.prog) (d := (TypeDesc.pointer 5)) 240 w
  z127 := fun w => y7 (P := Tryz.prog) 240 w
  v127 := fun w => xc (P := Tryz.prog) 240 w
  t143 := Tryz.underlying307
  a143 := fun w => y8 (P := Tryz.prog) (d := (TypeDesc.pointer 309)) 307 w
  z143 := fun w => y7 (P := Tryz.prog) 307 w
  v143 := fun w => xc (P := Tryz.prog) 307 w
  t145 := Tryz.underlying309
  a145 := fun w => y8 (P := Tryz.prog) (d := (TypeDesc.struct #[{ name := "s", type := 9, offset := 0, embedded := false, tag := "", pkgPath := "errors", byteOffset := 0 }])) 309 w
  z145 := fun w => y7 (P := Tryz.prog) 309 w
  v145 := fun w => xc (P := Tryz.prog) 309 w
  t167 := Tryz.underlying269
  a167 := fun w => y8 (P := Tryz.prog) (d := (TypeDesc.int IntKind.i64)) 269 w
  z167 := fun w => y7 (P := Tryz.prog) 269 w
  v167 := fun w => xc (P := Tryz.prog) 269 w
  t168 := Tryz.underlying270
  a168 := fun w => y8 (P := Tryz.prog) (d := (TypeDesc.pointer 296)) 270 w
  z168 := fun w => y7 (P := Tryz.prog) 270 w
  v168 := fun w => xc (P := Tryz.prog) 270 w
  t171 := Tryz.underlying227
  a171 := fun w => y8 (P := Tryz.prog) (d := (TypeDesc.array 24 5)) 227 w
  z171 := fun w => y7 (P := Tryz.prog) 227 w
  v171 := fun w => xc (P := Tryz.prog) 227 w
  t173 := Tryz.underlying230
  a173 := fun w => y8 (P := Tryz.prog) (d := (TypeDesc.tuple #[82, 9])) 230 w
  z173 := fun w => y7 (P := Tryz.prog) 230 w
  v173 := fun w => xc (P := Tryz.prog) 230 w
  t175 := Tryz.underlying234
  a175 := fun w => y8 (P := Tryz.prog) (d := (TypeDesc.tuple #[201, 128])) 234 w
  z175 := fun w => y7 (P := Tryz.prog) 234 w
  v175 := fun w => xc (P := Tryz.prog) 234 w
  t210 := Tryz.underlying296
  a210 := fun w => y8 (P := Tryz.prog) (d := (TypeDesc.struct #[{ name := "Func", type := 9, offset := 0, embedded := false, tag := "", pkgPath := "", byteOffset := 0 }, { name := "Num", type := 9, offset := 1, embedded := false, tag := "", pkgPath := "", byteOffset := 16 }, { name := "Err", type := 128, offset := 2, embedded := false, tag := "", pkgPath := "", byteOffset := 32 }])) 296 w
  z210 := fun w => y7 (P := Tryz.prog) 296 w
  v210 := fun w => xc (P := Tryz.prog) 296 w
  t212 := Tryz.underlying276
  a212 := fun w => y8 (P := Tryz.prog) (d := (TypeDesc.array 20 201)) 276 w
  z212 := fun w => y7 (P := Tryz.prog) 276 w
  v212 := fun w => xc (P := Tryz.prog) 276 w
  t213 := Tryz.underlying277
  a213 := fun w => y8 (P := Tryz.prog) (d := (TypeDesc.array 65 5)) 277 w
  z213 := fun w => y7 (P := Tryz.prog) 277 w
  t232 := Tryz.underlying175
  a232 := fun w => y8 (P := Tryz.prog) (d := (TypeDesc.array 32 5)) 175 w
  z232 := fun w => y7 (P := Tryz.prog) 175 w
  v232 := fun w => xc (P := Tryz.prog) 175 w
  t233 := Tryz.underlying311
  a233 := fun w => y8 (P := Tryz.prog) (d := (TypeDesc.array 64 5)) 311 w
  z233 := fun w => y7 (P := Tryz.prog) 311 w
  v233 := fun w => xc (P := Tryz.prog) 311 w
  g15 := by kernel_rfl
  g16 := by kernel_rfl
  g17 := by kernel_rfl
  g18 := by kernel_rfl
  g19 := by kernel_rfl
  t80 := Tryz.underlying64
  a80 := fun w => y8 (P := Tryz.prog) (d := (TypeDesc.func #[] #[9] false)) 64 w
  z80 := fun w => y7 (P := Tryz.prog) 64 w
  v80 := fun w => xc (P := Tryz.prog) 64 w
  i0 := by kernel_rfl
  i2 := by kernel_rfl
  i3 := by kernel_rfl
  i4 := by kernel_rfl
  i5 := by kernel_rfl
  i9 := by kernel_rfl
  i20 := by kernel_rfl
  i21 := by kernel_rfl
  i37 := by kernel_rfl
  i46 := by kernel_rfl
  i51 := by kernel_rfl
  i53 := by kernel_rfl
  i75 := by kernel_rfl
  i76 := by kernel_rfl
  i80 := by kernel_rfl
  i85 := by kernel_rfl
  i127 := by kernel_rfl
  i143 := by kernel_rfl
  i145 := by kernel_rfl
  i167 := by kernel_rfl
  i168 := by kernel_rfl
  i171 := by kernel_rfl
  i173 := by kernel_rfl
  i175 := by kernel_rfl
  i210 := by kernel_rfl
  i212 := by kernel_rfl
  i232 := by kernel_rfl
  i233 := by kernel_rfl
  m15 := by kernel_rfl
  m16 := by kernel_rfl
  m17 := by kernel_rfl
  m18 := by kernel_rfl
  m19 := by kernel_rfl
  c0 := by kernel_rfl
  c2 := by kernel_rfl
  c3 := by kernel_rfl
  c4 := by kernel_rfl
  c5 := by kernel_rfl
  c9 := by kernel_rfl
  c20 := by kernel_rfl
  c21 := by kernel_rfl
  c37 := by kernel_rfl
  c46 := by kernel_rfl
  c51 := by kernel_rfl
  c53 := by kernel_rfl
  c75 := by kernel_rfl
  c76 := by kernel_rfl
  c80 := by kernel_rfl
  c85 := by kernel_rfl
  c127 := by kernel_rfl
  c143 := by kernel_rfl
  c145 := by kernel_rfl
  c167 := by kernel_rfl
  c168 := by kernel_rfl
  c171 := by kernel_rfl
  c173 := by kernel_rfl
  c175 := by kernel_rfl
  c210 := by kernel_rfl
  c212 := by kernel_rfl
  c213 := by kernel_rfl
  c232 := by kernel_rfl
  c233 := by kernel_rfl
end Go.AL
namespace Go.AL
open Go Go.RowKit
def wx (a b : Int) : Int := IntKind.u32.wrap ((BitVec.ofInt 32 a ^^^ BitVec.ofInt 32 b).toNat : Int)
def wa (a b : Int) : Int := IntKind.u32.wrap ((BitVec.ofInt 32 a &&& BitVec.ofInt 32 b).toNat : Int)
def wo (a b : Int) : Int := IntKind.u32.wrap ((BitVec.ofInt 32 a ||| BitVec.ofInt 32 b).toNat : Int)
def wn (a : Int) : Int := IntKind.u32.wrap ((BitVec.ofInt 32 4294967295 ^^^ BitVec.ofInt 32 a).toNat : Int)
def wp (a b : Int) : Int := IntKind.u32.wrap (a + b)
def wr (a : Int) (n : Nat) : Int := a / 2 ^ n
def wl (a : Int) (n : Nat) : Int := IntKind.u32.wrap (a * 2 ^ n)
def rr (x : Int) (n : Nat) : Int := wo (wr x n) (wl x (32 - n))
structure H8 where
  a : Int
  b : Int
  c : Int
  d : Int
  e : Int
  f : Int
  g : Int
  h : Int
  deriving DecidableEq
def H8.l (v : H8) : List Int := [v.a, v.b, v.c, v.d, v.e, v.f, v.g, v.h]
def H8.t (v : H8) : List T := [.int .u32 v.a, .int .u32 v.b, .int .u32 v.c, .int .u32 v.d, .int .u32 v.e, .int .u32 v.f, .int .u32 v.g, .int .u32 v.h]
def rnd (k w : Int) (v : H8) : H8 :=
  let t1 := wp (wp (wp (wp v.h (wx (wx (rr v.e 6) (rr v.e 11)) (rr v.e 25))) (wx (wa v.e v.f) (wa (wn v.e) v.g))) k) w
  let t2 := wp (wx (wx (rr v.a 2) (rr v.a 13)) (rr v.a 22)) (wx (wx (wa v.a v.b) (wa v.a v.c)) (wa v.b v.c))
  ⟨wp t1 t2, v.a, v.b, v.c, wp v.d t1, v.e, v.f, v.g⟩
def zoD {α : Type} (f : Nat → α → α) : Nat → Nat → α → α
  | 0, _, a => a
  | c + 1, t, a => zoD f c (t + 1) (f t a)
def zoL : List Int := [
  0x428a2f98, 0x71374491, 0xb5c0fbcf, 0xe9b5dba5, 0x3956c25b, 0x59f111f1, 0x923f82a4, 0xab1c5ed5,
  0xd807aa98, 0x12835b01, 0x243185be, 0x550c7dc3, 0x72be5d74, 0x80deb1fe, 0x9bdc06a7, 0xc19bf174,
  0xe49b69c1, 0xefbe4786, 0x0fc19dc6, 0x240ca1cc, 0x2de92c6f, 0x4a7484aa, 0x5cb0a9dc, 0x76f988da,
  0x983e5152, 0xa831c66d, 0xb00327c8, 0xbf597fc7, 0xc6e00bf3, 0xd5a79147, 0x06ca6351, 0x14292967,
  0x27b70a85, 0x2e1b2138, 0x4d2c6dfc, 0x53380d13, 0x650a7354, 0x766a0abb, 0x81c2c92e, 0x92722c85,
  0xa2bfe8a1, 0xa81a664b, 0xc24b8b70, 0xc76c51a3, 0xd192e819, 0xd6990624, 0xf40e3585, 0x106aa070,
  0x19a4c116, 0x1e376c08, 0x2748774c, 0x34b0bcb5, 0x391c0cb3, 0x4ed8aa4a, 0x5b9cca4f, 0x682e6ff3,
  0x748f82ee, 0x78a5636f, 0x84c87814, 0x8cc70208, 0x90befffa, 0xa4506ceb, 0xbef9a3f7, 0xc67178f2]
def zoF (w : List Int) (v : H8) : H8 := zoD (fun t v => rnd (zoL.getD t 0) (w.getD t 0) v) 64 0 v
def w4 (x : Int) : List UInt8 := yr 4 x.toNat
def H8.out (v : H8) : List UInt8 := w4 v.a ++ w4 v.b ++ w4 v.c ++ w4 v.d ++ w4 v.e ++ w4 v.f ++ w4 v.g ++ w4 v.h
def H8.In (v : H8) : Prop := (0 ≤ v.a ∧ v.a < 4294967296) ∧ (0 ≤ v.b ∧ v.b < 4294967296) ∧ (0 ≤ v.c ∧ v.c < 4294967296) ∧ (0 ≤ v.d ∧ v.d < 4294967296) ∧ (0 ≤ v.e ∧ v.e < 4294967296) ∧ (0 ≤ v.f ∧ v.f < 4294967296) ∧ (0 ≤ v.g ∧ v.g < 4294967296) ∧ (0 ≤ v.h ∧ v.h < 4294967296)
end Go.AL
namespace Go.AL
open Go
section
open Go.RowKit
end
def zoQ (d : Nat) : UInt8 := if d < 10 then UInt8.ofNat (48 + d) else UInt8.ofNat (87 + d)
def zhs : Nat → Nat → List UInt8
  | 0, _ => []
  | k + 1, n => zoQ (n / 16 ^ k % 16) :: zhs k n
end Go.AL
namespace Go.AL
def znm (c : Nat) : Nat := c ||| 32
def hv (c : Nat) : Option Nat := if 48 ≤ c ∧ c ≤ 57 then some (c - 48) else if 97 ≤ znm c ∧ znm c ≤ 102 then some (znm c - 87) else none
def pgo (mx : Nat) : List UInt8 → Nat → Except Int Nat
  | [], n => .ok n
  | c :: l, n => match hv c.toNat with
    | none => .error 2
    | some d => if mx < 16 * n + d then .error 1 else pgo mx l (16 * n + d)
theorem znz (c : Nat) (h : c < 256) : znm c < 256 := Nat.or_lt_two_pow (n := 8) h (by omega)
theorem zm9 (s : ByteArray) : s.size = s.data.toList.length := by cases s; rfl
theorem zkb (mx : Nat) : ∀ (L : List UInt8) (n : Nat) (k : Int), pgo mx L n = .error k → k = 1 ∨ k = 2
  | [], n, k, h => by simp [pgo] at h
  | c :: L, n, k, h => by
    rw [pgo] at h
    split at h
    · cases h; exact .inr rfl
    · split at h
      · cases h; exact .inl rfl
      · exact zkb mx L _ k h
end Go.AL
namespace Go.AL
open Go
structure Vr where
  p : ByteArray
  mj : Int
  mn : Int
  fm : Int
  sz : Int
def Vr.toT (v : Vr) : T := .agg [.str v.p, .int .i64 v.mj, .int .i64 v.mn, .int .i64 v.fm, .int .i64 v.sz]
def Vr.zero : Vr := ⟨⟨#[]⟩, 0, 0, 0, 0⟩
def zoO (p : ByteArray) : Bool := decide (p.size = 4) && p.data.toList.all (fun b => decide (65 ≤ b.toNat ∧ b.toNat ≤ 90))
def Vr.valid (v : Vr) : Bool := decide (1 ≤ v.fm ∧ v.fm ≤ 3) && zoO v.p && decide (0 ≤ v.mj ∧ v.mj ≤ 15 ∧ 0 ≤ v.mn ∧ v.mn ≤ 15 ∧ 0 ≤ v.sz ∧ v.sz ≤ 16777215)
def zoA (k : Int) : List UInt8 := if k = 1 then [74, 83, 79, 78] else if k = 2 then [67, 66, 79, 82] else if k = 3 then [77, 71, 80, 75] else []
def Vr.txt (v : Vr) : List UInt8 := v.p.data.toList ++ zhs 1 v.mj.toNat ++ zhs 1 v.mn.toNat ++ zoA v.fm ++ zhs 6 v.sz.toNat ++ [95]
end Go.AL
namespace Go.AL
def Vr.text (v : Vr) : ByteArray := if v.valid then ofL v.txt else ⟨#[]⟩
end Go.AL
namespace Go.AL
open Go
end Go.AL
