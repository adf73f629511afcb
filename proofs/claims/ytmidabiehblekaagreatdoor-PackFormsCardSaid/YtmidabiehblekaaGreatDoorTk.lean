/- What functions of the program and of the document answer, and the plain laws behind it; each under the conditions that its own theorem names. -/
import Derived.Test.YtmidabiehblekaaGreatDoorTj
import Derived.Test.YtmidabiehblekaaGreatDoorAl3
import Derived.Test.YtmidabiehblekaaGreatDoorTf
import Derived.Test.YtmidabiehblekaaGreatDoorTh
import Derived.Test.YtmidabiehblekaaGreatDoorTi
import Derived.Test.YtmidabiehblekaaGreatDoorTc
import Derived.Test.YtmidabiehblekaaGreatDoorTe
import Derived.Test.YtmidabiehblekaaGreatDoorTg
set_option linter.unusedVariables false
namespace Go.AL
open Go Go.Proofs Go.RowKit
theorem zmg {c b : Int} (h0 : b ≤ c) (h1 : c ≤ b + 3) (hb : 0 ≤ b) (hb2 : b ≤ 250) : IntKind.i64.wrap (1 * 2 ^ min (IntKind.u64.wrap (IntKind.i64.wrap (c - b))).toNat IntKind.i64.bits) = ((2 ^ (c - b).toNat : Nat) : Int) := by
  rw [zr (n := c - b) (by omega) (by omega), ye (by omega) (by omega)]
  have : c - b = 0 ∨ c - b = 1 ∨ c - b = 2 ∨ c - b = 3 := by omega
  rcases this with h | h | h | h <;> rw [h] <;> decide
theorem znV (x : Int) : 0 ≤ IntKind.u64.wrap x := by
  simp only [IntKind.wrap, IntKind.bits, IntKind.signed, Bool.false_and, Bool.false_eq_true, if_false]; omega
theorem zm1 {i : Nat} (hi : i ≤ 3) {u : Int} (h0 : 0 ≤ u) (h1 : u < (256 : Int) ^ (2 ^ i)) :
    IntKind.i64.wrap (IntKind.u64.wrap (u * 2 ^ min (IntKind.u64.wrap (IntKind.i64.wrap (64 - IntKind.i64.wrap (8 * ((2 ^ i : Nat) : Int))))).toNat IntKind.u64.bits)) / 2 ^ min (IntKind.u64.wrap (IntKind.i64.wrap (64 - IntKind.i64.wrap (8 * ((2 ^ i : Nat) : Int))))).toNat IntKind.i64.bits = sx (2 ^ i) u := by
  unfold sx
  match i, hi with
  | 0, _ =>
    rw [show (IntKind.u64.wrap (IntKind.i64.wrap (64 - IntKind.i64.wrap (8 * ((2 ^ 0 : Nat) : Int))))).toNat = 56 by decide]
    simp only [IntKind.wrap, IntKind.bits, IntKind.signed, Bool.false_and, Bool.false_eq_true, if_false, Bool.true_and, decide_eq_true_eq]
    simp at h1 ⊢
    repeat' split
    all_goals omega
  | 1, _ =>
    rw [show (IntKind.u64.wrap (IntKind.i64.wrap (64 - IntKind.i64.wrap (8 * ((2 ^ 1 : Nat) : Int))))).toNat = 48 by decide]
    simp only [IntKind.wrap, IntKind.bits, IntKind.signed, Bool.false_and, Bool.false_eq_true, if_false, Bool.true_and, decide_eq_true_eq]
    simp at h1 ⊢
    repeat' split
    all_goals omega
  | 2, _ =>
    rw [show (IntKind.u64.wrap (IntKind.i64.wrap (64 - IntKind.i64.wrap (8 * ((2 ^ 2 : Nat) : Int))))).toNat = 32 by decide]
    simp only [IntKind.wrap, IntKind.bits, IntKind.signed, Bool.false_and, Bool.false_eq_true, if_false, Bool.true_and, decide_eq_true_eq]
    simp at h1 ⊢
    repeat' split
    all_goals omega
  | 3, _ =>
    rw [show (IntKind.u64.wrap (IntKind.i64.wrap (64 - IntKind.i64.wrap (8 * ((2 ^ 3 : Nat) : Int))))).toNat = 0 by decide]
    simp only [IntKind.wrap, IntKind.bits, IntKind.signed, Bool.false_and, Bool.false_eq_true, if_false, Bool.true_and, decide_eq_true_eq]
    simp at h1 ⊢
    repeat' split
    all_goals omega
set_option maxHeartbeats 32000000 in
theorem zfS (s : ByteArray) (hs : s.size ≤ 1000000000) : ∀ (u d p : Nat), d ≤ 1000 → p ≤ s.size → s.size - p < u → Spec Tryz.prog 111 [.t (.str s), .t (.int .i64 (p : Int)), .t (.int .i64 (d : Int))] [] (.tup [.t (vu s u d p).1.toT, .t (.int .i64 (vu s u d p).2)]) []
  | 0, d, p, hd, hp, hu => by omega
  | u + 1, d, p, hd, hp, hu => by
    have IH := fun (d' q : Nat) (h1 : d' ≤ 1000) (h2 : p < q) (h3 : q ≤ s.size) => zfS s hs u d' q h1 h3 (by omega)
    rw [vu]
    by_cases h0 : d < 1 ∨ s.size ≤ p
    · rw [if_pos h0]
      simp only
      rw [zJ]
      refine wI Tryz.func111 ?_
      repeat' (first | refine wC ?_ | (exfalso; omega) | refine wK ?_ | refine zd rfl ?_ ?_ <;> intro hc | refine zj rfl ?_ ?_ <;> intro hc)
      all_goals exact wE
    · rw [if_neg h0]
      have hb := xj s p
      obtain ⟨c, hc0⟩ : ∃ c, c = bAt s (p : Int) := ⟨_, rfl⟩
      have hC : IntKind.i64.wrap (bAt s (p : Int)) = c := by rw [hc0]; exact zr (by omega) (by omega)
      have wp1 : IntKind.i64.wrap ((p : Int) + 1) = (p : Int) + 1 := zr (by omega) (by omega)
      have hL := zjg s hs p (by omega)
      have hLg := zfi (s := s) (p := p) (by omega)
      rw [← hc0] at hb ⊢
      simp only
      by_cases c1 : c = 192
      · rw [if_pos c1]
        simp only
        rw [zJ]
        refine wI Tryz.func111 ?_
        repeat' (first | refine wC ?_ | (exfalso; omega) | refine wK ?_ | ((with_reducible refine zy ?_); refine zf rfl rfl rfl rfl rfl rfl ?_ ?_ ?_) | refine zd rfl ?_ ?_ <;> intro hc | refine zj rfl ?_ ?_ <;> intro hc)
        all_goals try omega
        refine zp ?_ (zc trivial); refine zF rfl rfl rfl inferInstance rfl inferInstance rfl ?_ ?_; exact TLe.av wT; exact AVLE.of_eq (congrArg (fun n => AV.t (T.int .i64 n)) wp1)
      rw [if_neg c1]
      by_cases c2 : c = 194 ∨ c = 195
      · rw [if_pos c2]
        simp only
        rw [Nd.toT_eq, ← hC]
        refine wI Tryz.func111 ?_
        repeat' (first | refine wC ?_ | (exfalso; omega) | refine wK ?_ | ((with_reducible refine zy ?_); refine zf rfl rfl rfl rfl rfl rfl ?_ ?_ ?_) | refine zd rfl ?_ ?_ <;> intro hc | refine zj rfl ?_ ?_ <;> intro hc)
        all_goals try omega
        all_goals (refine zp ?_ (zc trivial); refine zF rfl rfl rfl inferInstance rfl inferInstance rfl ?_ ?_; exact TLe.av wT; exact AVLE.of_eq (congrArg (fun n => AV.t (T.int .i64 n)) wp1))
      rw [if_neg c2]
      by_cases c3 : c < 128
      · rw [if_pos c3]
        have hN := y6 (IntKind.i64.wrap (bAt s (p : Int)))
        unfold wV
        simp only
        rw [Nd.toT_eq, ← hC]
        refine wI Tryz.func111 ?_
        repeat' (first | refine wC ?_ | (exfalso; omega) | refine wK ?_ | ((with_reducible refine zy ?_); refine zf rfl rfl rfl rfl rfl rfl ?_ ?_ ?_) | ((with_reducible refine ze ?_); refine wL hN ?_) | refine zd rfl ?_ ?_ <;> intro hc | refine zj rfl ?_ ?_ <;> intro hc)
        all_goals try omega
        all_goals (refine zp ?_ (zc trivial); refine zF rfl rfl rfl inferInstance rfl inferInstance rfl ?_ ?_; exact TLe.av wT; exact AVLE.of_eq (congrArg (fun n => AV.t (T.int .i64 n)) wp1))
      rw [if_neg c3]
      by_cases c4 : 224 ≤ c
      · rw [if_pos c4]
        have hN := y6 (IntKind.i64.wrap (IntKind.i64.wrap (bAt s (p : Int)) - 256))
        have w4 : c - 256 = IntKind.i64.wrap (IntKind.i64.wrap (bAt s (p : Int)) - 256) := by rw [hC]; exact (zr (by omega) (by omega)).symm
        unfold wV
        simp only
        rw [Nd.toT_eq, w4]
        refine wI Tryz.func111 ?_
        repeat' (first | refine wC ?_ | (exfalso; omega) | refine wK ?_ | ((with_reducible refine zy ?_); refine zf rfl rfl rfl rfl rfl rfl ?_ ?_ ?_) | ((with_reducible refine ze ?_); refine wL hN ?_) | refine zd rfl ?_ ?_ <;> intro hc | refine zj rfl ?_ ?_ <;> intro hc)
        all_goals try omega
        all_goals (refine zp ?_ (zc trivial); refine zF rfl rfl rfl inferInstance rfl inferInstance rfl ?_ ?_; exact TLe.av wT; exact AVLE.of_eq (congrArg (fun n => AV.t (T.int .i64 n)) wp1))
      rw [if_neg c4]
      by_cases c5 : 204 ≤ c ∧ c ≤ 207
      · rw [if_pos c5]
        have hsh := zmg (c := c) (b := 204) c5.1 (by omega) (by omega) (by omega)
        obtain ⟨i, hi, hi3⟩ : ∃ i : Nat, (c - 204).toNat = i ∧ i ≤ 3 := ⟨_, rfl, by omega⟩
        rw [hi] at hsh ⊢
        have hk8 : 2 ^ i ≤ 8 := by
          match i, hi3 with
          | 0, _ | 1, _ | 2, _ | 3, _ => decide
        have hF := kW s hs (p + 1) (by omega) (2 ^ i) hk8
        have hg := xx (s := s) (p := p + 1) hi3
        rw [← hsh, ← hC, show (((p + 1 : Nat)) : Int) = (p : Int) + 1 by omega, ← wp1] at hF
        have hsh0 : 0 ≤ IntKind.u64.wrap (IntKind.i64.wrap (IntKind.i64.wrap (bAt s (p : Int)) - 204)) := by rw [hC, zr (n := c - 204) (by omega) (by omega), ye (by omega) (by omega)]; omega
        generalize yC s (p + 1) (2 ^ i) = y at hF hg ⊢
        obtain ⟨y1, y2⟩ := y
        simp only at hF hg ⊢
        have hN := y6 (IntKind.i64.wrap y1)
        clear hsh hL hLg
        by_cases hbig : 9223372036854775807 < y1
        · rw [if_pos hbig]
          simp only
          rw [zJ]
          refine wI Tryz.func111 ?_
          repeat' (first | refine wC ?_ | (exfalso; omega) | refine wK ?_ | ((with_reducible refine zM ?_); refine xi rfl rfl rfl rfl rfl rfl ?_ ?_) | ((with_reducible refine zy ?_); refine zf rfl rfl rfl rfl rfl rfl ?_ ?_ ?_) | ((with_reducible refine ze ?_); refine wL hF ?_) | refine zd rfl ?_ ?_ <;> intro hc | refine zj rfl ?_ ?_ <;> intro hc)
          all_goals try omega
          all_goals try (exact hsh0)
          all_goals exact wE
        · rw [if_neg hbig]
          have wy : y1 = IntKind.i64.wrap y1 := (zr (by omega) (by omega)).symm
          unfold wV
          simp only
          rw [Nd.toT_eq, wy]
          refine wI Tryz.func111 ?_
          repeat' (first | refine wC ?_ | (exfalso; omega) | refine wK ?_ | ((with_reducible refine zM ?_); refine xi rfl rfl rfl rfl rfl rfl ?_ ?_) | ((with_reducible refine zy ?_); refine zf rfl rfl rfl rfl rfl rfl ?_ ?_ ?_) | ((with_reducible refine ze ?_); first | refine wL hF ?_ | refine wL hN ?_) | refine zd rfl ?_ ?_ <;> intro hc | refine zj rfl ?_ ?_ <;> intro hc)
          all_goals try omega
          all_goals try (exact hsh0)
          all_goals exact wE
      rw [if_neg c5]
      by_cases c6 : 208 ≤ c ∧ c ≤ 211
      · rw [if_pos c6]
        have hsh := zmg (c := c) (b := 208) c6.1 (by omega) (by omega) (by omega)
        obtain ⟨i, hi, hi3⟩ : ∃ i : Nat, (c - 208).toNat = i ∧ i ≤ 3 := ⟨_, rfl, by omega⟩
        rw [hi] at hsh ⊢
        have hk8 : 2 ^ i ≤ 8 := by
          match i, hi3 with
          | 0, _ | 1, _ | 2, _ | 3, _ => decide
        have hF := kW s hs (p + 1) (by omega) (2 ^ i) hk8
        have hg := xx (s := s) (p := p + 1) hi3
        have hRaw := zm1 hi3 hg.1 hg.2.1
        rw [← hC] at hsh
        rw [← hsh, show (((p + 1 : Nat)) : Int) = (p : Int) + 1 by omega, ← wp1] at hF
        rw [← hsh] at hRaw
        generalize yC s (p + 1) (2 ^ i) = y at hF hg hRaw ⊢
        obtain ⟨y1, y2⟩ := y
        simp only at hF hg hRaw ⊢
        clear hsh hL hLg
        rw [← hRaw]
        unfold wV
        try simp only
        rw [Nd.toT_eq]
        refine wI Tryz.func111 ?_
        repeat' (first | refine wC ?_ | (exfalso; omega) | refine wK ?_ | ((with_reducible refine zM ?_); first | refine xi rfl rfl rfl rfl rfl rfl ?_ ?_ | refine je rfl rfl rfl rfl rfl rfl ?_ ?_) | ((with_reducible refine zy ?_); refine zf rfl rfl rfl rfl rfl rfl ?_ ?_ ?_) | ((with_reducible refine ze ?_); first | refine wL hF ?_ | refine wL (y6 _) ?_) | refine zd rfl ?_ ?_ <;> intro hc | refine zj rfl ?_ ?_ <;> intro hc)
        all_goals try (exact znV _)
        all_goals try omega
        all_goals exact wE
      rw [if_neg c6]
      have hq0 := hLg
      generalize vF s p = z at hL hLg hq0 ⊢
      obtain ⟨⟨k, n⟩, q⟩ := z
      simp only at hL hLg hq0 ⊢
      by_cases hq : q < 0
      · rw [if_pos (.inl hq)]
        try simp only
        rw [zJ]
        refine wI Tryz.func111 ?_
        repeat' (first | refine wC ?_ | (exfalso; omega) | refine wK ?_ | ((with_reducible refine zy ?_); refine zf rfl rfl rfl rfl rfl rfl ?_ ?_ ?_) | ((with_reducible refine ze ?_); refine wL hL ?_) | refine zd rfl ?_ ?_ <;> intro hc | refine zj rfl ?_ ?_ <;> intro hc)
        all_goals try omega
        all_goals exact wE
      obtain ⟨q1, q2, q3, q4, q5, _⟩ := hLg (by omega)
      clear hLg hq0
      have ws : IntKind.i64.wrap ((s.size : Int) - q) = (s.size : Int) - q := zr (by omega) (by omega)
      by_cases hbad : (k = 3 ∧ (s.size : Int) - q < n) ∨ (k ≠ 3 ∧ 256 < n)
      · rw [if_pos (.inr hbad)]
        try simp only
        rw [zJ]
        refine wI Tryz.func111 ?_
        repeat' (first | refine wC ?_ | (exfalso; omega) | refine wK ?_ | ((with_reducible refine zy ?_); refine zf rfl rfl rfl rfl rfl rfl ?_ ?_ ?_) | ((with_reducible refine ze ?_); refine wL hL ?_) | refine zd rfl ?_ ?_ <;> intro hc | refine zj rfl ?_ ?_ <;> intro hc | refine zN rfl ?_ ?_ <;> intro hc)
        all_goals try omega
        all_goals exact wE
      rw [if_neg (fun h => h.elim hq hbad)]
      have wq : IntKind.i64.wrap (q + n) = q + n := zr (by omega) (by omega)
      by_cases hk3 : k = 3
      · rw [if_pos hk3]
        have hT := k5 (s.extract q.toNat (IntKind.i64.wrap (q + n)).toNat)
        rw [← wq]
        try simp only
        rw [Nd.toT_eq]
        refine wI Tryz.func111 ?_
        repeat' (first | refine wC ?_ | (exfalso; omega) | refine wK ?_ | ((with_reducible refine zy ?_); refine zf rfl rfl rfl rfl rfl rfl ?_ ?_ ?_) | ((with_reducible refine vB ?_); refine yx rfl rfl ⟨_, rfl⟩ ⟨_, rfl⟩ rfl rfl rfl ?_ ?_ ?_ ?_) | ((with_reducible refine ze ?_); first | refine wL hL ?_ | refine wL hT ?_) | refine zd rfl ?_ ?_ <;> intro hc | refine zj rfl ?_ ?_ <;> intro hc | refine zN rfl ?_ ?_ <;> intro hc)
        all_goals try omega
        all_goals exact wE
      · rw [if_neg hk3]
        have hI := zgu s hs (d : Int) (by omega) (by omega) (vu s u 1) (vu s u (d - 1)) (vJ s u 1) (vJ s u (d - 1)) p (fun q h1 h2 => IH 1 q (by omega) h1 h2) (fun q h1 h2 => by
          have := IH (d - 1) q (by omega) h1 h2
          rwa [show ((d - 1 : Nat) : Int) = (d : Int) - 1 by omega] at this) k (by omega) n.toNat (by omega) q.toNat (by omega) (by omega) _ rfl
        rw [show ((n.toNat : Nat) : Int) = n by omega, show ((q.toNat : Nat) : Int) = q by omega] at hI
        generalize yY (vu s u 1) (vu s u (d - 1)) k n.toNat [] [] q.toNat = R at hI ⊢
        obtain ⟨x, e⟩ := R
        simp only at hI ⊢
        have hTx := x.toT_full
        rw [hTx] at hI ⊢
        clear IH
        refine wI Tryz.func111 ?_
        repeat' (first | refine wC ?_ | (exfalso; omega) | refine wK ?_ | ((with_reducible refine zy ?_); refine zf rfl rfl rfl rfl rfl rfl ?_ ?_ ?_) | ((with_reducible refine ze ?_); first | refine wL hL ?_ | refine wL hI ?_) | refine zd rfl ?_ ?_ <;> intro hc | refine zj rfl ?_ ?_ <;> intro hc | refine zN rfl ?_ ?_ <;> intro hc)
        all_goals try omega
        all_goals exact wE
set_option maxHeartbeats 8000000 in
theorem zjh {oF oA : Obj} {V : ByteArray → Bool} (hS : xH oF oA V) (s : ByteArray) (hs : s.size ≤ 1000000) : Spec Tryz.prog 57 [.t (.str s)] [(.par 100, .dat (.fix 0 oF)), (.par 101, .dat (.fix 1 oA))] (.tup [.t (kH pkC V s).1.toT, .t (.int .i64 (kH pkC V s).2)]) [(.par 100, .dat (.fix 0 oF)), (.par 101, .dat (.fix 1 oA))] := by
  rw [← znn]
  unfold zow
  by_cases h0 : 65536 < s.size
  · rw [if_pos h0]
    have h0' : (65536 : Int) < (s.size : Int) := by omega
    simp only
    rw [zJ]
    refine wI Tryz.func57 ?_
    repeat' (first | refine wC ?_ | refine wK ?_ | ((with_reducible refine ze ?_); exact absurd h0' ‹_›) | refine zd rfl ?_ ?_ <;> intro hc)
    exact wE
  · rw [if_neg h0]
    have hW := zfS s (by omega) (s.size + 1) 8 0 (by omega) (by omega) (by omega)
    have hgd := vJ s (s.size + 1) 8 0
    obtain ⟨ox, glo, gg⟩ := hgd
    try simp only at ox glo gg
    have hT := (vu s (s.size + 1) 8 0).1.toT_full
    have hVa := x7 hS _ ox
    have hWr := fun (h : (vu s (s.size + 1) 8 0).2 ≠ -1) (hv : (vu s (s.size + 1) 8 0).1.validB V 8 = true) => k8 (vu s (s.size + 1) 8 0).1 8 hv (gg h).2.2.2 (by have := gg h; omega)
    generalize vu s (s.size + 1) 8 0 = y at *
    obtain ⟨x, q⟩ := y
    simp only at hW hT hVa hWr glo ⊢
    rw [hT] at hW hVa
    have hq : ((s.size : Int) = q) = (q = (s.size : Int)) := propext ⟨Eq.symm, Eq.symm⟩
    by_cases hc1 : q = s.size
    · subst hc1
      have hWr := hWr (by omega)
      cases hv : x.validB V 8 with
      | false =>
        rw [hv] at hVa
        rw [if_neg (by simp)]
        simp only
        rw [zJ]
        refine wI Tryz.func57 ?_
        repeat' (first | refine wC ?_ | refine wK ?_ | ((with_reducible refine ze ?_); first | refine wL hW ?_ | refine wN (.t (.bool false)) [] hVa ?_) | refine zd rfl ?_ ?_ <;> intro hc | refine zN rfl ?_ ?_ <;> intro hc)
        all_goals try (exact absurd hc hw)
        all_goals try (exfalso; omega)
        all_goals exact wE
      | true =>
        rw [hv] at hVa
        have hWr := hWr hv
        rw [hT] at hWr
        generalize ofL x.pb = w at hWr ⊢
        by_cases hw : w = s
        · rw [if_pos ⟨rfl, rfl, hw⟩]
          rw [hw] at hWr
          clear hw
          simp only
          rw [hT]
          refine wI Tryz.func57 ?_
          repeat' (first | refine wC ?_ | refine wK ?_ | ((with_reducible refine ze ?_); first | refine wL hW ?_ | refine wN (.t (.bool true)) [] hVa ?_ | refine wL hWr ?_) | refine zd rfl ?_ ?_ <;> intro hc | refine zS rfl ?_ ?_ <;> intro hc | refine zN rfl ?_ ?_ <;> intro hc)
          all_goals try (exact absurd h0 (by omega))
          · exact wE
          all_goals exact absurd rfl hc
        · rw [if_neg (fun h => hw h.2.2)]
          simp only
          rw [zJ]
          refine wI Tryz.func57 ?_
          repeat' (first | refine wC ?_ | refine wK ?_ | ((with_reducible refine ze ?_); first | refine wL hW ?_ | refine wN (.t (.bool true)) [] hVa ?_ | refine wL hWr ?_) | refine zd rfl ?_ ?_ <;> intro hc | refine zS rfl ?_ ?_ <;> intro hc | refine zN rfl ?_ ?_ <;> intro hc)
          all_goals try (exact absurd hc hw)
          all_goals try (exfalso; omega)
          all_goals exact wE
    · rw [if_neg (fun h => hc1 h.1)]
      simp only
      rw [zJ]
      refine wI Tryz.func57 ?_
      repeat' (first | refine wC ?_ | refine wK ?_ | ((with_reducible refine ze ?_); first | refine wL hW ?_ | exact absurd ‹_› hc1) | refine zd rfl ?_ ?_ <;> intro hc | refine zN rfl ?_ ?_ <;> intro hc)
      all_goals try (exact absurd hc hw)
      all_goals try (exfalso; omega)
      all_goals exact wE
theorem znT (n : Nat) (h : n < 2) : bAt ⟨#[48, 49]⟩ (n : Int) = ((qJ n).toNat : Int) := by
  have : n = 0 ∨ n = 1 := by omega
  rcases this with rfl | rfl <;> decide
theorem zni (c : UInt8) (h : c = 8 ∨ c = 9 ∨ c = 10 ∨ c = 12 ∨ c = 13) : zii c = some (UInt8.ofNat (bAt ⟨#[98, 116, 110, 63, 102, 114]⟩ (IntKind.u8.wrap ((c.toNat : Int) - 8))).toNat) ∧ 0 ≤ bAt ⟨#[98, 116, 110, 63, 102, 114]⟩ (IntKind.u8.wrap ((c.toNat : Int) - 8)) ∧ bAt ⟨#[98, 116, 110, 63, 102, 114]⟩ (IntKind.u8.wrap ((c.toNat : Int) - 8)) < 256 ∧ 0 ≤ IntKind.u8.wrap ((c.toNat : Int) - 8) ∧ IntKind.u8.wrap ((c.toNat : Int) - 8) < 6 := by
  rcases h with rfl | rfl | rfl | rfl | rfl <;> decide
theorem zjI (c : UInt8) (h1 : ¬ (c = 34 ∨ c = 92)) (h2 : ¬ (c = 8 ∨ c = 9 ∨ c = 10 ∨ c = 12 ∨ c = 13)) : zii c = none := by
  simp only [not_or] at h1 h2
  have b : ∀ a : UInt8, ¬ c = a → (c == a) = false := fun a h => by simpa using h
  simp only [zii, zmo, List.lookup, b _ h1.1, b _ h1.2, b _ h2.1, b _ h2.2.1, b _ h2.2.2.1, b _ h2.2.2.2.1, b _ h2.2.2.2.2]
set_option maxHeartbeats 16000000 in
theorem zcz (s : ByteArray) (hb : 6 * s.size + 2 ≤ 100000000) : Spec Tryz.prog 172 [.t (.str s)] [] (.t (.str (ofL (jQ s)))) [] := by
  have hl : s.data.toList.length = s.size := by rw [Array.length_toList]; rfl
  refine wI Tryz.func172 ?_
  repeat' (first | refine wC ?_ | refine wK ?_ | fail)
  refine zl ((za [0, 3, 8, 9] [.loc 6] rfl rfl).trans (zg (.loc 6) (.loc 900) rfl rfl rfl rfl)) ?_
  refine zz (fun p env st => ∃ (i : Nat), i ≤ s.size ∧ p = s.size - i ∧
      env = EnvL.get [(0, .t (.str s)), (3, .row (.loc 900)), (8, .t (.int .i64 (s.size : Int))), (9, .t (.int .i64 (i : Int)))] ∧
      st = StO.get [(.loc 900, some (.slt 5 1 (u8L (34 :: yB (s.data.toList.take i)))))])
    ?_ (n := s.size) ⟨0, by omega, rfl, rfl, rfl⟩
  rintro p env st ⟨i, hi, rfl, rfl, rfl⟩
  have wi : IntKind.i64.wrap ((i : Int) + 1) = ((i + 1 : Nat) : Int) := by rw [zr (by omega) (by omega)]; omega
  have hq := jV (s.data.toList.take i)
  have hql : (s.data.toList.take i).length ≤ i := by rw [List.length_take]; omega
  have hxl : (u8L (34 :: yB (s.data.toList.take i))).length ≤ 99999999 := by
    simp only [zZ, List.length_cons]; omega
  by_cases hlt : i < s.size
  · have hbt : bAt s (i : Int) = ((s.data.toList.getD i default).toNat : Int) := rfl
    have ht := zdw s.data.toList i (by omega)
    have hc8 := (s.data.toList.getD i default).toNat_lt
    obtain ⟨X, hX⟩ : ∃ X, X = u8L (34 :: yB (s.data.toList.take i)) := ⟨_, rfl⟩
    have hnext : u8L (34 :: yB (s.data.toList.take (i + 1))) = X ++ u8L (zez (s.data.toList.getD i default)) := by
      rw [hX, ht, ← zP]; rfl
    rw [← hX] at hxl ⊢
    generalize hcc : s.data.toList.getD i default = c at *
    unfold zez at hnext
    clear hX ht
    have num : ∀ a : UInt8, c = a ↔ bAt s (i : Int) = (a.toNat : Int) := fun a => by
      rw [hbt]
      exact ⟨fun h => by rw [h], fun h => UInt8.toNat_inj.1 (by omega)⟩
    by_cases h1 : c = 34 ∨ c = 92
    · have hO : zii c = some c := by rcases h1 with rfl | rfl <;> decide
      rw [hO] at hnext
      simp only at hnext
      have h1n : bAt s (i : Int) = 34 ∨ bAt s (i : Int) = 92 := by
        rcases h1 with h | h
        · exact .inl ((num 34).1 h)
        · exact .inr ((num 92).1 h)
      repeat' (first | refine wC ?_ | (exfalso; omega) | refine wK ?_ | ((with_reducible refine zy ?_); refine zf rfl rfl rfl rfl rfl rfl ?_ ?_ ?_) | ((with_reducible refine zw ?_); refine zh rfl rfl rfl rfl rfl rfl rfl rfl rfl rfl ?_ ?_ ?_) | refine zd rfl ?_ ?_ <;> intro hc | refine zj rfl ?_ ?_ <;> intro hc)
      all_goals try (simp only [List.length_cons, List.length_nil]; omega)
      all_goals try omega
      all_goals exact zI (n' := s.size - (i + 1)) (by omega) ((za [0, 3, 8, 9] [.loc 29] rfl rfl).trans (zg (.loc 29) (.loc 900) rfl rfl rfl rfl)) ⟨i + 1, by omega, rfl, by rw [wi]; rfl, by rw [hnext, hbt]; rfl⟩
    · have h1n : ¬ bAt s (i : Int) = 34 ∧ ¬ bAt s (i : Int) = 92 := ⟨fun h => h1 (.inl ((num 34).2 h)), fun h => h1 (.inr ((num 92).2 h))⟩
      obtain ⟨n1, n2⟩ := h1n
      by_cases h2 : c = 8 ∨ c = 9 ∨ c = 10 ∨ c = 12 ∨ c = 13
      · obtain ⟨hO, l0, l1, l2, l3⟩ := zni c h2
        rw [hO] at hnext
        simp only at hnext
        rw [← hbt] at hnext l0 l1 l2 l3
        have h2n : bAt s (i : Int) = 8 ∨ bAt s (i : Int) = 9 ∨ bAt s (i : Int) = 10 ∨ bAt s (i : Int) = 12 ∨ bAt s (i : Int) = 13 := by
          rcases h2 with h | h | h | h | h
          · exact .inl ((num 8).1 h)
          · exact .inr (.inl ((num 9).1 h))
          · exact .inr (.inr (.inl ((num 10).1 h)))
          · exact .inr (.inr (.inr (.inl ((num 12).1 h))))
          · exact .inr (.inr (.inr (.inr ((num 13).1 h))))
        have hlet : u8T (UInt8.ofNat (bAt ⟨#[98, 116, 110, 63, 102, 114]⟩ (IntKind.u8.wrap (bAt s (i : Int) - 8))).toNat) = T.int .u8 (bAt ⟨#[98, 116, 110, 63, 102, 114]⟩ (IntKind.u8.wrap (bAt s (i : Int) - 8))) := by
          unfold u8T
          rw [UInt8.toNat_ofNat_of_lt' (by simp only [UInt8.size]; omega)]
          congr 1
        have hn2 : u8L [92, UInt8.ofNat (bAt ⟨#[98, 116, 110, 63, 102, 114]⟩ (IntKind.u8.wrap (bAt s (i : Int) - 8))).toNat] = [T.int .u8 92, T.int .u8 (bAt ⟨#[98, 116, 110, 63, 102, 114]⟩ (IntKind.u8.wrap (bAt s (i : Int) - 8)))] := by
          show [u8T 92, _] = _
          rw [hlet]; rfl
        rw [hn2] at hnext
        clear hlet hn2 hO
        generalize hB : bAt ⟨#[98, 116, 110, 63, 102, 114]⟩ (IntKind.u8.wrap (bAt s (i : Int) - 8)) = B at *
        repeat' (first | refine wC ?_ | (exfalso; omega) | refine wK ?_ | ((with_reducible refine zy ?_); refine zf rfl rfl rfl rfl rfl rfl ?_ ?_ ?_) | ((with_reducible refine zw ?_); refine zh rfl rfl rfl rfl rfl rfl rfl rfl rfl rfl ?_ ?_ ?_) | refine zd rfl ?_ ?_ <;> intro hc | refine zj rfl ?_ ?_ <;> intro hc)
        all_goals try (simp only [List.length_cons, List.length_nil]; omega)
        all_goals try omega
        all_goals try (show _ < (6 : Int); omega)
        all_goals exact zI (n' := s.size - (i + 1)) (by omega) ((za [0, 3, 8, 9] [.loc 54] rfl rfl).trans (zg (.loc 54) (.loc 900) rfl rfl rfl rfl)) ⟨i + 1, by omega, rfl, by rw [wi]; rfl, by rw [hnext, ← hB]; rfl⟩
      · have hO := zjI c h1 h2
        rw [hO] at hnext
        simp only at hnext
        have m1 : ¬ bAt s (i : Int) = 8 := fun h => h2 (.inl ((num 8).2 h))
        have m2 : ¬ bAt s (i : Int) = 9 := fun h => h2 (.inr (.inl ((num 9).2 h)))
        have m3 : ¬ bAt s (i : Int) = 10 := fun h => h2 (.inr (.inr (.inl ((num 10).2 h))))
        have m4 : ¬ bAt s (i : Int) = 12 := fun h => h2 (.inr (.inr (.inr (.inl ((num 12).2 h)))))
        have m5 : ¬ bAt s (i : Int) = 13 := fun h => h2 (.inr (.inr (.inr (.inr ((num 13).2 h)))))
        by_cases h32 : c.toNat < 32
        · rw [if_pos h32] at hnext
          have h4 : IntKind.u8.wrap ((bAt s (i : Int)).tdiv 16) = ((c.toNat / 16 : Nat) : Int) := by
            rw [hbt, Int.tdiv_eq_ediv_of_nonneg (by omega)]
            show ((c.toNat : Int) / 16) % 256 = _
            omega
          have h15 : (bAt s (i : Int)).tmod 16 = ((c.toNat % 16 : Nat) : Int) := by
            rw [hbt, Int.tmod_eq_emod_of_nonneg (by omega)]
            omega
          have e1 := znT (c.toNat / 16) (by omega)
          have e2 := zjY (c.toNat % 16) (by omega)
          repeat' (first | refine wC ?_ | (exfalso; omega) | refine wK ?_ | ((with_reducible refine zy ?_); refine zf rfl rfl rfl rfl rfl rfl ?_ ?_ ?_) | ((with_reducible refine zw ?_); refine zh rfl rfl rfl rfl rfl rfl rfl rfl rfl rfl ?_ ?_ ?_) | refine zd rfl ?_ ?_ <;> intro hc | refine zj rfl ?_ ?_ <;> intro hc)
          all_goals try (simp only [List.length_cons, List.length_nil]; omega)
          all_goals try (rw [h4]; omega)
          all_goals try (rw [h4]; show _ < (2 : Int); omega)
          all_goals try (rw [h15]; omega)
          all_goals try (rw [h15]; show _ < (16 : Int); omega)
          all_goals try omega
          exact zI (n' := s.size - (i + 1)) (by omega) ((za [0, 3, 8, 9] [.loc 66] rfl rfl).trans (zg (.loc 66) (.loc 900) rfl rfl rfl rfl)) ⟨i + 1, by omega, rfl, by rw [wi]; rfl, by rw [hnext, h4, h15, e1, e2]; rfl⟩
        · rw [if_neg h32] at hnext
          repeat' (first | refine wC ?_ | (exfalso; omega) | refine wK ?_ | ((with_reducible refine zy ?_); refine zf rfl rfl rfl rfl rfl rfl ?_ ?_ ?_) | ((with_reducible refine zw ?_); refine zh rfl rfl rfl rfl rfl rfl rfl rfl rfl rfl ?_ ?_ ?_) | refine zd rfl ?_ ?_ <;> intro hc | refine zj rfl ?_ ?_ <;> intro hc)
          all_goals try (simp only [List.length_cons, List.length_nil]; omega)
          all_goals try omega
          exact zI (n' := s.size - (i + 1)) (by omega) ((za [0, 3, 8, 9] [.loc 18] rfl rfl).trans (zg (.loc 18) (.loc 900) rfl rfl rfl rfl)) ⟨i + 1, by omega, rfl, by rw [wi]; rfl, by rw [hnext, hbt]; rfl⟩
  · obtain rfl : i = s.size := by omega
    have e : u8L (34 :: yB (s.data.toList.take s.size)) ++ [T.int .u8 34] = u8L (jQ s) := by
      rw [← hl, List.take_length]
      show u8L _ ++ u8L [34] = _
      rw [← zP]; rfl
    have e2 : zbi (u8L (34 :: yB (s.data.toList.take s.size)) ++ [T.int .u8 34]) = ofL (jQ s) := by rw [e, xU]
    repeat' (first | refine wC ?_ | (exfalso; omega) | refine wK ?_ | ((with_reducible refine yJ ?_); refine z6 rfl rfl rfl rfl rfl rfl ?_ ?_) | ((with_reducible refine zw ?_); refine zh rfl rfl rfl rfl rfl rfl rfl rfl rfl rfl ?_ ?_ ?_) | refine zd rfl ?_ ?_ <;> intro hc)
    all_goals try (simp only [List.length_singleton]; omega)
    · rw [e]; exact vt _
    · exact zp (zo rfl rfl (congrArg T.str e2)) (by simp)
set_option maxHeartbeats 16000000 in
theorem zlg {oP : Obj} (b : Bool) (n : Int) (t : ByteArray) (ns : List ByteArray) (is : List Nd) (hlen : is.length ≤ 256) (hb : (xz 4 ns is is.length).length + 2 ≤ 50000000)
    (IH : ∀ i, i < is.length → (is.getD i default).jb.length ≤ 50000000 → Spec Tryz.prog 106 [.t (is.getD i default).toT] [(.par 102, .dat (.fix 2 oP))] (.t (.str (ofL (is.getD i default).jb))) [(.par 102, .dat (.fix 2 oP))]) :
    Spec Tryz.prog 106 [.t (.agg [.int .i64 4, .bool b, .int .i64 n, .str t, .sl 1 (ns.map .str), .sl 6 (is.map Nd.toT)])] [(.par 102, .dat (.fix 2 oP))] (.t (.str (ofL (91 :: (xz 4 ns is is.length ++ [93]))))) [(.par 102, .dat (.fix 2 oP))] := by
  refine wI Tryz.func106 ?_
  repeat' (first | refine wC ?_ | refine wK ?_ | fail)
  all_goals try decide
  refine zl (za [1, 3, 27, 28, 29] [.loc 1, .par 102] rfl rfl) ?_
  refine zz (fun p env st => ∃ (i : Nat) (S : ByteArray), i ≤ is.length ∧ p = is.length - i ∧ S = ofL (xz 4 ns is i) ∧
      env = EnvL.get [(1, .ref (.loc 1) 0 0 0), (3, .t (.str S)), (27, .t (.sl 6 (is.map Nd.toT))), (28, .t (.int .i64 (is.length : Int))), (29, .t (.int .i64 (i : Int)))] ∧
      st = StO.get [(.loc 1, some (.var 30 [.t (.int .i64 4), .t (.bool b), .t (.int .i64 n), .t (.str t), .t (.sl 1 (ns.map .str)), .t (.sl 6 (is.map Nd.toT))])), (.par 102, some (.dat (.fix 2 oP)))])
    ?_ (n := is.length) ⟨0, _, by omega, rfl, rfl, rfl, rfl⟩
  rintro p env st ⟨i, S, hi, rfl, hS, rfl, rfl⟩
  have wi : IntKind.i64.wrap ((i : Int) + 1) = ((i + 1 : Nat) : Int) := by rw [zr (by omega) (by omega)]; omega
  have hle0 : (xz 4 ns is i).length ≤ (xz 4 ns is is.length).length := wR (fun h => by omega) (by omega) (by omega)
  have hSl : S.size = (xz 4 ns is i).length := by rw [hS, zx]
  by_cases hlt : i < is.length
  · have hle : (xz 4 ns is (i + 1)).length ≤ (xz 4 ns is is.length).length := wR (fun h => by omega) (by omega) (by omega)
    have hT := (is.getD i default).toT_full
    have hIH := IH i hlt
    have hT2 : (is.getD (i : Int).toNat default).toT = _ := hT
    rw [hT] at hIH
    rw [q7 (by decide) hlt] at hle
    have hnext : ofL (xz 4 ns is (i + 1)) = S ++ ofL ((if i = 0 then [] else [44]) ++ (is.getD i default).jb) := by
      rw [q7 (by decide) hlt, hS, z7]
    clear hS
    simp only [List.length_append] at hle
    simp only [← z7] at hnext
    have hWs : (ofL (is.getD i default).jb).size = (is.getD i default).jb.length := zx _
    have hIH := hIH (by omega)
    generalize ofL (is.getD i default).jb = W at hIH hnext hWs
    have c1 : (ofL [44]) = (⟨#[44]⟩ : ByteArray) := rfl
    have c2 : (ofL [58]) = (⟨#[58]⟩ : ByteArray) := rfl
    have c3 : (⟨#[44]⟩ : ByteArray).size = 1 := rfl
    have c4 : (⟨#[58]⟩ : ByteArray).size = 1 := rfl
    by_cases h0 : i = 0
    · rw [if_pos h0, show ofL [] = ByteArray.empty from rfl, ByteArray.empty_append] at hnext
      rw [if_pos h0] at hle
      simp only [List.length_nil] at hle
      have hw : ofL (xz 4 ns is (i + 1)) = S ++ W := by
        rw [hnext]
      repeat' (first | refine wC ?_ | (exfalso; omega) | refine zR rfl rfl hT2 rfl rfl rfl rfl rfl rfl ?_ | refine wK ?_ | ((with_reducible refine zM ?_); refine yj rfl rfl rfl rfl rfl rfl ?_ ?_) | ((with_reducible refine zA ?_); refine zq rfl rfl rfl rfl rfl rfl ?_ ?_ ?_) | ((with_reducible refine ze ?_); refine wN (.t (.str W)) [] hIH ?_) | refine zd rfl ?_ ?_ <;> intro hc)
      all_goals try (simp only [ByteArray.size_append]; omega)
      all_goals try (simp only [ByteArray.size_append, c3, c4]; omega)
      all_goals try (simp only [List.length_map]; omega)
      all_goals try omega
      exact zI (n' := is.length - (i + 1)) (by omega) (za [1, 3, 27, 28, 29] [.loc 1, .par 102] rfl rfl) ⟨i + 1, _, by omega, rfl, hw.symm, by rw [wi]; rfl, rfl⟩
    · rw [if_neg h0] at hnext hle
      simp only [List.length_cons, List.length_nil] at hle
      have hw : ofL (xz 4 ns is (i + 1)) = S ++ ⟨#[44]⟩ ++ W := by
        rw [hnext]
        rw [c1]
        simp only [ByteArray.append_assoc]
      repeat' (first | refine wC ?_ | (exfalso; omega) | refine zR rfl rfl hT2 rfl rfl rfl rfl rfl rfl ?_ | refine wK ?_ | ((with_reducible refine zM ?_); refine yj rfl rfl rfl rfl rfl rfl ?_ ?_) | ((with_reducible refine zA ?_); refine zq rfl rfl rfl rfl rfl rfl ?_ ?_ ?_) | ((with_reducible refine ze ?_); refine wN (.t (.str W)) [] hIH ?_) | refine zd rfl ?_ ?_ <;> intro hc)
      all_goals try (simp only [ByteArray.size_append]; omega)
      all_goals try (simp only [ByteArray.size_append, c3, c4]; omega)
      all_goals try (simp only [List.length_map]; omega)
      all_goals try omega
      exact zI (n' := is.length - (i + 1)) (by omega) (za [1, 3, 27, 28, 29] [.loc 1, .par 102] rfl rfl) ⟨i + 1, _, by omega, rfl, hw.symm, by rw [wi]; rfl, rfl⟩
  · obtain rfl : i = is.length := by omega
    have e : (⟨#[91]⟩ : ByteArray) ++ S ++ ⟨#[93]⟩ = ofL (91 :: (xz 4 ns is is.length ++ [93])) := by
      rw [hS]
      show ofL [91] ++ ofL _ ++ ofL [93] = _
      rw [z7, z7]; simp
    have c3 : (⟨#[91]⟩ : ByteArray).size = 1 := rfl
    have c4 : (⟨#[93]⟩ : ByteArray).size = 1 := rfl
    repeat' (first | refine wC ?_ | (exfalso; omega) | refine wK ?_ | ((with_reducible refine zM ?_); refine yj rfl rfl rfl rfl rfl rfl ?_ ?_) | refine zd rfl ?_ ?_ <;> intro hc)
    all_goals try (simp only [ByteArray.size_append, c3, c4]; omega)
    exact zp (zo rfl rfl (congrArg T.str e)) (zc ⟨rfl, trivial⟩)
set_option maxHeartbeats 16000000 in
theorem zmU {oP : Obj} (b : Bool) (n : Int) (t : ByteArray) (ns : List ByteArray) (is : List Nd) (hlen : is.length ≤ 256) (hl5 : ns.length = is.length) (hns : ∀ s ∈ ns, s.size ≤ 65536) (hb : (xz 5 ns is is.length).length + 2 ≤ 50000000)
    (IH : ∀ i, i < is.length → (is.getD i default).jb.length ≤ 50000000 → Spec Tryz.prog 106 [.t (is.getD i default).toT] [(.par 102, .dat (.fix 2 oP))] (.t (.str (ofL (is.getD i default).jb))) [(.par 102, .dat (.fix 2 oP))]) :
    Spec Tryz.prog 106 [.t (.agg [.int .i64 5, .bool b, .int .i64 n, .str t, .sl 1 (ns.map .str), .sl 6 (is.map Nd.toT)])] [(.par 102, .dat (.fix 2 oP))] (.t (.str (ofL (123 :: (xz 5 ns is is.length ++ [125]))))) [(.par 102, .dat (.fix 2 oP))] := by
  refine wI Tryz.func106 ?_
  repeat' (first | refine wC ?_ | refine wK ?_ | fail)
  all_goals try decide
  refine zl (za [1, 3, 27, 28, 29] [.loc 1, .par 102] rfl rfl) ?_
  refine zz (fun p env st => ∃ (i : Nat) (S : ByteArray), i ≤ is.length ∧ p = is.length - i ∧ S = ofL (xz 5 ns is i) ∧
      env = EnvL.get [(1, .ref (.loc 1) 0 0 0), (3, .t (.str S)), (27, .t (.sl 6 (is.map Nd.toT))), (28, .t (.int .i64 (is.length : Int))), (29, .t (.int .i64 (i : Int)))] ∧
      st = StO.get [(.loc 1, some (.var 30 [.t (.int .i64 5), .t (.bool b), .t (.int .i64 n), .t (.str t), .t (.sl 1 (ns.map .str)), .t (.sl 6 (is.map Nd.toT))])), (.par 102, some (.dat (.fix 2 oP)))])
    ?_ (n := is.length) ⟨0, _, by omega, rfl, rfl, rfl, rfl⟩
  rintro p env st ⟨i, S, hi, rfl, hS, rfl, rfl⟩
  have wi : IntKind.i64.wrap ((i : Int) + 1) = ((i + 1 : Nat) : Int) := by rw [zr (by omega) (by omega)]; omega
  have hle0 : (xz 5 ns is i).length ≤ (xz 5 ns is is.length).length := wR (fun _ => hl5) (by omega) (by omega)
  have hSl : S.size = (xz 5 ns is i).length := by rw [hS, zx]
  by_cases hlt : i < is.length
  · have hle : (xz 5 ns is (i + 1)).length ≤ (xz 5 ns is is.length).length := wR (fun _ => hl5) (by omega) (by omega)
    have hT := (is.getD i default).toT_full
    have hIH := IH i hlt
    have hT2 : (is.getD (i : Int).toNat default).toT = _ := hT
    rw [hT] at hIH
    rw [ju hl5 hlt] at hle
    have hnext : ofL (xz 5 ns is (i + 1)) = S ++ ofL ((if i = 0 then [] else [44]) ++ (jQ (ns.getD i default) ++ (58 :: (is.getD i default).jb))) := by
      rw [ju hl5 hlt, hS, z7]
    clear hS
    have hsz : (ns.getD i default).size ≤ 65536 := hns _ (by rw [List.getD_eq_getElem?_getD, List.getElem?_eq_getElem (by omega)]; simp)
    have hjl := zaH (ns.getD i default)
    have hnn : i < ns.length := by omega
    have hQ := zcz (ns.getD i default) (by omega)
    simp only [List.length_append, List.length_cons] at hle
    rw [show (58 :: (is.getD i default).jb) = [58] ++ (is.getD i default).jb from rfl] at hnext
    have hgn : (ns.getD (i : Int).toNat default) = ns.getD i default := rfl
    rw [← hgn] at hQ hnext hle hjl
    simp only [← z7] at hnext
    have hqs : (ofL (jQ (ns.getD (i : Int).toNat default))).size = (jQ (ns.getD (i : Int).toNat default)).length := zx _
    generalize ofL (jQ (ns.getD (i : Int).toNat default)) = Q at hQ hnext hqs
    have hWs : (ofL (is.getD i default).jb).size = (is.getD i default).jb.length := zx _
    have hIH := hIH (by omega)
    generalize ofL (is.getD i default).jb = W at hIH hnext hWs
    have c1 : (ofL [44]) = (⟨#[44]⟩ : ByteArray) := rfl
    have c2 : (ofL [58]) = (⟨#[58]⟩ : ByteArray) := rfl
    have c3 : (⟨#[44]⟩ : ByteArray).size = 1 := rfl
    have c4 : (⟨#[58]⟩ : ByteArray).size = 1 := rfl
    by_cases h0 : i = 0
    · rw [if_pos h0, show ofL [] = ByteArray.empty from rfl, ByteArray.empty_append] at hnext
      rw [if_pos h0] at hle
      simp only [List.length_nil] at hle
      have hw : ofL (xz 5 ns is (i + 1)) = S ++ (Q ++ ⟨#[58]⟩) ++ W := by
        rw [hnext]
        rw [c2]
        simp only [ByteArray.append_assoc]
      repeat' (first | refine wC ?_ | (exfalso; omega) | refine zR rfl rfl hT2 rfl rfl rfl rfl rfl rfl ?_ | refine wK ?_ | ((with_reducible refine zM ?_); refine yj rfl rfl rfl rfl rfl rfl ?_ ?_) | ((with_reducible refine zA ?_); refine zq rfl rfl rfl rfl rfl rfl ?_ ?_ ?_) | ((with_reducible refine ze ?_); first | refine wL hQ ?_ | refine wN (.t (.str W)) [] hIH ?_) | refine zd rfl ?_ ?_ <;> intro hc)
      all_goals try (simp only [ByteArray.size_append]; omega)
      all_goals try (simp only [ByteArray.size_append, c3, c4]; omega)
      all_goals try (simp only [List.length_map]; omega)
      all_goals try omega
      exact zI (n' := is.length - (i + 1)) (by omega) (za [1, 3, 27, 28, 29] [.loc 1, .par 102] rfl rfl) ⟨i + 1, _, by omega, rfl, hw.symm, by rw [wi]; rfl, rfl⟩
    · rw [if_neg h0] at hnext hle
      simp only [List.length_cons, List.length_nil] at hle
      have hw : ofL (xz 5 ns is (i + 1)) = S ++ ⟨#[44]⟩ ++ (Q ++ ⟨#[58]⟩) ++ W := by
        rw [hnext]
        rw [c1, c2]
        simp only [ByteArray.append_assoc]
      repeat' (first | refine wC ?_ | (exfalso; omega) | refine zR rfl rfl hT2 rfl rfl rfl rfl rfl rfl ?_ | refine wK ?_ | ((with_reducible refine zM ?_); refine yj rfl rfl rfl rfl rfl rfl ?_ ?_) | ((with_reducible refine zA ?_); refine zq rfl rfl rfl rfl rfl rfl ?_ ?_ ?_) | ((with_reducible refine ze ?_); first | refine wL hQ ?_ | refine wN (.t (.str W)) [] hIH ?_) | refine zd rfl ?_ ?_ <;> intro hc)
      all_goals try (simp only [ByteArray.size_append]; omega)
      all_goals try (simp only [ByteArray.size_append, c3, c4]; omega)
      all_goals try (simp only [List.length_map]; omega)
      all_goals try omega
      exact zI (n' := is.length - (i + 1)) (by omega) (za [1, 3, 27, 28, 29] [.loc 1, .par 102] rfl rfl) ⟨i + 1, _, by omega, rfl, hw.symm, by rw [wi]; rfl, rfl⟩
  · obtain rfl : i = is.length := by omega
    have e : (⟨#[123]⟩ : ByteArray) ++ S ++ ⟨#[125]⟩ = ofL (123 :: (xz 5 ns is is.length ++ [125])) := by
      rw [hS]
      show ofL [123] ++ ofL _ ++ ofL [125] = _
      rw [z7, z7]; simp
    have c3 : (⟨#[123]⟩ : ByteArray).size = 1 := rfl
    have c4 : (⟨#[125]⟩ : ByteArray).size = 1 := rfl
    repeat' (first | refine wC ?_ | (exfalso; omega) | refine wK ?_ | ((with_reducible refine zM ?_); refine yj rfl rfl rfl rfl rfl rfl ?_ ?_) | refine zd rfl ?_ ?_ <;> intro hc)
    all_goals try (simp only [ByteArray.size_append, c3, c4]; omega)
    exact zp (zo rfl rfl (congrArg T.str e)) (zc ⟨rfl, trivial⟩)
theorem zlz : (⟨#[110, 117, 108, 108]⟩ : ByteArray) = ofL kE := rfl
set_option maxHeartbeats 16000000 in
theorem vr {V : ByteArray → Bool} {oP : Obj} (hP : y3 .u64 Lib.pow10Tab oP) : ∀ (x : Nd) (e : Int), x.validB V e = true → x.In → x.jb.length ≤ 50000000 →
    Spec Tryz.prog 106 [.t x.toT] [(.par 102, .dat (.fix 2 oP))] (.t (.str (ofL x.jb))) [(.par 102, .dat (.fix 2 oP))]
  | .mk k b n t ns is, e, hv, hin, hb => by
    rw [yo] at hv
    obtain ⟨h1, h2, h3, h4, h5, h6, h7, h8⟩ := hv
    cases hin with
    | mk i1 i2 i3 =>
    rw [Nd.toT_eq]
    have hk : k = 0 ∨ k = 1 ∨ k = 2 ∨ k = 3 ∨ (k = 4 ∨ k = 5) := by omega
    rcases hk with rfl | rfl | rfl | rfl | hk
    · rw [show (Nd.mk 0 b n t ns is).jb = kE by simp [Nd.jb], ← zlz]
      refine wI Tryz.func106 ?_
      repeat' (first | refine wC ?_ | refine wK ?_ | fail)
      exact zp (zo rfl rfl rfl) (zc ⟨rfl, trivial⟩)
    · have ec : (Nd.mk 1 b n t ns is).jb = if b then w7 else xm := by simp [Nd.jb]
      rw [ec]
      have hB := zbL b
      generalize ofL (if b then w7 else xm) = R at hB ⊢
      refine wI Tryz.func106 ?_
      repeat' (first | refine wC ?_ | refine wK ?_ | ((with_reducible refine ze ?_); refine wL hB ?_) | fail)
      exact zp (zo rfl rfl rfl) (zc ⟨rfl, trivial⟩)
    · have ec : (Nd.mk 2 b n t ns is).jb = Lib.itoa n := by simp [Nd.jb]
      rw [ec]
      have hB := zjt hP n i1 i2
      generalize ofL (Lib.itoa n) = R at hB ⊢
      refine wI Tryz.func106 ?_
      repeat' (first | refine wC ?_ | refine wK ?_ | ((with_reducible refine ze ?_); refine wN (.t (.str R)) [] hB ?_) | fail)
      exact zp (zo rfl rfl rfl) (zc ⟨rfl, trivial⟩)
    · have ec : (Nd.mk 3 b n t ns is).jb = jQ t := by simp [Nd.jb]
      have ht : t.size ≤ 65536 := by
        simp only [yh, Bool.and_eq_true, decide_eq_true_eq] at h5; omega
      rw [ec]
      have hB := zcz t (by omega)
      generalize ofL (jQ t) = R at hB ⊢
      refine wI Tryz.func106 ?_
      repeat' (first | refine wC ?_ | refine wK ?_ | ((with_reducible refine ze ?_); refine wL hB ?_) | fail)
      exact zp (zo rfl rfl rfl) (zc ⟨rfl, trivial⟩)
    · rcases hk with rfl | rfl
      · have ec : (Nd.mk 4 b n t ns is).jb = 91 :: (xz 4 ns is is.length ++ [93]) := by simp [Nd.jb, xz]
        rw [ec] at hb ⊢
        simp only [List.length_cons, List.length_append, List.length_nil] at hb
        exact zlg b n t ns is (by omega) (by omega) fun i hi hb' => by
          have hm : is.getD i default ∈ is := by rw [List.getD_eq_getElem?_getD, List.getElem?_eq_getElem hi]; exact List.getElem_mem _
          exact vr hP (is.getD i default) (e - 1) (h8 _ hm) (i3 _ hm) hb'
      · have e2 : ns.take is.length = ns := by rw [← (h7 rfl).2]; exact List.take_length
        have ec : (Nd.mk 5 b n t ns is).jb = 123 :: (xz 5 ns is is.length ++ [125]) := by simp [Nd.jb, xz, e2]
        rw [ec] at hb ⊢
        simp only [List.length_cons, List.length_append, List.length_nil] at hb
        exact zmU b n t ns is (by omega) (by have := (h7 rfl).2; omega) (fun s hs => by
          have := ((yF (yh V) ns []).1 (h7 rfl).1).2 s hs
          have := this.2
          simp only [yh, Bool.and_eq_true, decide_eq_true_eq] at this; omega) (by omega) fun i hi hb' => by
          have hm : is.getD i default ∈ is := by rw [List.getD_eq_getElem?_getD, List.getElem?_eq_getElem hi]; exact List.getElem_mem _
          exact vr hP (is.getD i default) (e - 1) (h8 _ hm) (i3 _ hm) hb'
termination_by x => SizeOf.sizeOf x
decreasing_by
  all_goals
    have := List.sizeOf_lt_of_mem hm
    simp only [Nd.mk.sizeOf_spec]
    omega
set_option maxHeartbeats 4000000 in
theorem zh7 {oF oA oP : Obj} {V : ByteArray → Bool} (hS : xH oF oA V) (hPw : y3 .u64 Lib.pow10Tab oP) (x : Nd) (hx : x.Ok) (hin : x.In) (hsz : x.validB V 8 = true → x.jb.length ≤ 49999999) : Spec Tryz.prog 52 [.t x.toT] [(.par 100, .dat (.fix 0 oF)), (.par 101, .dat (.fix 1 oA)), (.par 102, .dat (.fix 2 oP))] (.tup [.t (.str (zim V x).1), .t (.int .i64 (zim V x).2)]) [(.par 100, .dat (.fix 0 oF)), (.par 101, .dat (.fix 1 oA)), (.par 102, .dat (.fix 2 oP))] := by
  have hV := x7 hS x hx
  have hT := x.toT_full
  unfold zim
  cases hv : x.validB V 8 with
  | false =>
    rw [hv] at hV
    rw [hT] at hV ⊢
    refine wI Tryz.func52 ?_
    repeat' (first | refine wC ?_ | refine wK ?_ | ((with_reducible refine ze ?_); refine wN (.t (.bool false)) [] hV ?_) | fail)
    exact zp (zD rfl rfl rfl rfl rfl) (zc ⟨rfl, rfl, rfl, trivial⟩)
  | true =>
    have hP := vr hPw x 8 hv hin (by have := hsz hv; omega)
    rw [hv] at hV
    have hlen : (ofL x.jb).size = x.jb.length := zx _
    generalize ofL x.jb = W at hP hlen ⊢
    rw [hT] at hV hP ⊢
    refine wI Tryz.func52 ?_
    repeat' (first | refine wC ?_ | refine wK ?_ | ((with_reducible refine ze ?_); first | refine wN (.t (.bool true)) [] hV ?_ | refine wN (.t (.str W)) [] hP ?_) | refine zd rfl ?_ ?_ <;> intro hc)
    · exact zp (zD rfl rfl rfl (by rw [if_pos rfl, if_pos (by omega)]; rfl) (by rw [if_pos rfl, if_pos (by omega)])) (zc ⟨rfl, rfl, rfl, trivial⟩)
    · exact zp (zD rfl rfl rfl (by rw [if_pos rfl, if_neg (by omega)]) (by rw [if_pos rfl, if_neg (by omega)])) (zc ⟨rfl, rfl, rfl, trivial⟩)
structure EncJ (V : ByteArray → Bool) (x : Nd) : Prop where
  ok : x.Ok
  inn : x.In
  sz : x.validB V 8 = true → x.jb.length ≤ 49999999
end Go.AL
namespace Go.AL
open Go Go.RowKit
def zeI : List Nd → Nat
  | [] => 0
  | x :: l => x.jb.length + 1 + zeI l
theorem zhS : ∀ a b : List Nd, zeI (a ++ b) = zeI a + zeI b
  | [], b => by simp [zeI]
  | x :: a, b => by simp only [List.cons_append, zeI, zhS a b]; omega
theorem zkI : Nd.zero.jb.length = 4 := by simp [Nd.zero, Nd.jb, kE]
theorem zc4 : ∀ m, zeI (List.replicate m Nd.zero) = 5 * m
  | 0 => rfl
  | m + 1 => by simp only [List.replicate_succ, zeI, zkI, zc4 m]; omega
theorem zf6 {B : Nat} : ∀ {l : List Nd}, (∀ x ∈ l, x.jb.length ≤ B) → zeI l ≤ l.length * (B + 1)
  | [], _ => by simp [zeI]
  | x :: l, h => by
    have h1 := h x (by simp)
    have h2 := zf6 (l := l) (fun y hy => h y (by simp [hy]))
    simp only [zeI, List.length_cons, Nat.add_mul] at *; omega
theorem zkm : ∀ (f : Bool) (l : List Nd), (Nd.jbs f l).length ≤ zeI l
  | f, [] => by simp [Nd.jbs, zeI]
  | f, x :: l => by
    have := zkm false l
    simp only [Nd.jbs, zeI, List.length_append]
    split <;> simp <;> omega
theorem zg5 {C : Nat} : ∀ (f : Bool) (ns : List ByteArray) (l : List Nd), (∀ s ∈ ns, s.size ≤ C) → (Nd.jbm f ns l).length ≤ zeI l + l.length * (6 * C + 3)
  | f, [], l, _ => by cases l <;> simp [Nd.jbm]
  | f, s :: ns, [], _ => by simp [Nd.jbm, zeI]
  | f, s :: ns, x :: l, h => by
    have h1 := h s (by simp)
    have h2 := zg5 (C := C) false ns l (fun y hy => h y (by simp [hy]))
    have h3 := (zaH s).2
    have h4 : (l.length + 1) * (6 * C + 3) = l.length * (6 * C + 3) + (6 * C + 3) := by rw [Nat.add_mul, Nat.one_mul]
    simp only [Nd.jbm, zeI, List.length_append, List.length_cons, h4]
    split <;> simp <;> omega
theorem zmK (k : Int) (hk : k = 4 ∨ k = 5) (f : Dc → Nd × Dc) (B : Nat) (hB : 1 ≤ B) (hf : ∀ d, (f d).1.jb.length ≤ B) (d : Dc) : (zfW k f d).1.jb.length ≤ 3 * B + 500 := by
  have hq := d.next_lt 4 (by omega)
  have hl := xy f (d.next 4).1.toNat (d.next 4).2
  have ha := x9 f (fun x => x.jb.length ≤ B) hf (d.next 4).1.toNat (d.next 4).2
  unfold zfW
  simp only
  generalize yQ f (d.next 4).1.toNat (d.next 4).2 = is at hl ha ⊢
  have hg : ∃ g : List Nd × Dc, (if (is.2.next 20).1 = 1 then vC 20 is.1 (is.2.next 20).2 else (is.1, (is.2.next 20).2)) = g ∧ g.1.length ≤ 17 ∧ zeI g.1 ≤ 3 * B + 3 + 85 := by
    have hb := zf6 (B := B) (l := is.1) ha
    have hb3 : is.1.length * (B + 1) ≤ 3 * (B + 1) := Nat.mul_le_mul_right _ (by omega)
    refine ⟨_, rfl, ?_⟩
    split
    · obtain ⟨m, h1, h2⟩ := kV 20 is.1 (is.2.next 20).2 (by omega)
      rw [h1]
      refine ⟨by simp; omega, ?_⟩
      rw [zhS, zc4]; omega
    · exact ⟨by simp only; omega, by simp only; omega⟩
  obtain ⟨g, e1, e2, e3⟩ := hg
  rw [e1]
  rcases hk with rfl | rfl
  · rw [show (Nd.mk 4 false 0 eS (if (4 : Int) = 5 then yd g.1.length 0 g.2 else ([], g.2)).1 g.1).jb = 91 :: (Nd.jbs true g.1 ++ [93]) by simp [Nd.jb]]
    have := zkm true g.1
    simp only [List.length_cons, List.length_append, List.length_nil]; omega
  · have h3 := zg5 (C := 3) true (yd g.1.length 0 g.2).1 g.1 (zb6 _ _ _)
    have h4 : g.1.length * (6 * 3 + 3) ≤ 17 * 21 := Nat.mul_le_mul_right _ e2
    rw [show (Nd.mk 5 false 0 eS (if (5 : Int) = 5 then yd g.1.length 0 g.2 else ([], g.2)).1 g.1).jb = 123 :: (Nd.jbm true (yd g.1.length 0 g.2).1 g.1 ++ [125]) by simp [Nd.jb]]
    simp only [List.length_cons, List.length_append, List.length_nil]; omega
theorem zeE (rec : Option (Dc → Nd × Dc)) (B : Nat) (hB : 1 ≤ B) (hB2 : rec = none ∨ 1600 ≤ 3 * B + 500) (hf : ∀ f, rec = some f → ∀ d, (f d).1.jb.length ≤ B) (d : Dc) : (kM rec d).1.jb.length ≤ max 1540 (3 * B + 500) := by
  unfold kM
  simp only
  split
  · simp only [Nd.jb, show ((1 : Int) = 0) = False from by simp, if_false, if_true]
    split <;> simp [w7, xm] <;> omega
  · split
    · have h := zhL ((d.next 6).2.next 12).1.toNat
      have hn : ∀ n : Int, -9223372036854775808 ≤ n → n ≤ 9223372036854775807 → (Nd.mk 2 false n eS [] []).jb.length ≤ 21 := fun n h0 h1 => by
        rw [show (Nd.mk 2 false n eS [] []).jb = Lib.itoa n by simp [Nd.jb]]
        exact (kj n h0 h1).2
      have := hn (if (((d.next 6).2.next 12).2.next 2).1 = 1 then -1 - vY.getD ((d.next 6).2.next 12).1.toNat 0 else vY.getD ((d.next 6).2.next 12).1.toNat 0) (by split <;> omega) (by split <;> omega)
      exact Nat.le_trans this (by omega)
    · split
      · have h := zdD (d.next 6).2
        rw [show (Nd.mk 3 false 0 (qp (d.next 6).2).1 [] []).jb = jQ (qp (d.next 6).2).1 by simp [Nd.jb]]
        have := (zaH (qp (d.next 6).2).1).2
        omega
      · split
        · rename_i hk
          split
          · rcases hk with h | h <;> rw [h] <;> simp [Nd.jb, Nd.jbs, Nd.jbm] <;> omega
          · rename_i f
            have := zmK _ hk f B hB (hf f rfl) (d.next 6).2
            omega
        · rw [zkI]; omega
def kJ : Nat → Nat
  | 0 => 1540
  | 1 => 1540
  | n + 2 => 3 * kJ (n + 1) + 500
theorem zob : ∀ n, 1540 ≤ kJ n
  | 0 => by decide
  | 1 => by decide
  | n + 2 => by have := zob (n + 1); simp only [kJ]; omega
theorem zho : ∀ (n : Nat) (d : Dc), (qA n d).1.jb.length ≤ kJ n
  | 0, d => by
    have := zeE none 1 (by omega) (.inl rfl) (by simp) d
    exact Nat.le_trans this (by decide)
  | 1, d => by
    have := zeE none 1 (by omega) (.inl rfl) (by simp) d
    exact Nat.le_trans this (by decide)
  | n + 2, d => by
    have h := zob (n + 1)
    have := zeE (some (qA (n + 1))) (kJ (n + 1)) (by omega) (.inr (by omega)) (by
      rintro f h
      cases h
      exact fun d => zho (n + 1) d) d
    exact Nat.le_trans this (by simp only [kJ]; omega)
theorem zmE (n : Nat) (d : Dc) : (zih n d).1.jb.length ≤ 3 * kJ (n - 1) + 50 := by
  have hq := d.next_lt 4 (by omega)
  unfold zih
  have hl := xy (qA (n - 1)) (d.next 4).1.toNat (d.next 4).2
  have ha := x9 (qA (n - 1)) (fun x => x.jb.length ≤ kJ (n - 1)) (fun d => zho _ d) (d.next 4).1.toNat (d.next 4).2
  generalize yQ (qA (n - 1)) (d.next 4).1.toNat (d.next 4).2 = is at hl ha ⊢
  have hb := zf6 (B := kJ (n - 1)) (l := is.1) ha
  have hb3 : is.1.length * (kJ (n - 1) + 1) ≤ 3 * (kJ (n - 1) + 1) := Nat.mul_le_mul_right _ (by omega)
  have h3 := zg5 (C := 1) true (yu.take (d.next 4).1.toNat) is.1 (fun s hs => by
    have := List.mem_of_mem_take hs
    simp only [yu, List.mem_cons, List.not_mem_nil, or_false] at this
    rcases this with rfl | rfl | rfl | rfl <;> decide)
  have h4 : is.1.length * (6 * 1 + 3) ≤ 3 * 9 := Nat.mul_le_mul_right _ (by omega)
  rw [show (Nd.mk 5 false 0 eS (yu.take (d.next 4).1.toNat) is.1).jb = 123 :: (Nd.jbm true (yu.take (d.next 4).1.toNat) is.1 ++ [125]) by simp [Nd.jb]]
  simp only [List.length_cons, List.length_append, List.length_nil]
  omega
end Go.AL
namespace Go.AL
open Go Go.Proofs Go.RowKit
end Go.AL
namespace Go.AL
open Go Go.RowKit
def kZ (s : ByteArray) (p : Nat) (t : ByteArray) : Bool := decide ((t.size : Int) ≤ (s.size : Int) - p) && decide (s.extract p (p + t.size) = t)
def jm (b : UInt8) : Bool := decide (48 ≤ b.toNat) && decide (b.toNat ≤ 57)
def zax : List UInt8 → Nat → Nat
  | [], u => u
  | c :: l, u => zax l (10 * u + (c.toNat - 48))
def kC (s : ByteArray) (q : Nat) : List UInt8 := (s.data.toList.drop q).takeWhile jm
def zcG (s : ByteArray) (p : Nat) : Nat := if bAt s (p : Nat) = 45 then p + 1 else p
def qE (s : ByteArray) (p : Nat) : Nd × Int :=
  if 19 < (kC s (zcG s p)).length ∨ (kC s (zcG s p)).length = 0 then (Nd.zero, -1)
  else if (bAt s (p : Nat) ≠ 45 ∧ 9223372036854775807 < zax (kC s (zcG s p)) 0) ∨ 9223372036854775808 < zax (kC s (zcG s p)) 0 then (Nd.zero, -1)
  else (wV (if bAt s (p : Nat) = 45 then -(zax (kC s (zcG s p)) 0 : Int) else zax (kC s (zcG s p)) 0), ((zcG s p + (kC s (zcG s p)).length : Nat) : Int))
def zeJ (c : Int) : Int := if c = 98 then 8 else if c = 116 then 9 else if c = 110 then 10 else if c = 102 then 12 else if c = 114 then 13 else -1
def qF (c : Int) : Int := if 48 ≤ c ∧ c ≤ 57 then c - 48 else if 97 ≤ c ∧ c ≤ 102 then c - 87 else -1
def uS : ByteArray := ⟨#[117, 48, 48]⟩
def xT (s : ByteArray) : Nat → List UInt8 → Nat → ByteArray × Int
  | 0, out, p => (eS, -1)
  | f + 1, out, p =>
    if s.size ≤ p then (eS, -1)
    else if bAt s (p : Nat) = 34 then (ofL out, (p : Int) + 1)
    else if bAt s (p : Nat) ≠ 92 then xT s f (out ++ [UInt8.ofNat (bAt s (p : Nat)).toNat]) (p + 1)
    else if kZ s (p + 1) uS = true ∧ p + 5 < s.size then
      (if qF (bAt s ((p + 4 : Nat) : Int)) < 0 ∨ qF (bAt s ((p + 5 : Nat) : Int)) < 0 then (eS, -1)
       else xT s f (out ++ [UInt8.ofNat (16 * qF (bAt s ((p + 4 : Nat) : Int)) + qF (bAt s ((p + 5 : Nat) : Int))).toNat]) (p + 6))
    else if p + 1 < s.size ∧ (bAt s ((p + 1 : Nat) : Int) = 34 ∨ bAt s ((p + 1 : Nat) : Int) = 92) then xT s f (out ++ [UInt8.ofNat (bAt s ((p + 1 : Nat) : Int)).toNat]) (p + 2)
    else if p + 1 < s.size ∧ 0 ≤ zeJ (bAt s ((p + 1 : Nat) : Int)) then xT s f (out ++ [UInt8.ofNat (zeJ (bAt s ((p + 1 : Nat) : Int))).toNat]) (p + 2)
    else (eS, -1)
def zW (s : ByteArray) (p : Nat) : ByteArray × Int := xT s (s.size + 1) [] (p + 1)
def zaz (val : Nat → Nd × Int) (s : ByteArray) (k e : Int) (go : List Nd → Nat → Nd × Int) (ns : List ByteArray) (is : List Nd) (p : Nat) : Nd × Int :=
  if (val p).2 < 0 ∨ (s.size : Int) ≤ (val p).2 then (Nd.zero, -1)
  else if bAt s (val p).2 = e then (.mk k false 0 eS ns (is ++ [(val p).1]), (val p).2 + 1)
  else if bAt s (val p).2 ≠ 44 ∨ 256 < (is.length : Int) + 1 then (Nd.zero, -1)
  else go (is ++ [(val p).1]) ((val p).2.toNat + 1)
def xv (val : Nat → Nd × Int) (s : ByteArray) (k e : Int) : Nat → List ByteArray → List Nd → Nat → Nd × Int
  | 0, ns, is, p => (Nd.zero, -1)
  | c + 1, ns, is, p =>
    if p < s.size ∧ bAt s (p : Nat) = e ∧ is.length = 0 then (.mk k false 0 eS ns is, (p : Int) + 1)
    else if k = 5 then
      (if s.size ≤ p ∨ bAt s (p : Nat) ≠ 34 then (Nd.zero, -1)
       else if (zW s p).2 < 0 ∨ (s.size : Int) ≤ (zW s p).2 ∨ bAt s (zW s p).2 ≠ 58 then (Nd.zero, -1)
       else zaz val s k e (xv val s k e c (ns ++ [(zW s p).1])) (ns ++ [(zW s p).1]) is ((zW s p).2.toNat + 1))
    else zaz val s k e (xv val s k e c ns) ns is p
def y5 (s : ByteArray) : Nat → Nat → Nd × Int
  | 0, p => (Nd.zero, -1)
  | d + 1, p =>
    if s.size ≤ p then (Nd.zero, -1)
    else if kZ s p vA = true then (Nd.zero, (p : Int) + 4)
    else if kZ s p qo = true then (.mk 1 true 0 eS [] [], (p : Int) + 4)
    else if kZ s p wO = true then (.mk 1 false 0 eS [] [], (p : Int) + 5)
    else if bAt s (p : Nat) = 34 then (.mk 3 false 0 (zW s p).1 [] [], (zW s p).2)
    else if bAt s (p : Nat) = 91 then xv (y5 s d) s 4 93 258 [] [] (p + 1)
    else if bAt s (p : Nat) = 123 then xv (y5 s d) s 5 125 258 [] [] (p + 1)
    else qE s p
theorem jn (a t b : List UInt8) : kZ (ofL (a ++ (t ++ b))) a.length (ofL t) = true := by
  unfold kZ
  simp only [zx, we, List.length_append, Bool.and_eq_true, decide_eq_true_eq]
  refine ⟨by omega, ?_⟩
  rw [List.drop_left]
  rw [show a.length + t.length - a.length = t.length by omega, List.take_left]
theorem qy {s : ByteArray} {p : Nat} {d : UInt8} {t : List UInt8} (h : bAt s (p : Nat) ≠ (d.toNat : Int)) : kZ s p (ofL (d :: t)) = false := by
  unfold kZ
  simp only [Bool.and_eq_false_iff, decide_eq_false_iff_not]
  by_cases h1 : (((ofL (d :: t)).size : Int) ≤ (s.size : Int) - p)
  · right
    intro h2
    apply h
    have h3 : bAt (s.extract p (p + (ofL (d :: t)).size)) 0 = bAt (ofL (d :: t)) 0 := by rw [h2]
    have h4 : bAt (ofL (d :: t)) 0 = (d.toNat : Int) := rfl
    rw [h4] at h3
    rw [← h3]
    have hz : (ofL (d :: t)).size = t.length + 1 := by rw [zx]; rfl
    have hs : s.data.toList.length = s.size := by rw [Array.length_toList]; rfl
    have e : s.extract p (p + (ofL (d :: t)).size) = ofL ((s.data.toList.drop p).take (t.length + 1)) := by
      have : s = ofL s.data.toList := by simp [ofL]
      conv => lhs; rw [this]
      rw [we, hz]
      congr 2
      omega
    rw [e]
    unfold bAt
    show ((s.data.toList.getD p default).toNat : Int) = ((((s.data.toList.drop p).take (t.length + 1)).getD 0 default).toNat : Int)
    congr 2
    simp only [List.getD_eq_getElem?_getD]
    rw [List.getElem?_take_of_lt (by omega), List.getElem?_drop, Nat.add_zero]
  · left; exact h1
theorem zjM (a : List UInt8) (x : UInt8) (b : List UInt8) (n : Nat) (h : n = a.length) : bAt (ofL (a ++ x :: b)) (n : Nat) = (x.toNat : Int) := by
  subst h; exact yD a x b
theorem zk7 (l c : UInt8) (h : zii c = some l) : l.toNat ≠ 117 ∧ ((l = 34 ∨ l = 92) ∧ l = c ∨ ¬ (l = 34 ∨ l = 92) ∧ zeJ (l.toNat : Int) = (c.toNat : Int)) := by
  have key : ∀ x ∈ zmo, x.2.toNat ≠ 117 ∧ ((x.2 = 34 ∨ x.2 = 92) ∧ x.2 = x.1 ∨ ¬ (x.2 = 34 ∨ x.2 = 92) ∧ zeJ (x.2.toNat : Int) = (x.1.toNat : Int)) := by decide
  have hm : ∀ (L : List (UInt8 × UInt8)), L.lookup c = some l → (c, l) ∈ L := by
    intro L
    induction L with
    | nil => simp
    | cons x L ih =>
      obtain ⟨a, b⟩ := x
      intro h
      simp only [List.lookup] at h
      split at h
      · rename_i he
        have : c = a := by simpa using he
        cases h; subst this; simp
      · exact List.mem_cons_of_mem _ (ih h)
  exact key _ (hm _ h)
theorem zfj (n : Nat) (h : n < 16) : qF ((qJ n).toNat : Int) = (n : Int) := by
  have key : ∀ n : Fin 16, qF ((qJ n.val).toNat : Int) = (n.val : Int) := by decide
  exact key ⟨n, h⟩
theorem wZ {c d : UInt8} : ((c.toNat : Int) = (d.toNat : Int)) ↔ c = d := by
  constructor
  · intro h; exact UInt8.toNat_inj.1 (by omega)
  · rintro rfl; rfl
theorem zc3 (s : ByteArray) : ∀ (l : List UInt8) (f : Nat) (out a b : List UInt8), l.length + 1 ≤ f → s = ofL (a ++ (yB l ++ 34 :: b)) → xT s f out a.length = (ofL (out ++ l), ((a ++ yB l).length : Int) + 1)
  | [], f, out, a, b, hf, hs => by
    obtain ⟨f, rfl⟩ : ∃ g, f = g + 1 := ⟨f - 1, by simp at hf; omega⟩
    have hz : s.size = a.length + (b.length + 1) := by rw [hs, zx]; simp [yB]
    have hb : bAt s (a.length : Nat) = 34 := by rw [hs]; exact yD a 34 b
    rw [xT, if_neg (by omega), if_pos hb]
    simp [yB]
  | c :: l, f, out, a, b, hf, hs => by
    obtain ⟨f, rfl⟩ : ∃ g, f = g + 1 := ⟨f - 1, by simp at hf; omega⟩
    have hf' : l.length + 1 ≤ f := by simp at hf; omega
    have ih := fun (m : Nat) (w : List UInt8) (hw : zez c = w) (hm : m = (a ++ w).length) => show xT s f (out ++ [c]) m = (ofL (out ++ c :: l), ((a ++ yB (c :: l)).length : Int) + 1) by
      have := zc3 s l f (out ++ [c]) (a ++ w) b hf' (by rw [hs, ← hw]; simp [yB])
      rw [hm, this, ← hw]
      simp [yB]
    have hz : s.size = a.length + ((zez c).length + ((yB l).length + (b.length + 1))) := by rw [hs, zx]; simp [yB]
    have hs2 : s = ofL (a ++ (zez c ++ (yB l ++ 34 :: b))) := by rw [hs]; simp [yB]
    cases hO : zii c with
    | some x =>
      have hE : zez c = [92, x] := by unfold zez; rw [hO]
      rw [hE] at hz hs2
      simp only [List.length_cons, List.length_nil] at hz
      have b0 : bAt s (a.length : Nat) = 92 := by rw [hs2]; exact yD a 92 _
      have b1 : bAt s ((a.length + 1 : Nat) : Int) = (x.toNat : Int) := by
        rw [hs2, show a ++ ([92, x] ++ (yB l ++ 34 :: b)) = (a ++ [92]) ++ x :: (yB l ++ 34 :: b) by simp]
        exact zjM _ x _ _ (by simp)
      obtain ⟨h117, hx⟩ := zk7 x c hO
      have hn : kZ s (a.length + 1) uS = false := qy (d := 117) (t := [48, 48]) (by rw [b1]; intro h; exact h117 (by have : (x.toNat : Int) = 117 := h; omega))
      rw [xT, if_neg (by omega), if_neg (by rw [b0]; decide), if_neg (by rw [b0]; decide), if_neg (by rw [hn]; simp)]
      rcases hx with ⟨h1, h2⟩ | ⟨h1, h2⟩
      · rw [if_pos ⟨by omega, by rw [b1]; rcases h1 with rfl | rfl <;> decide⟩, b1, h2]
        rw [show UInt8.ofNat ((c.toNat : Int)).toNat = c by simp]
        exact ih _ _ hE (by simp)
      · have hn2 : ¬ (bAt s ((a.length + 1 : Nat) : Int) = 34 ∨ bAt s ((a.length + 1 : Nat) : Int) = 92) := by
          rw [b1]
          rintro (h | h)
          · exact h1 (.inl (wZ.1 h))
          · exact h1 (.inr (wZ.1 h))
        rw [if_neg (fun h => hn2 h.2), b1, h2, if_pos ⟨by omega, by omega⟩]
        rw [show UInt8.ofNat ((c.toNat : Int)).toNat = c by simp]
        exact ih _ _ hE (by simp)
    | none =>
      by_cases h32 : c.toNat < 32
      · have hE : zez c = [92, 117, 48, 48, qJ (c.toNat / 16), qJ (c.toNat % 16)] := by unfold zez; rw [hO]; simp only; rw [if_pos h32]
        rw [hE] at hz hs2
        simp only [List.length_cons, List.length_nil] at hz
        have b0 : bAt s (a.length : Nat) = 92 := by rw [hs2]; exact yD a 92 _
        have hH : kZ s (a.length + 1) uS = true := by
          rw [hs2, show a ++ ([92, 117, 48, 48, qJ (c.toNat / 16), qJ (c.toNat % 16)] ++ (yB l ++ 34 :: b)) = (a ++ [92]) ++ ([117, 48, 48] ++ (qJ (c.toNat / 16) :: qJ (c.toNat % 16) :: (yB l ++ 34 :: b))) by simp, show a.length + 1 = (a ++ [92]).length by simp]
          exact jn _ _ _
        have b4 : bAt s ((a.length + 4 : Nat) : Int) = ((qJ (c.toNat / 16)).toNat : Int) := by
          rw [hs2, show a ++ ([92, 117, 48, 48, qJ (c.toNat / 16), qJ (c.toNat % 16)] ++ (yB l ++ 34 :: b)) = (a ++ [92, 117, 48, 48]) ++ qJ (c.toNat / 16) :: (qJ (c.toNat % 16) :: (yB l ++ 34 :: b)) by simp]
          exact zjM _ _ _ _ (by simp)
        have b5 : bAt s ((a.length + 5 : Nat) : Int) = ((qJ (c.toNat % 16)).toNat : Int) := by
          rw [hs2, show a ++ ([92, 117, 48, 48, qJ (c.toNat / 16), qJ (c.toNat % 16)] ++ (yB l ++ 34 :: b)) = (a ++ [92, 117, 48, 48, qJ (c.toNat / 16)]) ++ qJ (c.toNat % 16) :: (yB l ++ 34 :: b) by simp]
          exact zjM _ _ _ _ (by simp)
        rw [xT, if_neg (by omega), if_neg (by rw [b0]; decide), if_neg (by rw [b0]; decide), if_pos ⟨hH, by omega⟩, b4, b5, zfj _ (by omega), zfj _ (by omega), if_neg (by omega), show (16 * ((c.toNat / 16 : Nat) : Int) + ((c.toNat % 16 : Nat) : Int)).toNat = c.toNat by omega, show UInt8.ofNat c.toNat = c by simp]
        exact ih _ _ hE (by simp)
      · have hE : zez c = [c] := by unfold zez; rw [hO]; simp only; rw [if_neg h32]
        rw [hE] at hz hs2
        obtain ⟨h1, h2⟩ := zeM hO
        have b0 : bAt s (a.length : Nat) = (c.toNat : Int) := by rw [hs2]; exact yD a c _
        rw [xT, if_neg (by simp at hz; omega), if_neg (by rw [b0]; intro h; exact h1 (wZ.1 h)), if_pos (by rw [b0]; intro h; exact h2 (wZ.1 h)), b0]
        rw [show UInt8.ofNat ((c.toNat : Int)).toNat = c by simp]
        exact ih _ _ hE (by simp)
theorem zc5 : ∀ l : List UInt8, l.length ≤ (yB l).length
  | [] => by simp
  | c :: l => by
    have := zeH c
    have := zc5 l
    simp only [yB, List.length_append, List.length_cons]; omega
theorem jE (a : List UInt8) (t : ByteArray) (b : List UInt8) : zW (ofL (a ++ (jQ t ++ b))) a.length = (t, ((a ++ jQ t).length : Int)) := by
  unfold zW
  have e : ofL (a ++ (jQ t ++ b)) = ofL ((a ++ [34]) ++ (yB t.data.toList ++ 34 :: b)) := by simp [jQ]
  have hl := zc5 t.data.toList
  have hd : t.data.toList.length = t.size := by rw [Array.length_toList]; rfl
  have := zc3 (ofL (a ++ (jQ t ++ b))) t.data.toList ((ofL (a ++ (jQ t ++ b))).size + 1) [] (a ++ [34]) b (by rw [zx]; simp [jQ]; omega) e
  rw [show a.length + 1 = (a ++ [34]).length by simp, this]
  refine Prod.ext (by simp [ofL]) ?_
  simp [jQ]; omega
end Go.AL
namespace Go.AL
open Go Go.RowKit Go.Lib
theorem zd0 : ∀ (a b : List UInt8) (u : Nat), zax (a ++ b) u = zax b (zax a u)
  | [], b, u => rfl
  | c :: a, b, u => by simp only [List.cons_append, zax, zd0 a b]
theorem zbF : ∀ u : Nat, zax (decDigits u) 0 = u := by
  intro u
  induction u using Nat.strongRecOn with
  | ind u ih =>
    by_cases h : u < 10
    · rw [decDigits, dif_pos h]
      simp only [zax, zbI u h]; omega
    · rw [decDigits, dif_neg h, zd0, ih (u / 10) (by omega)]
      simp only [zax, zbI (u % 10) (by omega)]; omega
theorem zbs : ∀ (k u : Nat), u < 10 ^ (k + 1) → (decDigits u).length ≤ k + 1
  | 0, u, h => by rw [decDigits, dif_pos (by simpa using h)]; simp
  | k + 1, u, h => by
    by_cases h1 : u < 10
    · rw [decDigits, dif_pos h1]; simp
    · rw [decDigits, dif_neg h1, List.length_append]
      have := zbs k (u / 10) (by rw [Nat.pow_succ] at h; omega)
      simp only [List.length_singleton]; omega
theorem zgq (l t : List UInt8) (h : ∀ c ∈ l, jm c = true) (ht : vV t) : (l ++ t).takeWhile jm = l := by
  induction l with
  | nil =>
    cases t with
    | nil => rfl
    | cons c t =>
      have := ht c rfl
      have h2 : jm c = false := by
        unfold xY at this
        simp only [Bool.or_eq_false_iff] at this
        exact this.2
      simp [List.takeWhile_cons, h2]
  | cons c l ih =>
    rw [List.cons_append, List.takeWhile_cons, h c (by simp), if_pos rfl, ih fun c hc => h c (by simp [hc])]
theorem zkO (u : Nat) : ∀ c ∈ decDigits u, jm c = true := fun c hc => by
  have := zci u c hc
  unfold jm
  simp [this]
theorem zfr (a : List UInt8) (u : Nat) (t : List UInt8) (ht : vV t) (n : Nat) (hn : n = a.length) : kC (ofL (a ++ (decDigits u ++ t))) n = decDigits u := by
  subst hn
  unfold kC
  rw [yV, List.drop_left]
  exact zgq _ _ (zkO u) ht
theorem zgK (a : List UInt8) (n : Int) (t : List UInt8) (h0 : -9223372036854775808 ≤ n) (h1 : n ≤ 9223372036854775807) (ht : vV t) : qE (ofL (a ++ (itoa n ++ t))) a.length = (wV n, ((a ++ itoa n).length : Int)) := by
  by_cases hn : n < 0
  · have e : itoa n = 45 :: decDigits n.natAbs := by unfold itoa; rw [if_pos hn]
    rw [e]
    have hb : bAt (ofL (a ++ (45 :: decDigits n.natAbs ++ t))) (a.length : Nat) = 45 := by rw [List.cons_append]; exact yD a 45 _
    have hd : kC (ofL (a ++ (45 :: decDigits n.natAbs ++ t))) (zcG (ofL (a ++ (45 :: decDigits n.natAbs ++ t))) a.length) = decDigits n.natAbs := by
      unfold zcG
      rw [if_pos hb, show a ++ (45 :: decDigits n.natAbs ++ t) = (a ++ [45]) ++ (decDigits n.natAbs ++ t) by simp]
      exact zfr _ _ _ ht _ (by simp)
    have hl := zbs 18 n.natAbs (by omega)
    have hp := List.length_pos_iff.2 (zb1 n.natAbs)
    unfold qE
    rw [hd, zbF, if_neg (by omega), if_neg (by rw [hb]; omega), if_pos hb]
    unfold zcG
    rw [if_pos hb]
    refine Prod.ext ?_ ?_
    · show wV (-((n.natAbs : Nat) : Int)) = wV n
      congr 1; omega
    · simp; omega
  · have e : itoa n = decDigits n.toNat := by unfold itoa; rw [if_neg hn]
    rw [e]
    obtain ⟨c, l, hcl⟩ : ∃ c l, decDigits n.toNat = c :: l := by
      cases h : decDigits n.toNat with
      | nil => exact absurd h (zb1 _)
      | cons c l => exact ⟨c, l, rfl⟩
    have hc := zci n.toNat c (by rw [hcl]; simp)
    have hb : ¬ bAt (ofL (a ++ (decDigits n.toNat ++ t))) (a.length : Nat) = 45 := by
      rw [hcl, List.cons_append, yD]; omega
    have hd : kC (ofL (a ++ (decDigits n.toNat ++ t))) (zcG (ofL (a ++ (decDigits n.toNat ++ t))) a.length) = decDigits n.toNat := by
      unfold zcG
      rw [if_neg hb]
      exact zfr _ _ _ ht _ rfl
    have hl := zbs 18 n.toNat (by omega)
    have hp := List.length_pos_iff.2 (zb1 n.toNat)
    unfold qE
    rw [hd, zbF, if_neg (by omega), if_neg (by omega), if_neg hb]
    unfold zcG
    rw [if_neg hb]
    refine Prod.ext ?_ ?_
    · show wV ((n.toNat : Nat) : Int) = wV n
      congr 1; omega
    · simp
def zos (s : ByteArray) (val : Nat → Nd × Int) (x : Nd) : Prop := ∀ a t : List UInt8, vV t → s = ofL (a ++ (x.jb ++ t)) → val a.length = (x, ((a ++ x.jb).length : Int))
theorem zhN (s : ByteArray) (val : Nat → Nd × Int) : ∀ (xs : List Nd) (c : Nat) (ns : List ByteArray) (acc : List Nd) (a t : List UInt8), xs ≠ [] → xs.length ≤ c → acc.length + xs.length ≤ 256 → (∀ x ∈ xs, (∃ c l, x.jb = c :: l ∧ c ≠ 93 ∧ c ≠ 44) ∧ zos s val x) →
    s = ofL (a ++ (Nd.jbs true xs ++ 93 :: t)) → xv val s 4 93 c ns acc a.length = (.mk 4 false 0 eS ns (acc ++ xs), ((a ++ Nd.jbs true xs).length : Int) + 1)
  | [], c, ns, acc, a, t, h, _, _, _, _ => absurd rfl h
  | x :: xs, c, ns, acc, a, t, _, hc, hacc, h, hs => by
    obtain ⟨c, rfl⟩ : ∃ g, c = g + 1 := ⟨c - 1, by simp at hc; omega⟩
    obtain ⟨⟨d, l, hdl, hd1, hd2⟩, hx⟩ := h x (by simp)
    have hs1 : s = ofL (a ++ (x.jb ++ (Nd.jbs false xs ++ 93 :: t))) := by rw [hs]; simp [Nd.jbs]
    have hX := hx a (Nd.jbs false xs ++ 93 :: t) (zdG true xs 93 rfl t) hs1
    have hb : ¬ bAt s (a.length : Nat) = 93 := by
      rw [hs1, hdl, List.cons_append, yD]
      intro h; exact hd1 (wZ.1 h)
    have hz : s.size = (a ++ x.jb).length + (Nd.jbs false xs ++ 93 :: t).length := by rw [hs1, zx]; simp; omega
    rw [xv, if_neg (fun h => hb h.2.1), if_neg (by decide)]
    unfold zaz
    rw [hX]
    simp only
    cases xs with
    | nil =>
      have hb2 : bAt s (((a ++ x.jb).length : Nat) : Int) = 93 := by
        rw [hs1, show a ++ (x.jb ++ (Nd.jbs false [] ++ 93 :: t)) = (a ++ x.jb) ++ 93 :: t by simp [Nd.jbs]]
        exact yD _ 93 _
      rw [if_neg (by simp [Nd.jbs] at hz ⊢; omega), if_pos hb2]
      simp [Nd.jbs]
    | cons y ys =>
      have hb2 : bAt s (((a ++ x.jb).length : Nat) : Int) = 44 := by
        rw [hs1, show a ++ (x.jb ++ (Nd.jbs false (y :: ys) ++ 93 :: t)) = (a ++ x.jb) ++ 44 :: (Nd.jbs true (y :: ys) ++ 93 :: t) by simp [Nd.jbs]]
        exact yD _ 44 _
      have ih := zhN s val (y :: ys) c ns (acc ++ [x]) (a ++ x.jb ++ [44]) t (by simp) (by simp at hc ⊢; omega) (by simp at hacc ⊢; omega) (fun z hz => h z (by simp at hz ⊢; right; exact hz)) (by rw [hs1]; simp [Nd.jbs])
      rw [if_neg (by simp [Nd.jbs] at hz ⊢; omega), if_neg (by rw [hb2]; decide), if_neg (by rw [hb2]; simp at hacc ⊢; omega)]
      rw [show (((a ++ x.jb).length : Nat) : Int).toNat + 1 = (a ++ x.jb ++ [44]).length by simp; omega, ih]
      simp [Nd.jbs] <;> omega
theorem zhf (s : ByteArray) (val : Nat → Nd × Int) : ∀ (ss : List ByteArray) (xs : List Nd) (c : Nat) (ns : List ByteArray) (acc : List Nd) (a t : List UInt8), xs ≠ [] → ss.length = xs.length → xs.length ≤ c → acc.length + xs.length ≤ 256 → (∀ x ∈ xs, zos s val x) →
    s = ofL (a ++ (Nd.jbm true ss xs ++ 125 :: t)) → xv val s 5 125 c ns acc a.length = (.mk 5 false 0 eS (ns ++ ss) (acc ++ xs), ((a ++ Nd.jbm true ss xs).length : Int) + 1)
  | ss, [], c, ns, acc, a, t, h, _, _, _, _, _ => absurd rfl h
  | [], x :: xs, c, ns, acc, a, t, _, hl, _, _, _, _ => by simp at hl
  | n :: ss, x :: xs, c, ns, acc, a, t, _, hl, hc, hacc, h, hs => by
    obtain ⟨c, rfl⟩ : ∃ g, c = g + 1 := ⟨c - 1, by simp at hc; omega⟩
    have hx := h x (by simp)
    have hs1 : s = ofL ((a ++ jQ n ++ [58]) ++ (x.jb ++ (Nd.jbm false ss xs ++ 125 :: t))) := by rw [hs]; simp [Nd.jbm]
    have hs0 : s = ofL (a ++ (jQ n ++ (58 :: (x.jb ++ (Nd.jbm false ss xs ++ 125 :: t))))) := by rw [hs]; simp [Nd.jbm]
    have hX := hx (a ++ jQ n ++ [58]) (Nd.jbm false ss xs ++ 125 :: t) (zcy ss xs 125 rfl t) hs1
    have hQ : zW s a.length = (n, ((a ++ jQ n).length : Int)) := by rw [hs0]; exact jE a n _
    have hb : bAt s (a.length : Nat) = 34 := by
      rw [hs0, show a ++ (jQ n ++ (58 :: (x.jb ++ (Nd.jbm false ss xs ++ 125 :: t)))) = a ++ 34 :: (yB n.data.toList ++ [34] ++ (58 :: (x.jb ++ (Nd.jbm false ss xs ++ 125 :: t)))) by simp [jQ]]
      exact yD a 34 _
    have hb58 : bAt s (((a ++ jQ n).length : Nat) : Int) = 58 := by
      rw [hs0, show a ++ (jQ n ++ (58 :: (x.jb ++ (Nd.jbm false ss xs ++ 125 :: t)))) = (a ++ jQ n) ++ 58 :: (x.jb ++ (Nd.jbm false ss xs ++ 125 :: t)) by simp]
      exact yD _ 58 _
    have hz : s.size = (a ++ jQ n ++ [58] ++ x.jb).length + (Nd.jbm false ss xs ++ 125 :: t).length := by rw [hs1, zx]; simp; omega
    have hz1 : a.length < s.size := by rw [hz]; simp; omega
    have hz2 : (a ++ jQ n).length < s.size := by rw [hz]; simp; omega
    rw [xv, if_neg (fun h => by rw [hb] at h; exact absurd h.2.1 (by decide)), if_pos rfl, if_neg (by rw [hb]; simp; omega), hQ]
    simp only
    rw [if_neg (by rw [hb58]; omega)]
    unfold zaz
    rw [show (((a ++ jQ n).length : Nat) : Int).toNat + 1 = (a ++ jQ n ++ [58]).length by simp; omega, hX]
    simp only
    cases xs with
    | nil =>
      have : ss = [] := List.eq_nil_of_length_eq_zero (by simpa using hl)
      subst this
      have hb2 : bAt s (((a ++ jQ n ++ [58] ++ x.jb).length : Nat) : Int) = 125 := by
        rw [hs1, show (a ++ jQ n ++ [58]) ++ (x.jb ++ (Nd.jbm false [] [] ++ 125 :: t)) = (a ++ jQ n ++ [58] ++ x.jb) ++ 125 :: t by simp [Nd.jbm]]
        exact yD _ 125 _
      have hz3 : (a ++ jQ n ++ [58] ++ x.jb).length < s.size := by rw [hz, @List.length_append _ (Nd.jbm false [] []) _]; simp only [List.length_cons]; omega
      rw [if_neg (by omega), if_pos hb2]
      simp [Nd.jbm] <;> omega
    | cons y ys =>
      obtain ⟨m, ms, rfl⟩ : ∃ m ms, ss = m :: ms := by
        cases ss with
        | nil => simp at hl
        | cons m ms => exact ⟨m, ms, rfl⟩
      have hb2 : bAt s (((a ++ jQ n ++ [58] ++ x.jb).length : Nat) : Int) = 44 := by
        rw [hs1, show (a ++ jQ n ++ [58]) ++ (x.jb ++ (Nd.jbm false (m :: ms) (y :: ys) ++ 125 :: t)) = (a ++ jQ n ++ [58] ++ x.jb) ++ 44 :: (Nd.jbm true (m :: ms) (y :: ys) ++ 125 :: t) by simp [Nd.jbm]]
        exact yD _ 44 _
      have hz3 : (a ++ jQ n ++ [58] ++ x.jb).length < s.size := by rw [hz]; simp [Nd.jbm]
      have ih := zhf s val (m :: ms) (y :: ys) c (ns ++ [n]) (acc ++ [x]) (a ++ jQ n ++ [58] ++ x.jb ++ [44]) t (by simp) (by simpa using hl) (by simp at hc ⊢; omega) (by simp at hacc ⊢; omega) (fun z hz => h z (by simp at hz ⊢; right; exact hz)) (by rw [hs1]; simp [Nd.jbm])
      rw [if_neg (by omega), if_neg (by rw [hb2]; decide), if_neg (by rw [hb2]; simp at hacc ⊢; omega)]
      have hm : (((a ++ jQ n ++ [58] ++ x.jb).length : Nat) : Int).toNat + 1 = (a ++ jQ n ++ [58] ++ x.jb ++ [44]).length := by
        rw [Int.toNat_natCast, @List.length_append _ (a ++ jQ n ++ [58] ++ x.jb) _]; rfl
      rw [hm, ih]
      simp [Nd.jbm] <;> omega
end Go.AL
