/- What functions of the program and of the document answer, and the plain laws behind it; each under the conditions that its own theorem names. -/
import Derived.Test.YtmidabiehblekaaGreatDoorTl
import Derived.Test.YtmidabiehblekaaGreatDoorAl3
import Derived.Test.YtmidabiehblekaaGreatDoorTk
import Derived.Test.YtmidabiehblekaaGreatDoorTj
import Derived.Test.YtmidabiehblekaaGreatDoorTi
import Derived.Test.YtmidabiehblekaaGreatDoorTe
import Derived.Test.YtmidabiehblekaaGreatDoorAl4
import Derived.Test.YtmidabiehblekaaGreatDoorTc
import Derived.Lib.ItoaNum
set_option linter.unusedVariables false
namespace Go.AL
open Go Go.Proofs Go.RowKit
set_option maxHeartbeats 32000000 in
theorem zdu (s : ByteArray) (hs : s.size ≤ 1000000) : ∀ (d : Nat), d ≤ 1000 → ∀ p : Nat, p ≤ 1000000 → Spec Tryz.prog 109 [.t (.str s), .t (.int .i64 (p : Int)), .t (.int .i64 (d : Int))] [] (.tup [.t (y5 s d p).1.toT, .t (.int .i64 (y5 s d p).2)]) []
  | 0, hd, p, hp => by
    rw [y5]
    simp only
    rw [zJ]
    refine wI Tryz.func109 ?_
    repeat' (first | refine wC ?_ | refine wK ?_ | fail)
    all_goals try (exfalso; omega)
    all_goals exact wE
  | d + 1, hd, p, hp => by
    have IH := zdu s hs d (by omega)
    have hz : Nd.zero.toT = .agg [.int .i64 0, .bool false, .int .i64 0, .str ⟨#[]⟩, .sl 1 [], .sl 6 []] := zJ
    have w4 : IntKind.i64.wrap ((p : Int) + 4) = (p : Int) + 4 := zr (by omega) (by omega)
    have w5 : IntKind.i64.wrap ((p : Int) + 5) = (p : Int) + 5 := zr (by omega) (by omega)
    rw [y5]
    by_cases h0 : s.size ≤ p
    · rw [if_pos h0]
      clear IH
      simp only
      rw [hz]
      refine wI Tryz.func109 ?_
      repeat' (first | refine wC ?_ | (exfalso; omega) | refine wK ?_ | refine zd rfl ?_ ?_ <;> intro hc)
      all_goals try (exfalso; omega)
      all_goals exact wE
    rw [if_neg h0]
    have n0 : Spec Tryz.prog 178 [.t (.str s), .t (.int .i64 (p : Int)), .t (.str ⟨#[110, 117, 108, 108]⟩)] [] (.t (.bool (kZ s p vA))) [] := jS s p vA (by omega) (by omega) (by decide)
    cases e0 : kZ s p vA with
    | true =>
      rw [if_pos rfl]
      rw [e0] at n0
      clear IH
      simp only
      rw [hz, ← w4]
      refine wI Tryz.func109 ?_
      repeat' (first | refine wC ?_ | (exfalso; omega) | refine wK ?_ | ((with_reducible refine ze ?_); refine wL n0 ?_) | refine zd rfl ?_ ?_ <;> intro hc)
      all_goals try (exfalso; omega)
      all_goals exact wE
    | false =>
    rw [if_neg (by simp)]
    rw [e0] at n0
    clear e0
    have n1 : Spec Tryz.prog 178 [.t (.str s), .t (.int .i64 (p : Int)), .t (.str ⟨#[116, 114, 117, 101]⟩)] [] (.t (.bool (kZ s p qo))) [] := jS s p qo (by omega) (by omega) (by decide)
    cases e1 : kZ s p qo with
    | true =>
      rw [if_pos rfl]
      rw [e1] at n1
      clear IH
      simp only
      rw [Nd.toT_eq, ← w4]
      refine wI Tryz.func109 ?_
      repeat' (first | refine wC ?_ | (exfalso; omega) | refine wK ?_ | ((with_reducible refine ze ?_); first | refine wL n0 ?_ | refine wL n1 ?_) | refine zd rfl ?_ ?_ <;> intro hc)
      all_goals try (exfalso; omega)
      all_goals exact wE
    | false =>
    rw [if_neg (by simp)]
    rw [e1] at n1
    clear e1
    have n2 : Spec Tryz.prog 178 [.t (.str s), .t (.int .i64 (p : Int)), .t (.str ⟨#[102, 97, 108, 115, 101]⟩)] [] (.t (.bool (kZ s p wO))) [] := jS s p wO (by omega) (by omega) (by decide)
    cases e2 : kZ s p wO with
    | true =>
      rw [if_pos rfl]
      rw [e2] at n2
      clear IH
      simp only
      rw [Nd.toT_eq, ← w5]
      refine wI Tryz.func109 ?_
      repeat' (first | refine wC ?_ | (exfalso; omega) | refine wK ?_ | ((with_reducible refine ze ?_); first | refine wL n0 ?_ | refine wL n1 ?_ | refine wL n2 ?_) | refine zd rfl ?_ ?_ <;> intro hc)
      all_goals try (exfalso; omega)
      all_goals exact wE
    | false =>
    rw [if_neg (by simp)]
    rw [e2] at n2
    clear e2
    by_cases h34 : bAt s (p : Nat) = 34
    · rw [if_pos h34]
      clear IH
      have hQ := zaG s p hs hp
      generalize zW s p = T at hQ ⊢
      obtain ⟨t, q⟩ := T
      have hX := k5 t
      simp only at hQ ⊢
      rw [(Nd.mk 3 false 0 t [] []).toT_full]
      refine wI Tryz.func109 ?_
      repeat' (first | refine wC ?_ | (exfalso; omega) | refine wK ?_ | ((with_reducible refine zy ?_); refine zf rfl rfl rfl rfl rfl rfl ?_ ?_ ?_) | ((with_reducible refine ze ?_); first | refine wL n0 ?_ | refine wL n1 ?_ | refine wL n2 ?_ | refine wL hQ ?_ | refine wL hX ?_) | refine zd rfl ?_ ?_ <;> intro hc)
      all_goals try (exfalso; omega)
      all_goals try omega
      all_goals exact wE
    rw [if_neg h34]
    by_cases h91 : bAt s (p : Nat) = 91
    · rw [if_pos h91]
      have hL := zdO s hs d (by omega) IH 4 (by omega) 93 p (by omega)
      clear IH
      generalize xv (y5 s d) s 4 93 258 [] [] (p + 1) = y at hL ⊢
      obtain ⟨x, q⟩ := y
      have hx := x.toT_full
      simp only at hL ⊢
      rw [hx] at hL ⊢
      refine wI Tryz.func109 ?_
      repeat' (first | refine wC ?_ | (exfalso; omega) | refine wK ?_ | ((with_reducible refine zy ?_); refine zf rfl rfl rfl rfl rfl rfl ?_ ?_ ?_) | ((with_reducible refine ze ?_); first | refine wL n0 ?_ | refine wL n1 ?_ | refine wL n2 ?_ | refine wL hL ?_) | refine zd rfl ?_ ?_ <;> intro hc)
      all_goals try (exfalso; omega)
      all_goals try omega
      all_goals exact wE
    rw [if_neg h91]
    by_cases h123 : bAt s (p : Nat) = 123
    · rw [if_pos h123]
      have hL := zdO s hs d (by omega) IH 5 (by omega) 125 p (by omega)
      clear IH
      generalize xv (y5 s d) s 5 125 258 [] [] (p + 1) = y at hL ⊢
      obtain ⟨x, q⟩ := y
      have hx := x.toT_full
      simp only at hL ⊢
      rw [hx] at hL ⊢
      refine wI Tryz.func109 ?_
      repeat' (first | refine wC ?_ | (exfalso; omega) | refine wK ?_ | ((with_reducible refine zy ?_); refine zf rfl rfl rfl rfl rfl rfl ?_ ?_ ?_) | ((with_reducible refine ze ?_); first | refine wL n0 ?_ | refine wL n1 ?_ | refine wL n2 ?_ | refine wL hL ?_) | refine zd rfl ?_ ?_ <;> intro hc)
      all_goals try (exfalso; omega)
      all_goals try omega
      all_goals exact wE
    rw [if_neg h123]
    clear IH
    have hN := ziE s p hs (by omega)
    generalize qE s p = y at hN ⊢
    obtain ⟨x, q⟩ := y
    have hx := x.toT_full
    simp only at hN ⊢
    rw [hx] at hN ⊢
    refine wI Tryz.func109 ?_
    repeat' (first | refine wC ?_ | (exfalso; omega) | refine wK ?_ | ((with_reducible refine zy ?_); refine zf rfl rfl rfl rfl rfl rfl ?_ ?_ ?_) | ((with_reducible refine ze ?_); first | refine wL n0 ?_ | refine wL n1 ?_ | refine wL n2 ?_ | refine wL hN ?_) | refine zd rfl ?_ ?_ <;> intro hc)
    all_goals try (exfalso; omega)
    all_goals try omega
    all_goals exact wE
set_option maxHeartbeats 8000000 in
theorem zi7 {oF oA oP : Obj} {V : ByteArray → Bool} (hS : xH oF oA V) (hPw : y3 .u64 Lib.pow10Tab oP) (s : ByteArray) (hs : s.size ≤ 1000000) : Spec Tryz.prog 55 [.t (.str s)] [(.par 100, .dat (.fix 0 oF)), (.par 101, .dat (.fix 1 oA)), (.par 102, .dat (.fix 2 oP))] (.tup [.t (kH jsC V s).1.toT, .t (.int .i64 (kH jsC V s).2)]) [(.par 100, .dat (.fix 0 oF)), (.par 101, .dat (.fix 1 oA)), (.par 102, .dat (.fix 2 oP))] := by
  rw [← zl3]
  unfold zm0
  by_cases h0 : 65536 < s.size
  · rw [if_pos h0]
    have h0' : (65536 : Int) < (s.size : Int) := by omega
    simp only
    rw [zJ]
    refine wI Tryz.func55 ?_
    repeat' (first | refine wC ?_ | refine wK ?_ | ((with_reducible refine ze ?_); exact absurd h0' ‹_›) | refine zd rfl ?_ ?_ <;> intro hc)
    exact wE
  · rw [if_neg h0]
    have hW : Spec Tryz.prog 109 [.t (.str s), .t (.int .i64 0), .t (.int .i64 8)] [] (.tup [.t (y5 s 8 0).1.toT, .t (.int .i64 (y5 s 8 0).2)]) [] := zdu s (by omega) 8 (by omega) 0 (by omega)
    have hgd := kp s 8 0
    obtain ⟨ox, glo, gg⟩ := hgd
    try simp only at ox glo gg
    have hT := (y5 s 8 0).1.toT_full
    have hVa := x7 hS _ ox
    have hWr := fun (h : (y5 s 8 0).2 ≠ -1) (hv : (y5 s 8 0).1.validB V 8 = true) => vr hPw (y5 s 8 0).1 8 hv (gg h).2.2.2 (by have := gg h; omega)
    generalize y5 s 8 0 = y at *
    obtain ⟨x, q⟩ := y
    simp only at hW hT hVa hWr glo ⊢
    rw [hT] at hW hVa
    have hq : ((s.size : Int) = q) = (q = (s.size : Int)) := propext ⟨Eq.symm, Eq.symm⟩
    by_cases hc1 : q = s.size
    · subst hc1
      have hWr := hWr (by omega)
      cases hv : x.validB V 8 with
      | false =>
        rw [hv] at hVa
        rw [if_neg (by simp)]
        simp only
        rw [zJ]
        refine wI Tryz.func55 ?_
        repeat' (first | refine wC ?_ | refine wK ?_ | ((with_reducible refine ze ?_); first | refine wL hW ?_ | refine wN (.t (.bool false)) [] hVa ?_) | refine zd rfl ?_ ?_ <;> intro hc | refine zN rfl ?_ ?_ <;> intro hc)
        all_goals try (exact absurd hc hw)
        all_goals try (exfalso; omega)
        all_goals exact wE
      | true =>
        rw [hv] at hVa
        have hWr := hWr hv
        rw [hT] at hWr
        generalize ofL x.jb = w at hWr ⊢
        by_cases hw : w = s
        · rw [if_pos ⟨rfl, rfl, hw⟩]
          rw [hw] at hWr
          clear hw
          simp only
          rw [hT]
          refine wI Tryz.func55 ?_
          repeat' (first | refine wC ?_ | refine wK ?_ | ((with_reducible refine ze ?_); first | refine wL hW ?_ | refine wN (.t (.bool true)) [] hVa ?_ | refine wN (.t (.str _)) [] hWr ?_) | refine zd rfl ?_ ?_ <;> intro hc | refine zS rfl ?_ ?_ <;> intro hc | refine zN rfl ?_ ?_ <;> intro hc)
          all_goals try (exact absurd h0 (by omega))
          · exact wE
          all_goals exact absurd rfl hc
        · rw [if_neg (fun h => hw h.2.2)]
          simp only
          rw [zJ]
          refine wI Tryz.func55 ?_
          repeat' (first | refine wC ?_ | refine wK ?_ | ((with_reducible refine ze ?_); first | refine wL hW ?_ | refine wN (.t (.bool true)) [] hVa ?_ | refine wN (.t (.str _)) [] hWr ?_) | refine zd rfl ?_ ?_ <;> intro hc | refine zS rfl ?_ ?_ <;> intro hc | refine zN rfl ?_ ?_ <;> intro hc)
          all_goals try (exact absurd hc hw)
          all_goals try (exfalso; omega)
          all_goals exact wE
    · rw [if_neg (fun h => hc1 h.1)]
      simp only
      rw [zJ]
      refine wI Tryz.func55 ?_
      repeat' (first | refine wC ?_ | refine wK ?_ | ((with_reducible refine ze ?_); first | refine wL hW ?_ | exact absurd ‹_› hc1) | refine zd rfl ?_ ?_ <;> intro hc | refine zN rfl ?_ ?_ <;> intro hc)
      all_goals try (exact absurd hc hw)
      all_goals try (exfalso; omega)
      all_goals exact wE
set_option maxHeartbeats 16000000 in
theorem zeS (s : ByteArray) (hs : s.size ≤ 1000000000) : ∀ (d : Nat), d ≤ 1000 → ∀ p : Nat, p ≤ s.size → Spec Tryz.prog 110 [.t (.str s), .t (.int .i64 (p : Int)), .t (.int .i64 (d : Int))] [] (.tup [.t (jY s d p).1.toT, .t (.int .i64 (jY s d p).2)]) []
  | 0, hd, p, hp => by
    rw [jY]
    simp only
    rw [zJ]
    refine wI Tryz.func110 ?_
    repeat' (first | refine wC ?_ | refine wK ?_ | fail)
    all_goals try (exfalso; omega)
    exact wE
  | d + 1, hd, p, hp => by
    have IH := zeS s hs d (by omega)
    rw [jY]
    by_cases h0 : s.size ≤ p
    · rw [if_pos h0]
      have h0' : (s.size : Int) ≤ (p : Int) := by omega
      simp only
      rw [zJ]
      refine wI Tryz.func110 ?_
      repeat' (first | refine wC ?_ | refine wK ?_ | ((with_reducible refine zy ?_); refine zf rfl rfl rfl rfl rfl rfl ?_ ?_ ?_) | ((with_reducible refine ze ?_); exact absurd h0' ‹_›) | refine zd rfl ?_ ?_ <;> intro hc)
      all_goals try (exfalso; omega)
      exact wE
    · rw [if_neg h0]
      have hR := zal s hs p hp
      have hg := vM (s := s) (p := p)
      have hlo := zfs s p
      obtain ⟨b, hb⟩ : ∃ b, bAt s (p : Int) = b := ⟨_, rfl⟩
      by_cases hb1 : b = 244
      · subst hb1
        rw [hb, if_pos (.inl rfl)]
        simp only
        rw [Nd.toT_eq]
        refine wI Tryz.func110 ?_
        repeat' (first | refine wC ?_ | refine wK ?_ | ((with_reducible refine zy ?_); refine zf rfl rfl rfl rfl rfl rfl ?_ ?_ ?_) | ((with_reducible refine ze ?_); exact absurd hb ‹_›) | refine zd rfl ?_ ?_ <;> intro hc)
        all_goals try (exfalso; omega)
        all_goals try omega
        rw [hb]
        refine zp ?_ (zc trivial); refine zF rfl rfl rfl inferInstance rfl inferInstance rfl ?_ ?_; exact TLe.av wT; exact AVLE.of_eq (congrArg (fun n => AV.t (T.int .i64 n)) (zr (by omega) (by omega)))
      by_cases hb2 : b = 245
      · subst hb2
        rw [hb, if_pos (.inr rfl)]
        simp only
        rw [Nd.toT_eq]
        refine wI Tryz.func110 ?_
        repeat' (first | refine wC ?_ | refine wK ?_ | ((with_reducible refine zy ?_); refine zf rfl rfl rfl rfl rfl rfl ?_ ?_ ?_) | ((with_reducible refine ze ?_); exact absurd hb ‹_›) | refine zd rfl ?_ ?_ <;> intro hc)
        all_goals try (exfalso; omega)
        all_goals try omega
        rw [hb]
        refine zp ?_ (zc trivial); refine zF rfl rfl rfl inferInstance rfl inferInstance rfl ?_ ?_; exact TLe.av wT; exact AVLE.of_eq (congrArg (fun n => AV.t (T.int .i64 n)) (zr (by omega) (by omega)))
      by_cases hb3 : b = 246
      · subst hb3
        rw [hb, if_neg (by omega), if_pos rfl]
        simp only
        rw [zJ]
        refine wI Tryz.func110 ?_
        repeat' (first | refine wC ?_ | refine wK ?_ | ((with_reducible refine zy ?_); refine zf rfl rfl rfl rfl rfl rfl ?_ ?_ ?_) | ((with_reducible refine ze ?_); exact absurd hb ‹_›) | refine zd rfl ?_ ?_ <;> intro hc)
        all_goals try (exfalso; omega)
        all_goals try omega
        refine zp ?_ (zc trivial); refine zF rfl rfl rfl inferInstance rfl inferInstance rfl ?_ ?_; exact TLe.av wT; exact AVLE.of_eq (congrArg (fun n => AV.t (T.int .i64 n)) (zr (by omega) (by omega)))
      rw [hb, if_neg (by omega), if_neg hb3]
      have hT := zdr s hs p hp
      have hsq := zlr s hs d (by omega) (jY s d) (jo s d) (fun q hq => IH q hq) p (by omega) b hb hb1 hb2 hb3
      generalize yN s p = h at hR hg hlo hsq ⊢
      obtain ⟨⟨m, n⟩, q⟩ := h
      simp only at hR hg hlo ⊢
      by_cases hq : q < 0
      · rw [if_pos (.inl hq)]
        simp only
        rw [zJ]
        refine wI Tryz.func110 ?_
        repeat' (first | refine wC ?_ | refine wK ?_ | ((with_reducible refine zy ?_); refine zf rfl rfl rfl rfl rfl rfl ?_ ?_ ?_) | ((with_reducible refine ze ?_); first | refine wL hR ?_ | exact absurd hq ‹_›) | refine zd rfl ?_ ?_ <;> intro hc | refine zj rfl ?_ ?_ <;> intro hc)
        all_goals try (exact absurd (hb.symm.trans hc) hb1)
        all_goals try (exact absurd (hb.symm.trans hc) hb2)
        all_goals try (exact absurd (hb.symm.trans hc) hb3)
        all_goals try (exfalso; omega)
        all_goals try omega
        exact wE
      obtain ⟨g1, g2, g3, g4, g5, g6, _⟩ := hg (by omega)
      clear hg hlo
      have hm : m = 0 ∨ m = 1 ∨ m = 2 ∨ m = 3 ∨ m = 4 ∨ m = 5 ∨ m = 6 ∨ m = 7 := by omega
      rcases hm with rfl | rfl | rfl | rfl | rfl | rfl | rfl | rfl
      · by_cases hn : 9223372036854775807 < n
        · rw [if_pos (.inr (.inr (.inr (.inl ⟨by decide, hn⟩))))]
          simp only
          rw [zJ]
          refine wI Tryz.func110 ?_
          repeat' (first | refine wC ?_ | refine wK ?_ | ((with_reducible refine zy ?_); refine zf rfl rfl rfl rfl rfl rfl ?_ ?_ ?_) | ((with_reducible refine ze ?_); first | refine wL hR ?_ | exact absurd hn ‹_›) | refine zd rfl ?_ ?_ <;> intro hc | refine zj rfl ?_ ?_ <;> intro hc)
          all_goals try (exact absurd (hb.symm.trans hc) hb1)
          all_goals try (exact absurd (hb.symm.trans hc) hb2)
          all_goals try (exact absurd (hb.symm.trans hc) hb3)
          all_goals try (exfalso; omega)
          all_goals try omega
          exact wE
        · rw [if_neg (by omega), if_pos rfl]
          have hN := y6 (i64 n)
          simp only
          rw [Nd.toT_eq]
          refine wI Tryz.func110 ?_
          repeat' (first | refine wC ?_ | refine wK ?_ | ((with_reducible refine zy ?_); refine zf rfl rfl rfl rfl rfl rfl ?_ ?_ ?_) | ((with_reducible refine ze ?_); first | refine wL hR ?_ | refine wL hN ?_) | refine zd rfl ?_ ?_ <;> intro hc | refine zj rfl ?_ ?_ <;> intro hc)
          all_goals try (exact absurd (hb.symm.trans hc) hb1)
          all_goals try (exact absurd (hb.symm.trans hc) hb2)
          all_goals try (exact absurd (hb.symm.trans hc) hb3)
          all_goals try (exfalso; omega)
          all_goals try omega
          exact wE
      · by_cases hn : 9223372036854775807 < n
        · rw [if_pos (.inr (.inr (.inr (.inl ⟨by decide, hn⟩))))]
          simp only
          rw [zJ]
          refine wI Tryz.func110 ?_
          repeat' (first | refine wC ?_ | refine wK ?_ | ((with_reducible refine zy ?_); refine zf rfl rfl rfl rfl rfl rfl ?_ ?_ ?_) | ((with_reducible refine ze ?_); first | refine wL hR ?_ | exact absurd hn ‹_›) | refine zd rfl ?_ ?_ <;> intro hc | refine zj rfl ?_ ?_ <;> intro hc)
          all_goals try (exact absurd (hb.symm.trans hc) hb1)
          all_goals try (exact absurd (hb.symm.trans hc) hb2)
          all_goals try (exact absurd (hb.symm.trans hc) hb3)
          all_goals try (exfalso; omega)
          all_goals try omega
          exact wE
        · rw [if_neg (by omega), if_neg (by decide), if_pos rfl]
          have hN := y6 (i64 (-1 - i64 n))
          simp only
          rw [Nd.toT_eq]
          refine wI Tryz.func110 ?_
          repeat' (first | refine wC ?_ | refine wK ?_ | ((with_reducible refine zy ?_); refine zf rfl rfl rfl rfl rfl rfl ?_ ?_ ?_) | ((with_reducible refine ze ?_); first | refine wL hR ?_ | refine wL hN ?_) | refine zd rfl ?_ ?_ <;> intro hc | refine zj rfl ?_ ?_ <;> intro hc)
          all_goals try (exact absurd (hb.symm.trans hc) hb1)
          all_goals try (exact absurd (hb.symm.trans hc) hb2)
          all_goals try (exact absurd (hb.symm.trans hc) hb3)
          all_goals try (exfalso; omega)
          all_goals try omega
          exact wE
      · rw [if_pos (by omega)]
        simp only
        rw [zJ]
        refine wI Tryz.func110 ?_
        repeat' (first | refine wC ?_ | refine wK ?_ | ((with_reducible refine zy ?_); refine zf rfl rfl rfl rfl rfl rfl ?_ ?_ ?_) | ((with_reducible refine ze ?_); refine wL hR ?_) | refine zd rfl ?_ ?_ <;> intro hc | refine zj rfl ?_ ?_ <;> intro hc)
        all_goals try (exact absurd (hb.symm.trans hc) hb1)
        all_goals try (exact absurd (hb.symm.trans hc) hb2)
        all_goals try (exact absurd (hb.symm.trans hc) hb3)
        all_goals try (exfalso; omega)
        all_goals try omega
        exact wE
      · rw [if_neg (by omega), if_neg (by decide), if_neg (by decide), if_pos rfl]
        generalize xG s p = z at hT ⊢
        obtain ⟨t, u⟩ := z
        have hN := k5 t
        simp only at hT ⊢
        rw [Nd.toT_eq]
        refine wI Tryz.func110 ?_
        repeat' (first | refine wC ?_ | refine wK ?_ | ((with_reducible refine zy ?_); refine zf rfl rfl rfl rfl rfl rfl ?_ ?_ ?_) | ((with_reducible refine ze ?_); first | refine wL hR ?_ | refine wL hT ?_ | refine wL hN ?_) | refine zd rfl ?_ ?_ <;> intro hc | refine zj rfl ?_ ?_ <;> intro hc)
        all_goals try (exact absurd (hb.symm.trans hc) hb1)
        all_goals try (exact absurd (hb.symm.trans hc) hb2)
        all_goals try (exact absurd (hb.symm.trans hc) hb3)
        all_goals try (exfalso; omega)
        all_goals try omega
        exact wE
      · by_cases hn : 256 < n
        · rw [if_pos (by omega)]
          simp only
          rw [zJ]
          refine wI Tryz.func110 ?_
          repeat' (first | refine wC ?_ | refine wK ?_ | ((with_reducible refine zy ?_); refine zf rfl rfl rfl rfl rfl rfl ?_ ?_ ?_) | ((with_reducible refine ze ?_); refine wL hR ?_) | refine zd rfl ?_ ?_ <;> intro hc | refine zj rfl ?_ ?_ <;> intro hc)
          all_goals try (exact absurd (hb.symm.trans hc) hb1)
          all_goals try (exact absurd (hb.symm.trans hc) hb2)
          all_goals try (exact absurd (hb.symm.trans hc) hb3)
          all_goals try (exfalso; omega)
          all_goals try omega
          exact wE
        · rw [if_neg (by omega), if_neg (by decide), if_neg (by decide), if_neg (by decide)]
          exact hsq 4 (by omega) n.toNat (by omega) q.toNat (by omega) (by rw [show ((n.toNat : Nat) : Int) = n by omega, show ((q.toNat : Nat) : Int) = q by omega]) _ rfl
      · by_cases hn : 256 < n
        · rw [if_pos (by omega)]
          simp only
          rw [zJ]
          refine wI Tryz.func110 ?_
          repeat' (first | refine wC ?_ | refine wK ?_ | ((with_reducible refine zy ?_); refine zf rfl rfl rfl rfl rfl rfl ?_ ?_ ?_) | ((with_reducible refine ze ?_); refine wL hR ?_) | refine zd rfl ?_ ?_ <;> intro hc | refine zj rfl ?_ ?_ <;> intro hc)
          all_goals try (exact absurd (hb.symm.trans hc) hb1)
          all_goals try (exact absurd (hb.symm.trans hc) hb2)
          all_goals try (exact absurd (hb.symm.trans hc) hb3)
          all_goals try (exfalso; omega)
          all_goals try omega
          exact wE
        · rw [if_neg (by omega), if_neg (by decide), if_neg (by decide), if_neg (by decide)]
          exact hsq 5 (by omega) n.toNat (by omega) q.toNat (by omega) (by rw [show ((n.toNat : Nat) : Int) = n by omega, show ((q.toNat : Nat) : Int) = q by omega]) _ rfl
      · rw [if_pos (by omega)]
        simp only
        rw [zJ]
        refine wI Tryz.func110 ?_
        repeat' (first | refine wC ?_ | refine wK ?_ | ((with_reducible refine zy ?_); refine zf rfl rfl rfl rfl rfl rfl ?_ ?_ ?_) | ((with_reducible refine ze ?_); refine wL hR ?_) | refine zd rfl ?_ ?_ <;> intro hc | refine zj rfl ?_ ?_ <;> intro hc)
        all_goals try (exact absurd (hb.symm.trans hc) hb1)
        all_goals try (exact absurd (hb.symm.trans hc) hb2)
        all_goals try (exact absurd (hb.symm.trans hc) hb3)
        all_goals try (exfalso; omega)
        all_goals try omega
        exact wE
      · rw [if_pos (by omega)]
        simp only
        rw [zJ]
        refine wI Tryz.func110 ?_
        repeat' (first | refine wC ?_ | refine wK ?_ | ((with_reducible refine zy ?_); refine zf rfl rfl rfl rfl rfl rfl ?_ ?_ ?_) | ((with_reducible refine ze ?_); refine wL hR ?_) | refine zd rfl ?_ ?_ <;> intro hc | refine zj rfl ?_ ?_ <;> intro hc)
        all_goals try (exact absurd (hb.symm.trans hc) hb1)
        all_goals try (exact absurd (hb.symm.trans hc) hb2)
        all_goals try (exact absurd (hb.symm.trans hc) hb3)
        all_goals try (exfalso; omega)
        all_goals try omega
        exact wE
set_option maxHeartbeats 8000000 in
theorem zkk {oF oA : Obj} {V : ByteArray → Bool} (hS : xH oF oA V) (s : ByteArray) (hs : s.size ≤ 1000000) : Spec Tryz.prog 56 [.t (.str s)] [(.par 100, .dat (.fix 0 oF)), (.par 101, .dat (.fix 1 oA))] (.tup [.t (zeG V s).1.toT, .t (.int .i64 (zeG V s).2)]) [(.par 100, .dat (.fix 0 oF)), (.par 101, .dat (.fix 1 oA))] := by
  rw [← zmP]
  unfold zoq
  by_cases h0 : 65536 < s.size
  · rw [if_pos h0]
    have h0' : (65536 : Int) < (s.size : Int) := by omega
    simp only
    rw [zJ]
    refine wI Tryz.func56 ?_
    repeat' (first | refine wC ?_ | refine wK ?_ | ((with_reducible refine ze ?_); exact absurd h0' ‹_›) | refine zd rfl ?_ ?_ <;> intro hc)
    exact wE
  · rw [if_neg h0]
    have hW := zeS s (by omega) 8 (by omega) 0 (by omega)
    have hgd := jo s 8 0
    obtain ⟨ox, glo, gg⟩ := hgd
    have hT := (jY s 8 0).1.toT_full
    have hVa := x7 hS _ ox
    have hWr := fun (h : (jY s 8 0).2 ≠ -1) (hv : (jY s 8 0).1.validB V 8 = true) => kP (jY s 8 0).1 8 hv (gg h).2.2.2 (by have := gg h; omega)
    generalize jY s 8 0 = y at *
    obtain ⟨x, q⟩ := y
    simp only at hW hT hVa hWr glo ⊢
    rw [hT] at hW hVa
    have hq : ((s.size : Int) = q) = (q = (s.size : Int)) := propext ⟨Eq.symm, Eq.symm⟩
    by_cases hc1 : q = s.size
    · subst hc1
      have hWr := hWr (by omega)
      cases hv : x.validB V 8 with
      | false =>
        rw [hv] at hVa
        rw [if_neg (by simp)]
        simp only
        rw [zJ]
        refine wI Tryz.func56 ?_
        repeat' (first | refine wC ?_ | refine wK ?_ | ((with_reducible refine ze ?_); first | refine wL hW ?_ | refine wN (.t (.bool false)) [] hVa ?_) | refine zd rfl ?_ ?_ <;> intro hc | refine zN rfl ?_ ?_ <;> intro hc)
        all_goals try (exact absurd hc hw)
        all_goals try (exfalso; omega)
        all_goals exact wE
      | true =>
        rw [hv] at hVa
        have hWr := hWr hv
        rw [hT] at hWr
        generalize ofL x.cb = w at hWr ⊢
        by_cases hw : w = s
        · rw [if_pos ⟨rfl, rfl, hw⟩]
          rw [hw] at hWr
          clear hw
          simp only
          rw [hT]
          refine wI Tryz.func56 ?_
          repeat' (first | refine wC ?_ | refine wK ?_ | ((with_reducible refine ze ?_); first | refine wL hW ?_ | refine wN (.t (.bool true)) [] hVa ?_ | refine wL hWr ?_) | refine zd rfl ?_ ?_ <;> intro hc | refine zS rfl ?_ ?_ <;> intro hc | refine zN rfl ?_ ?_ <;> intro hc)
          all_goals try (exact absurd h0 (by omega))
          · exact wE
          all_goals exact absurd rfl hc
        · rw [if_neg (fun h => hw h.2.2)]
          simp only
          rw [zJ]
          refine wI Tryz.func56 ?_
          repeat' (first | refine wC ?_ | refine wK ?_ | ((with_reducible refine ze ?_); first | refine wL hW ?_ | refine wN (.t (.bool true)) [] hVa ?_ | refine wL hWr ?_) | refine zd rfl ?_ ?_ <;> intro hc | refine zS rfl ?_ ?_ <;> intro hc | refine zN rfl ?_ ?_ <;> intro hc)
          all_goals try (exact absurd hc hw)
          all_goals try (exfalso; omega)
          all_goals exact wE
    · rw [if_neg (fun h => hc1 h.1)]
      simp only
      rw [zJ]
      refine wI Tryz.func56 ?_
      repeat' (first | refine wC ?_ | refine wK ?_ | ((with_reducible refine ze ?_); first | refine wL hW ?_ | exact absurd ‹_› hc1) | refine zd rfl ?_ ?_ <;> intro hc | refine zN rfl ?_ ?_ <;> intro hc)
      all_goals try (exact absurd hc hw)
      all_goals try (exfalso; omega)
      all_goals exact wE
def zfX (V : ByteArray → Bool) (k : Int) (x : Nd) : ByteArray × Int := if k = 1 then zim V x else if k = 2 then zdn V x else if k = 3 then za0 pkC V x else (eS, 2)
def zlD (V : ByteArray → Bool) (k : Int) (s : ByteArray) : Nd × Int := if k = 1 then kH jsC V s else if k = 2 then zeG V s else if k = 3 then kH pkC V s else (Nd.zero, 2)
theorem zjA {C : Codec} {V : ByteArray → Bool} (s : ByteArray) : (kH C V s).1.Ok := by
  unfold kH
  split
  · rename_i h; exact Nd.ok_of_valid _ 8 h.2.2.1
  · exact xw
theorem zmY {V : ByteArray → Bool} (s : ByteArray) : (zeG V s).1.Ok := by
  rcases zlR (V := V) s with h | ⟨x, h, hv, _, ho, _⟩
  · rw [h]; exact xw
  · rw [h]; exact ho
theorem zng (V : ByteArray → Bool) (k : Int) (s : ByteArray) : (zlD V k s).1.Ok := by
  unfold zlD
  split
  · exact zjA s
  · split
    · exact zmY s
    · split
      · exact zjA s
      · exact xw
structure FitsA (V : ByteArray → Bool) (x : Nd) : Prop where
  ok : x.Ok
  inn : x.In
  j : x.validB V 8 = true → x.jb.length ≤ 49999999
  c : x.validB V 8 = true → x.cb.length ≤ 49999999
  p : x.validB V 8 = true → x.pb.length ≤ 49999999
theorem ziP {oF oA oP : Obj} {V : ByteArray → Bool} (hS : xH oF oA V) (hP : y3 .u64 Lib.pow10Tab oP) (k : Int) (x : Nd) (h : FitsA V x) :
    Spec Tryz.prog 16 [.t (.int .i64 k), .t x.toT] [(.par 100, .dat (.fix 0 oF)), (.par 101, .dat (.fix 1 oA)), (.par 102, .dat (.fix 2 oP))] (.tup [.t (.str (zfX V k x).1), .t (.int .i64 (zfX V k x).2)]) [(.par 100, .dat (.fix 0 oF)), (.par 101, .dat (.fix 1 oA)), (.par 102, .dat (.fix 2 oP))] := by
  unfold zfX
  by_cases h1 : k = 1
  · subst h1; rw [if_pos rfl]
    exact ziJ 1 _ _ rfl x _ _ (zfc hS hP x h.ok h.inn h.j)
  rw [if_neg h1]
  by_cases h2 : k = 2
  · subst h2; rw [if_pos rfl]
    exact zdt 2 _ _ rfl x _ _ (zfE hS x h.ok h.inn h.c)
  rw [if_neg h2]
  by_cases h3 : k = 3
  · subst h3; rw [if_pos rfl]
    exact zdt 3 _ _ rfl x _ _ (jx hS x h.ok h.inn h.p)
  rw [if_neg h3]
  exact ziy k (by omega) x
theorem zin {oF oA oP oS oR : Obj} {V : ByteArray → Bool} (hS : xH oF oA V) (hP : y3 .u64 Lib.pow10Tab oP) (G : EOk oS oR) (k : Int) (s : ByteArray) (hs : s.size ≤ 1000000) :
    Spec Tryz.prog 20 [.t (.int .i64 k), .t (.str s)] [(.par 100, .dat (.fix 0 oF)), (.par 101, .dat (.fix 1 oA)), (.par 102, .dat (.fix 2 oP)), (.par 103, .dat (.fix 3 oS)), (.par 104, .dat (.fix 4 oR))] (.tup [.t (zlD V k s).1.toT, .t (.int .i64 (zlD V k s).2)]) [(.par 100, .dat (.fix 0 oF)), (.par 101, .dat (.fix 1 oA)), (.par 102, .dat (.fix 2 oP)), (.par 103, .dat (.fix 3 oS)), (.par 104, .dat (.fix 4 oR))] := by
  unfold zlD
  by_cases h1 : k = 1
  · subst h1; rw [if_pos rfl]
    exact zir 1 _ _ rfl s _ _ (zkJ hS hP G s hs)
  rw [if_neg h1]
  by_cases h2 : k = 2
  · subst h2; rw [if_pos rfl]
    exact zdS 2 _ _ rfl s _ _ (zkz hS s hs)
  rw [if_neg h2]
  by_cases h3 : k = 3
  · subst h3; rw [if_pos rfl]
    exact zdS 3 _ _ rfl s _ _ (zjq hS s hs)
  rw [if_neg h3]
  exact ziS k (by omega) s
set_option maxHeartbeats 4000000 in
theorem zit {oF oA oP : Obj} {V : ByteArray → Bool} (hS : xH oF oA V) (hP : y3 .u64 Lib.pow10Tab oP) (k : Int) (x : Nd) (h : FitsA V x) :
    Spec Tryz.prog 17 [.t (.int .i64 k), .t x.toT] [(.par 100, .dat (.fix 0 oF)), (.par 101, .dat (.fix 1 oA)), (.par 102, .dat (.fix 2 oP))] (.tup [.t (.str (zfX V k x).1), .t (.int .i64 (zfX V k x).2)]) [(.par 100, .dat (.fix 0 oF)), (.par 101, .dat (.fix 1 oA)), (.par 102, .dat (.fix 2 oP))] := by
  have hJ := zh7 hS hP x h.ok h.inn h.j
  have hC := zjE hS x h.ok h.inn h.c
  have hK := zkQ hS x h.ok h.inn h.p
  clear h
  unfold zfX
  rw [x.toT_full] at hJ hC hK ⊢
  generalize zim V x = rj at *
  generalize zdn V x = rc at *
  generalize za0 pkC V x = rk at *
  generalize x.kind = yk at *
  generalize x.bool = yb at *
  generalize x.num = yn at *
  generalize x.text = yt at *
  generalize x.names = ym at *
  generalize x.items = yi at *
  by_cases h1 : k = 1
  · rw [if_pos h1]
    refine wI Tryz.func17 ?_
    repeat' (first | refine wC ?_ | (exfalso; omega) | refine wK ?_ | ((with_reducible refine ze ?_); refine wN ((.tup [.t (.str rj.1), .t (.int .i64 rj.2)])) [] hJ ?_) | refine zd rfl ?_ ?_ <;> intro hc)
    all_goals exact zp (wh rfl (AVLE.refl _) (AVLE.refl _)) (zc ⟨rfl, rfl, rfl, trivial⟩)
  rw [if_neg h1]
  by_cases h2 : k = 2
  · rw [if_pos h2]
    refine wI Tryz.func17 ?_
    repeat' (first | refine wC ?_ | (exfalso; omega) | refine wK ?_ | ((with_reducible refine ze ?_); refine wN ((.tup [.t (.str rc.1), .t (.int .i64 rc.2)])) [] hC ?_) | refine zd rfl ?_ ?_ <;> intro hc)
    all_goals exact zp (wh rfl (AVLE.refl _) (AVLE.refl _)) (zc ⟨rfl, rfl, rfl, trivial⟩)
  rw [if_neg h2]
  by_cases h3 : k = 3
  · rw [if_pos h3]
    refine wI Tryz.func17 ?_
    repeat' (first | refine wC ?_ | (exfalso; omega) | refine wK ?_ | ((with_reducible refine ze ?_); refine wN ((.tup [.t (.str rk.1), .t (.int .i64 rk.2)])) [] hK ?_) | refine zd rfl ?_ ?_ <;> intro hc)
    all_goals exact zp (wh rfl (AVLE.refl _) (AVLE.refl _)) (zc ⟨rfl, rfl, rfl, trivial⟩)
  rw [if_neg h3]
  refine wI Tryz.func17 ?_
  repeat' (first | refine wC ?_ | (exfalso; omega) | refine wK ?_ | refine zd rfl ?_ ?_ <;> intro hc)
  all_goals exact zp (wh rfl (AVLE.refl _) (AVLE.refl _)) (zc ⟨rfl, rfl, rfl, trivial⟩)
set_option maxHeartbeats 4000000 in
theorem zn8 {oF oA oP : Obj} {V : ByteArray → Bool} (hS : xH oF oA V) (hP : y3 .u64 Lib.pow10Tab oP) (s : ByteArray) (hs : s.size ≤ 1000000) :
    Spec Tryz.prog 21 [.t (.int .i64 1), .t (.str s)] [(.par 100, .dat (.fix 0 oF)), (.par 101, .dat (.fix 1 oA)), (.par 102, .dat (.fix 2 oP))] (.tup [.t (kH jsC V s).1.toT, .t (.int .i64 (kH jsC V s).2)]) [(.par 100, .dat (.fix 0 oF)), (.par 101, .dat (.fix 1 oA)), (.par 102, .dat (.fix 2 oP))] := by
  have hD := zi7 hS hP s hs
  generalize kH jsC V s = r at *
  obtain ⟨y, c⟩ := r
  simp only at hD ⊢
  rw [y.toT_full] at hD ⊢
  generalize y.kind = yk at *
  generalize y.bool = yb at *
  generalize y.num = yn at *
  generalize y.text = yt at *
  generalize y.names = ym at *
  generalize y.items = yi at *
  refine wI Tryz.func21 ?_
  repeat' (first | refine wC ?_ | refine wK ?_ | ((with_reducible refine ze ?_); refine wN ((.tup [.t (.agg [.int .i64 yk, .bool yb, .int .i64 yn, .str yt, .sl 1 (ym.map .str), .sl 6 (yi.map Nd.toT)]), .t (.int .i64 c)])) [] hD ?_) | fail)
  all_goals (exact wE)
set_option maxHeartbeats 4000000 in
theorem znY {oF oA oP : Obj} {V : ByteArray → Bool} (hS : xH oF oA V) (hP : y3 .u64 Lib.pow10Tab oP) (s : ByteArray) (hs : s.size ≤ 1000000) :
    Spec Tryz.prog 21 [.t (.int .i64 2), .t (.str s)] [(.par 100, .dat (.fix 0 oF)), (.par 101, .dat (.fix 1 oA)), (.par 102, .dat (.fix 2 oP))] (.tup [.t (zeG V s).1.toT, .t (.int .i64 (zeG V s).2)]) [(.par 100, .dat (.fix 0 oF)), (.par 101, .dat (.fix 1 oA)), (.par 102, .dat (.fix 2 oP))] := by
  have hD := zkk hS s hs
  generalize zeG V s = r at *
  obtain ⟨y, c⟩ := r
  simp only at hD ⊢
  rw [y.toT_full] at hD ⊢
  generalize y.kind = yk at *
  generalize y.bool = yb at *
  generalize y.num = yn at *
  generalize y.text = yt at *
  generalize y.names = ym at *
  generalize y.items = yi at *
  refine wI Tryz.func21 ?_
  repeat' (first | refine wC ?_ | refine wK ?_ | ((with_reducible refine ze ?_); refine wN ((.tup [.t (.agg [.int .i64 yk, .bool yb, .int .i64 yn, .str yt, .sl 1 (ym.map .str), .sl 6 (yi.map Nd.toT)]), .t (.int .i64 c)])) [] hD ?_) | fail)
  all_goals (exact wE)
set_option maxHeartbeats 4000000 in
theorem znL {oF oA oP : Obj} {V : ByteArray → Bool} (hS : xH oF oA V) (hP : y3 .u64 Lib.pow10Tab oP) (s : ByteArray) (hs : s.size ≤ 1000000) :
    Spec Tryz.prog 21 [.t (.int .i64 3), .t (.str s)] [(.par 100, .dat (.fix 0 oF)), (.par 101, .dat (.fix 1 oA)), (.par 102, .dat (.fix 2 oP))] (.tup [.t (kH pkC V s).1.toT, .t (.int .i64 (kH pkC V s).2)]) [(.par 100, .dat (.fix 0 oF)), (.par 101, .dat (.fix 1 oA)), (.par 102, .dat (.fix 2 oP))] := by
  have hD := zjh hS s hs
  generalize kH pkC V s = r at *
  obtain ⟨y, c⟩ := r
  simp only at hD ⊢
  rw [y.toT_full] at hD ⊢
  generalize y.kind = yk at *
  generalize y.bool = yb at *
  generalize y.num = yn at *
  generalize y.text = yt at *
  generalize y.names = ym at *
  generalize y.items = yi at *
  refine wI Tryz.func21 ?_
  repeat' (first | refine wC ?_ | refine wK ?_ | ((with_reducible refine ze ?_); refine wN ((.tup [.t (.agg [.int .i64 yk, .bool yb, .int .i64 yn, .str yt, .sl 1 (ym.map .str), .sl 6 (yi.map Nd.toT)]), .t (.int .i64 c)])) [] hD ?_) | fail)
  all_goals (exact wE)
set_option maxHeartbeats 4000000 in
theorem zi0 {oF oA oP : Obj} {V : ByteArray → Bool} (hS : xH oF oA V) (hP : y3 .u64 Lib.pow10Tab oP) (k : Int) (s : ByteArray) (hs : s.size ≤ 1000000) :
    Spec Tryz.prog 21 [.t (.int .i64 k), .t (.str s)] [(.par 100, .dat (.fix 0 oF)), (.par 101, .dat (.fix 1 oA)), (.par 102, .dat (.fix 2 oP))] (.tup [.t (zlD V k s).1.toT, .t (.int .i64 (zlD V k s).2)]) [(.par 100, .dat (.fix 0 oF)), (.par 101, .dat (.fix 1 oA)), (.par 102, .dat (.fix 2 oP))] := by
  unfold zlD
  by_cases h1 : k = 1
  · subst h1; rw [if_pos rfl]; exact zn8 hS hP s hs
  rw [if_neg h1]
  by_cases h2 : k = 2
  · subst h2; rw [if_pos rfl]; exact znY hS hP s hs
  rw [if_neg h2]
  by_cases h3 : k = 3
  · subst h3; rw [if_pos rfl]; exact znL hS hP s hs
  rw [if_neg h3, Nd.zero.toT_full]
  refine wI Tryz.func21 ?_
  repeat' (first | refine wC ?_ | (exfalso; omega) | refine wK ?_ | refine zd rfl ?_ ?_ <;> intro hc)
  all_goals (exact wE)
def wS (s : ByteArray) : Int := if s = eS then 0 else if bAt s 0 = 123 then 1 else if 160 ≤ bAt s 0 ∧ bAt s 0 ≤ 187 then 2 else if (128 ≤ bAt s 0 ∧ bAt s 0 < 144) ∨ bAt s 0 = 222 then 3 else 0
set_option maxRecDepth 10000 in
set_option maxHeartbeats 4000000 in
theorem kU (s : ByteArray) : Spec Tryz.prog 18 [.t (.str s)] [] (.t (.int .i64 (wS s))) [] := by
  obtain ⟨R, hR⟩ : ∃ R, R = wS s := ⟨_, rfl⟩
  rw [← hR]
  unfold wS at hR
  by_cases h0 : s = eS
  · rw [if_pos h0] at hR
    refine wI Tryz.func18 ?_
    repeat' (first | refine wC ?_ | exact absurd h0 ‹_› | refine wK ?_ | refine zd rfl ?_ ?_ <;> intro hc)
    all_goals exact zp (zo rfl rfl (congrArg (T.int .i64) hR.symm)) (by simp)
  · rw [if_neg h0] at hR
    have hz : 0 < (s.size : Int) := by
      rcases Nat.eq_zero_or_pos s.size with e | e
      · exact absurd (ByteArray.ext (Array.eq_empty_of_size_eq_zero e)) h0
      · omega
    refine wI Tryz.func18 ?_
    repeat' (first | refine wC ?_ | (exfalso; omega) | exact absurd ‹_› h0 | refine wK ?_ | ((with_reducible refine zy ?_); refine zf rfl rfl rfl rfl rfl rfl ?_ ?_ ?_) | refine zd rfl ?_ ?_ <;> intro hc | refine zj rfl ?_ ?_ <;> intro hc)
    all_goals try omega
    all_goals refine zp (zo rfl rfl (congrArg (T.int .i64) ?_)) (by simp)
    all_goals (rw [hR]; (repeat' split) <;> omega)
set_option maxRecDepth 10000 in
set_option maxHeartbeats 4000000 in
theorem zbv (s : ByteArray) : Spec Tryz.prog 19 [.t (.str s)] [] (.t (.int .i64 (wS s))) [] := by
  obtain ⟨R, hR⟩ : ∃ R, R = wS s := ⟨_, rfl⟩
  rw [← hR]
  unfold wS at hR
  by_cases h0 : s = eS
  · rw [if_pos h0] at hR
    refine wI Tryz.func19 ?_
    repeat' (first | refine wC ?_ | exact absurd h0 ‹_› | refine wK ?_ | refine zd rfl ?_ ?_ <;> intro hc)
    all_goals exact zp (zo rfl rfl (congrArg (T.int .i64) hR.symm)) (by simp)
  · rw [if_neg h0] at hR
    have hz : 0 < (s.size : Int) := by
      rcases Nat.eq_zero_or_pos s.size with e | e
      · exact absurd (ByteArray.ext (Array.eq_empty_of_size_eq_zero e)) h0
      · omega
    refine wI Tryz.func19 ?_
    repeat' (first | refine wC ?_ | (exfalso; omega) | exact absurd ‹_› h0 | refine wK ?_ | ((with_reducible refine zy ?_); refine zf rfl rfl rfl rfl rfl rfl ?_ ?_ ?_) | refine zd rfl ?_ ?_ <;> intro hc | refine zj rfl ?_ ?_ <;> intro hc)
    all_goals try omega
    all_goals refine zp (zo rfl rfl (congrArg (T.int .i64) ?_)) (by simp)
    all_goals (rw [hR]; (repeat' split) <;> omega)
theorem zbu : eS.size ≤ 65536 := by decide
theorem kO (c : UInt8) (l : List UInt8) : wS (ofL (c :: l)) = if c.toNat = 123 then 1 else if 160 ≤ c.toNat ∧ c.toNat ≤ 187 then 2 else if (128 ≤ c.toNat ∧ c.toNat < 144) ∨ c.toNat = 222 then 3 else 0 := by
  have h0 : ofL (c :: l) ≠ eS := fun e => by
    have := congrArg ByteArray.size e
    rw [zx] at this
    exact absurd this (by show ¬ (l.length + 1 = 0); omega)
  have hb : bAt (ofL (c :: l)) 0 = (c.toNat : Int) := rfl
  unfold wS
  rw [if_neg h0, hb]
  (repeat' split) <;> omega
theorem zks {V : ByteArray → Bool} {b : Bool} {n : Int} {t : ByteArray} {ns : List ByteArray} {is : List Nd} (hl : is.length < 16) (hv : (Nd.mk 5 b n t ns is).validB V 8 = true) (z1 : (jsC.E (Nd.mk 5 b n t ns is)).length ≤ 65536) (z2 : (Nd.mk 5 b n t ns is).cb.length ≤ 65536) (z3 : (pkC.E (Nd.mk 5 b n t ns is)).length ≤ 65536) (k : Int) (h1 : 1 ≤ k) (h3 : k ≤ 3) : wS (zfX V k (Nd.mk 5 b n t ns is)).1 = k := by
  unfold zfX
  have : k = 1 ∨ k = 2 ∨ k = 3 := by omega
  rcases this with rfl | rfl | rfl
  · rw [if_pos rfl, zfU, zeu (C := jsC) hv z1]
    show wS (ofL (Nd.jb (Nd.mk 5 b n t ns is))) = 1
    rw [show Nd.jb (Nd.mk 5 b n t ns is) = 123 :: (Nd.jbm true ns is ++ [125]) from by simp [Nd.jb], kO]
    rfl
  · rw [if_neg (by decide), if_pos rfl, zmz hv z2]
    show wS (ofL (Nd.cb (Nd.mk 5 b n t ns is))) = 2
    rw [show Nd.cb (Nd.mk 5 b n t ns is) = UInt8.ofNat (160 + is.length) :: Nd.cbm ns is from by simp [Nd.cb, hdL, show is.length < 24 by omega], kO]
    have e : (UInt8.ofNat (160 + is.length)).toNat = 160 + is.length := by simp; omega
    rw [e, if_neg (by omega), if_pos (by omega)]
  · rw [if_neg (by decide), if_neg (by decide), if_pos rfl, zeu (C := pkC) hv z3]
    show wS (ofL (Nd.pb (Nd.mk 5 b n t ns is))) = 3
    rw [show Nd.pb (Nd.mk 5 b n t ns is) = UInt8.ofNat (128 + is.length) :: Nd.pbm ns is from by simp [Nd.pb, pCn, hl], kO]
    have e : (UInt8.ofNat (128 + is.length)).toNat = 128 + is.length := by simp; omega
    rw [e, if_neg (by omega), if_neg (by omega), if_pos (by omega)]
theorem zeU {C : Codec} {V : ByteArray → Bool} (x : Nd) : (za0 C V x).1.size ≤ 65536 := by
  unfold za0
  split
  · split
    · exact zbu
    · rw [zx]; omega
  · exact zbu
theorem zjX {V : ByteArray → Bool} (k : Int) (x : Nd) : (zfX V k x).1.size ≤ 65536 := by
  unfold zfX
  split
  · rw [zfU]; exact zeU _
  · split
    · unfold zdn
      split
      · split
        · exact zbu
        · rw [zx]; omega
      · exact zbu
    · split
      · exact zeU _
      · exact zbu
theorem zoj {α : Type} [Inhabited α] {l : List α} {p : α → Prop} (h : ∀ x ∈ l, p x) {j : Nat} (hj : j < l.length) : p (l.getD (j : Int).toNat default) := h _ (by rw [Int.toNat_natCast, List.getD_eq_getElem?_getD, List.getElem?_eq_getElem hj]; exact List.getElem_mem _)
theorem zjG (d : Dc) : ∃ ns is, (zih 3 d).1 = .mk 5 false 0 eS ns is ∧ is.length < 16 := ⟨_, _, rfl, by
  rw [xy]
  have := d.next_lt 4 (by omega)
  omega⟩
set_option maxHeartbeats 16000000 in
theorem zcM {oF oA oP oS oR : Obj} {V : ByteArray → Bool} (hS : xH oF oA V) (hP : y3 .u64 Lib.pow10Tab oP) (G : EOk oS oR) (hV : VOk V) (l : List Int) (s : ByteArray) (form : Int) : Spec Tryz.prog 3 [.t (.sl 1 (l.map (T.int .i64))), .t (.str s), .t (.int .i64 form)] [(.par 100, .dat (.fix 0 oF)), (.par 101, .dat (.fix 1 oA)), (.par 102, .dat (.fix 2 oP)), (.par 103, .dat (.fix 3 oS)), (.par 104, .dat (.fix 4 oR))] (.t (.bool true)) [(.par 100, .dat (.fix 0 oF)), (.par 101, .dat (.fix 1 oA)), (.par 102, .dat (.fix 2 oP)), (.par 103, .dat (.fix 3 oS)), (.par 104, .dat (.fix 4 oR))] := by
  have hA := zgO hS hV
  have hL := zh0 l
  by_cases hl : (l.length : Int) ≤ 500 ∧ (s.size : Int) ≤ 500
  · rw [decide_eq_true hl.1] at hL
    have hR := zjK l
    have hd0 : (Dc.mk l 0).l = l := rfl
    have hX := zjL 3 (by omega) (Dc.mk l 0) (by rw [hd0]; omega)
    have vX := znt hV 3 (Dc.mk l 0) 8 (by omega) (by omega)
    have cX := znk 3 (Dc.mk l 0)
    have jX : (jsC.E (zih 3 (Dc.mk l 0)).1).length ≤ 65536 := Nat.le_trans (zmE 3 (Dc.mk l 0)) (by decide)
    have fX := zjG (Dc.mk l 0)
    generalize zih 3 (Dc.mk l 0) = q1 at hX vX cX jX fX
    obtain ⟨x, d1⟩ := q1
    simp only at hX vX cX jX fX
    have o1 := Nd.ok_of_valid x 8 vX
    have z2 : x.cb.length ≤ 65536 := Nat.le_trans cX.1 (by decide)
    have z3 : (pkC.E x).length ≤ 65536 := by
      have h1 : x.pb.length ≤ 3 * x.cb.length := zmy x
      have h2 : x.cb.length ≤ 12081 := Nat.le_trans cX.1 (by decide)
      show x.pb.length ≤ 65536
      omega
    have hFit : FitsA V x := ⟨o1, cX.2, fun _ => by have : x.jb.length ≤ 65536 := jX; omega, fun _ => by omega, fun _ => by have : x.pb.length ≤ 65536 := z3; omega⟩
    have hE := fun k => ziP hS hP k x hFit
    have hF := fun k => zit hS hP k x hFit
    have hg : ∀ k : Int, 1 ≤ k → k ≤ 3 → wS (zfX V k x).1 = k := by
      obtain ⟨ns, is, rfl, hlen⟩ := fX
      exact fun k h1 h3 => zks hlen vX jX z2 z3 k h1 h3
    have hz := fun k => zjX (V := V) k x
    clear hFit vX cX jX z2 z3 o1 fX
    have tX := x.toT_full
    rw [tX] at hX
    have hE2 : ∀ k, _ := fun k => (by have := hE k; rw [tX] at this; exact this : Spec Tryz.prog 16 [.t (.int .i64 k), .t (.agg [.int .i64 x.kind, .bool x.bool, .int .i64 x.num, .str x.text, .sl 1 (x.names.map .str), .sl 6 (x.items.map Nd.toT)])] [(.par 100, .dat (.fix 0 oF)), (.par 101, .dat (.fix 1 oA)), (.par 102, .dat (.fix 2 oP))] (.tup [.t (.str (zfX V k x).1), .t (.int .i64 (zfX V k x).2)]) [(.par 100, .dat (.fix 0 oF)), (.par 101, .dat (.fix 1 oA)), (.par 102, .dat (.fix 2 oP))])
    have hF2 : ∀ k, _ := fun k => (by have := hF k; rw [tX] at this; exact this : Spec Tryz.prog 17 [.t (.int .i64 k), .t (.agg [.int .i64 x.kind, .bool x.bool, .int .i64 x.num, .str x.text, .sl 1 (x.names.map .str), .sl 6 (x.items.map Nd.toT)])] [(.par 100, .dat (.fix 0 oF)), (.par 101, .dat (.fix 1 oA)), (.par 102, .dat (.fix 2 oP))] (.tup [.t (.str (zfX V k x).1), .t (.int .i64 (zfX V k x).2)]) [(.par 100, .dat (.fix 0 oF)), (.par 101, .dat (.fix 1 oA)), (.par 102, .dat (.fix 2 oP))])
    clear hE hF tX
    generalize x.kind = yk at *
    generalize x.bool = yb at *
    generalize x.num = yn at *
    generalize x.text = yt at *
    generalize x.names = ym at *
    generalize x.items = yi at *
    obtain ⟨E, hEE⟩ : ∃ E : Int → ByteArray × Int, E = fun k => zfX V k x := ⟨_, rfl⟩
    have hE3 : ∀ k, Spec Tryz.prog 16 [.t (.int .i64 k), .t (.agg [.int .i64 yk, .bool yb, .int .i64 yn, .str yt, .sl 1 (ym.map .str), .sl 6 (yi.map Nd.toT)])] [(.par 100, .dat (.fix 0 oF)), (.par 101, .dat (.fix 1 oA)), (.par 102, .dat (.fix 2 oP))] (.tup [.t (.str (E k).1), .t (.int .i64 (E k).2)]) [(.par 100, .dat (.fix 0 oF)), (.par 101, .dat (.fix 1 oA)), (.par 102, .dat (.fix 2 oP))] := by rw [hEE]; exact hE2
    have hF3 : ∀ k, Spec Tryz.prog 17 [.t (.int .i64 k), .t (.agg [.int .i64 yk, .bool yb, .int .i64 yn, .str yt, .sl 1 (ym.map .str), .sl 6 (yi.map Nd.toT)])] [(.par 100, .dat (.fix 0 oF)), (.par 101, .dat (.fix 1 oA)), (.par 102, .dat (.fix 2 oP))] (.tup [.t (.str (E k).1), .t (.int .i64 (E k).2)]) [(.par 100, .dat (.fix 0 oF)), (.par 101, .dat (.fix 1 oA)), (.par 102, .dat (.fix 2 oP))] := by rw [hEE]; exact hF2
    have hg3 : ∀ k : Int, 1 ≤ k → k ≤ 3 → wS (E k).1 = k := by rw [hEE]; exact hg
    have hz3 : ∀ k, (E k).1.size ≤ 65536 := by rw [hEE]; exact hz
    clear hEE hE2 hF2 hg hz
    unfold Dc.row at hR hX
    obtain ⟨ks, hks⟩ : ∃ ks : List Int, ks = [form, 1, 2, 3, 0, 4] := ⟨_, rfl⟩
    have hkl : ks.length = 6 := by rw [hks]; rfl
    have hG1 := kU s
    have hG2 := zbv s
    have hG0 : Spec Tryz.prog 18 [.t (.str ⟨#[]⟩)] [] (.t (.int .i64 0)) [] := kU eS
    refine wI Tryz.func3 ?_
    repeat' (first | refine wC ?_ | (exfalso; omega) | refine kK (es := [form, 1, 2, 3, 0, 4].map (T.int .i64)) rfl rfl rfl rfl rfl rfl ?_ | refine wK ?_ | ((with_reducible refine ze ?_); first | refine wL hL ?_ | refine wN (.ref (.loc 900) 0 0 0) [(.res 0, .loc 900)] hR ?_ | refine wN (.t (.agg [.int .i64 yk, .bool yb, .int .i64 yn, .str yt, .sl 1 (ym.map .str), .sl 6 (yi.map Nd.toT)])) [(.par 0, .loc 900)] hX ?_) | refine zd rfl ?_ ?_ <;> intro hc)
    rw [← hks]
    refine zl (za [1, 6, 8, 35, 36, 37] [.loc 8, .par 100, .par 101, .par 102, .par 103, .par 104] rfl rfl) ?_
    refine zz (fun q env st => ∃ (j : Nat), j ≤ 6 ∧ q = 6 - j ∧ env = EnvL.get [(1, .t (.str s)), (6, .t (.bool false)), (8, .ref (.loc 8) 0 0 0), (35, .t (.sl 1 (ks.map (T.int .i64)))), (36, .t (.int .i64 (ks.length : Int))), (37, .t (.int .i64 (j : Int)))] ∧ st = StO.get [(.loc 8, some (.var 30 [.t (.int .i64 yk), .t (.bool yb), .t (.int .i64 yn), .t (.str yt), .t (.sl 1 (ym.map .str)), .t (.sl 6 (yi.map Nd.toT))])), (.par 100, some (.dat (.fix 0 oF))), (.par 101, some (.dat (.fix 1 oA))), (.par 102, some (.dat (.fix 2 oP))), (.par 103, some (.dat (.fix 3 oS))), (.par 104, some (.dat (.fix 4 oR)))]) ?_ (n := 6) ⟨0, by omega, rfl, by first | rfl | (simp only [List.length_map]; rfl) | (rw [hkl]; rfl), rfl⟩
    clear hks
    rintro q env st ⟨j, hj, rfl, rfl, rfl⟩
    have wj : IntKind.i64.wrap ((j : Int) + 1) = ((j + 1 : Nat) : Int) := by rw [zr (by omega) (by omega)]; omega
    by_cases hlt : j < 6
    · have hEK := hE3 (ks.getD (j : Int).toNat default)
      have hFK := hF3 (ks.getD (j : Int).toNat default)
      have hgK := hg3 (ks.getD (j : Int).toNat default)
      have hzK := hz3 (ks.getD (j : Int).toNat default)
      generalize E (ks.getD (j : Int).toNat default) = r at hEK hFK hgK hzK
      obtain ⟨a, e⟩ := r
      simp only at hEK hFK hgK hzK
      have hP1 := kU a
      have hP2 := zbv a
      generalize wS a = g at hP1 hP2 hgK
      obtain ⟨xs, hxs⟩ : ∃ xs : List ByteArray, xs = [a, s] := ⟨_, rfl⟩
      have hxl : xs.length = 2 := by rw [hxs]; rfl
      have hxz : ∀ x ∈ xs, x.size ≤ 1000000 := by
        rw [hxs]; intro x hx
        simp only [List.mem_cons, List.not_mem_nil, or_false] at hx
        rcases hx with rfl | rfl <;> omega
      repeat' (first | refine wC ?_ | (exfalso; omega) | refine kK (es := [a, s].map T.str) rfl rfl rfl rfl rfl rfl ?_ | refine wK ?_ | ((with_reducible refine zA ?_); refine zq rfl rfl rfl rfl rfl rfl ?_ ?_ ?_) | ((with_reducible refine ze ?_); first | refine wN ((.tup [.t (.str a), .t (.int .i64 e)])) [] hEK ?_ | refine wN ((.tup [.t (.str a), .t (.int .i64 e)])) [] hFK ?_ | refine wL hP1 ?_ | refine wL hP2 ?_) | refine zd rfl ?_ ?_ <;> intro hc | refine zS rfl ?_ ?_ <;> intro hc | refine zj rfl ?_ ?_ <;> intro hc | refine zN rfl ?_ ?_ <;> intro hc)
      all_goals first | omega | exact absurd rfl ‹¬ a = a› | exact absurd rfl ‹¬ e = e› | exact absurd rfl ‹¬ g = g› | exact absurd (hgK ‹_› ‹_›) ‹_› | skip
      all_goals rw [← hxs]
      all_goals (
        refine zl (za [1, 6, 8, 35, 36, 37, 10, 84, 85, 86] [.loc 8, .par 100, .par 101, .par 102, .par 103, .par 104] rfl rfl) ?_
        refine zz (fun q env st => ∃ (i : Nat), i ≤ 2 ∧ q = 2 - i ∧ env = EnvL.get [(1, .t (.str s)), (6, .t (.bool false)), (8, .ref (.loc 8) 0 0 0), (35, .t (.sl 1 (ks.map (T.int .i64)))), (36, .t (.int .i64 (ks.length : Int))), (37, .t (.int .i64 (j : Int))), (10, .t (.int .i64 (ks.getD (j : Int).toNat default))), (84, .t (.sl 1 (xs.map T.str))), (85, .t (.int .i64 (xs.length : Int))), (86, .t (.int .i64 (i : Int)))] ∧ st = StO.get [(.loc 8, some (.var 30 [.t (.int .i64 yk), .t (.bool yb), .t (.int .i64 yn), .t (.str yt), .t (.sl 1 (ym.map .str)), .t (.sl 6 (yi.map Nd.toT))])), (.par 100, some (.dat (.fix 0 oF))), (.par 101, some (.dat (.fix 1 oA))), (.par 102, some (.dat (.fix 2 oP))), (.par 103, some (.dat (.fix 3 oS))), (.par 104, some (.dat (.fix 4 oR)))]) ?_ (n := 2) ⟨0, by omega, rfl, by first | rfl | (simp only [List.length_map]; rfl) | (rw [hxl]; rfl), rfl⟩
        rintro q env st ⟨i, hi, rfl, rfl, rfl⟩
        have wi : IntKind.i64.wrap ((i : Int) + 1) = ((i + 1 : Nat) : Int) := by rw [zr (by omega) (by omega)]; omega
        by_cases hil : i < 2
        · have hXz := zoj (p := fun x : ByteArray => x.size ≤ 1000000) (j := i) hxz (by omega)
          have hD := zin hS hP G (ks.getD (j : Int).toNat default) (xs.getD (i : Int).toNat default) hXz
          have hQ := zi0 hS hP (ks.getD (j : Int).toNat default) (xs.getD (i : Int).toNat default) hXz
          have hO := zng V (ks.getD (j : Int).toNat default) (xs.getD (i : Int).toNat default)
          generalize zlD V (ks.getD (j : Int).toNat default) (xs.getD (i : Int).toNat default) = r at hD hQ hO
          obtain ⟨z, c⟩ := r
          simp only at hD hQ hO
          have hM := zix z hO z
          rw [Nd.same_refl] at hM
          rw [z.toT_full] at hD hQ hM
          generalize z.kind = zk at *
          generalize z.bool = zb at *
          generalize z.num = zn at *
          generalize z.text = zt at *
          generalize z.names = zm at *
          generalize z.items = zi at *
          clear hO hXz
          repeat' (first | refine wC ?_ | (exfalso; omega) | refine wK ?_ | ((with_reducible refine zA ?_); refine zq rfl rfl rfl rfl rfl rfl ?_ ?_ ?_) | ((with_reducible refine ze ?_); first | refine wN ((.tup [.t (.agg [.int .i64 zk, .bool zb, .int .i64 zn, .str zt, .sl 1 (zm.map .str), .sl 6 (zi.map Nd.toT)]), .t (.int .i64 c)])) [] hD ?_ | refine wN ((.tup [.t (.agg [.int .i64 zk, .bool zb, .int .i64 zn, .str zt, .sl 1 (zm.map .str), .sl 6 (zi.map Nd.toT)]), .t (.int .i64 c)])) [] hQ ?_ | refine wL hM ?_) | refine zd rfl ?_ ?_ <;> intro hc | refine zS rfl ?_ ?_ <;> intro hc)
          all_goals first | omega | exact absurd rfl ‹¬ c = c› | skip
          all_goals exact zI (n' := 2 - (i + 1)) (by omega) (za [1, 6, 8, 35, 36, 37, 10, 84, 85, 86] [.loc 8, .par 100, .par 101, .par 102, .par 103, .par 104] rfl rfl) ⟨i + 1, by omega, rfl, by rw [wi]; rfl, rfl⟩
        · obtain rfl : i = 2 := by omega
          repeat' (first | refine wC ?_ | (exfalso; omega) | refine wK ?_ | refine zd rfl ?_ ?_ <;> intro hc)
          all_goals first | omega | skip
          all_goals exact zI (n' := 6 - (j + 1)) (by omega) (za [1, 6, 8, 35, 36, 37] [.loc 8, .par 100, .par 101, .par 102, .par 103, .par 104] rfl rfl) ⟨j + 1, by omega, rfl, by rw [wj]; rfl, rfl⟩)
    · obtain rfl : j = 6 := by omega
      repeat' (first | refine wC ?_ | (exfalso; omega) | refine wK ?_ | ((with_reducible refine ze ?_); first | refine wL hG1 ?_ | refine wL hG2 ?_ | refine wL hG0 ?_ | refine wN ((.t (.bool true))) [] hA ?_) | refine zd rfl ?_ ?_ <;> intro hc | refine zj rfl ?_ ?_ <;> intro hc)
      all_goals first | exact absurd rfl ‹¬ wS s = wS s› | exact zp (zo rfl rfl rfl) (zc ⟨rfl, rfl, rfl, rfl, rfl, trivial⟩)
  · have hA2 := hA
    cases hb : decide ((l.length : Int) ≤ 500) with
    | true =>
      rw [hb] at hL
      have hn : ¬ (s.size : Int) ≤ 500 := fun h => hl ⟨of_decide_eq_true hb, h⟩
      refine wI Tryz.func3 ?_
      repeat' (first | refine wC ?_ | (exfalso; omega) | refine wK ?_ | ((with_reducible refine ze ?_); first | refine wL hL ?_ | refine wN ((.t (.bool true))) [] hA ?_) | refine zd rfl ?_ ?_ <;> intro hc)
      all_goals exact zp (zo rfl rfl rfl) (zc ⟨rfl, rfl, rfl, rfl, rfl, trivial⟩)
    | false =>
      rw [hb] at hL
      refine wI Tryz.func3 ?_
      repeat' (first | refine wC ?_ | refine wK ?_ | ((with_reducible refine ze ?_); first | refine wL hL ?_ | refine wN ((.t (.bool true))) [] hA ?_) | fail)
      all_goals exact zp (zo rfl rfl rfl) (zc ⟨rfl, rfl, rfl, rfl, rfl, trivial⟩)
mutual
theorem Nd.noG : ∀ x : Nd, x.toT.noG = true
  | .mk k b n t ns is => by simp [Nd.toT, T.noG, T.noGL, zhd, Nd.noGs is]
theorem Nd.noGs : ∀ l : List Nd, T.noGL (Nd.toTs l) = true
  | [] => rfl
  | x :: xs => by simp [Nd.toTs, T.noGL, Nd.noG x, Nd.noGs xs]
end
def zoC : List Int := [1, 10, 100, 1000, 10000, 100000, 1000000, 10000000, 100000000, 1000000000, 10000000000, 100000000000, 1000000000000, 10000000000000, 100000000000000, 1000000000000000, 10000000000000000, 100000000000000000, 1000000000000000000, 10000000000000000000]
theorem znd : zoC = Lib.pow10Tab := by decide
theorem zn4 {oP : Obj} (h : y3 .u64 zoC oP) : y3 .u64 Lib.pow10Tab oP := by rw [← znd]; exact h
end Go.AL
