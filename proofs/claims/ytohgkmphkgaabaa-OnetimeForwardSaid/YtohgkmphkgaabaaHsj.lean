/- A signature can't be carried from one message to another: one digit is lower, another is higher; no program in sight. -/
import Derived.Test.YtohgkmphkgaabaaHsg
set_option linter.unusedVariables false
namespace Go.AL
open Go Go.RowKit

def lowB (a b : Nat → Nat) : Nat → Bool
  | 0 => false
  | j + 1 => lowB a b j || decide (a j < b j)
theorem lowB_iff (a b : Nat → Nat) : ∀ j, lowB a b j = true ↔ ∃ i, i < j ∧ a i < b i
  | 0 => by simp [lowB]
  | j + 1 => by
    rw [lowB, Bool.or_eq_true, lowB_iff a b j, decide_eq_true_eq]
    constructor
    · rintro (⟨i, h, h'⟩ | h)
      · exact ⟨i, by omega, h'⟩
      · exact ⟨j, by omega, h⟩
    · rintro ⟨i, h, h'⟩
      rcases Nat.lt_or_ge i j with h2 | h2
      · exact .inl ⟨i, h2, h'⟩
      · obtain rfl : i = j := by omega
        exact .inr h'
theorem lowB_not (a b : Nat → Nat) (j : Nat) : lowB a b j = false ↔ ∀ i, i < j → b i ≤ a i := by
  constructor
  · intro h i hi
    apply Nat.le_of_not_lt
    intro hn
    have := (lowB_iff a b j).2 ⟨i, hi, hn⟩
    rw [h] at this
    cases this
  · intro h
    cases hb : lowB a b j with
    | false => rfl
    | true =>
      obtain ⟨i, hi, h'⟩ := (lowB_iff a b j).1 hb
      have := h i hi
      omega
theorem rest_mono (A B : ByteArray) : ∀ j, (∀ i, i < j → digN A i ≤ digN B i) → restN B j ≤ restN A j ∧ ((∃ i, i < j ∧ digN A i < digN B i) → restN B j < restN A j)
  | 0, _ => ⟨Nat.le_refl _, fun ⟨i, h, _⟩ => by omega⟩
  | j + 1, h => by
    obtain ⟨h1, h2⟩ := rest_mono A B j (fun i hi => h i (by omega))
    have h3 := h j (by omega)
    have h4 := digN_lt A j
    have h5 := digN_lt B j
    rw [restN, restN]
    refine ⟨by omega, fun ⟨i, hi, hl⟩ => ?_⟩
    rcases Nat.lt_or_ge i j with h' | h'
    · have := h2 ⟨i, h', hl⟩; omega
    · obtain rfl : i = j := by omega
      omega
theorem digA_lo (Y : ByteArray) {i : Nat} (h : i < 32) : digA Y i = digN Y i := if_pos h
theorem rest_digits (Y : ByteArray) : restN Y 32 = 64 * digA Y 32 + 16 * digA Y 33 + 4 * digA Y 34 + digA Y 35 := by
  have h := restN_le Y 32
  unfold digA
  simp only [if_neg (show ¬ 32 < 32 by omega), if_neg (show ¬ 33 < 32 by omega), if_neg (show ¬ 34 < 32 by omega), if_neg (show ¬ 35 < 32 by omega)]
  generalize restN Y 32 = n at h ⊢
  show n = 64 * (n / 64 % 4) + 16 * (n / 16 % 4) + 4 * (n / 4 % 4) + n / 1 % 4
  omega
/-- No digit higher: no digit lower. -/
theorem low_high (A B : ByteArray) (h : lowB (digA B) (digA A) 36 = false) : lowB (digA A) (digA B) 36 = false := by
  rw [lowB_not] at h ⊢
  have hm := rest_mono A B 32 (fun i hi => by have := h i (by omega); rwa [digA_lo _ hi, digA_lo _ hi] at this)
  have hA := rest_digits A
  have hB := rest_digits B
  have h32 := h 32 (by omega)
  have h33 := h 33 (by omega)
  have h34 := h 34 (by omega)
  have h35 := h 35 (by omega)
  have hE : restN A 32 = restN B 32 := by omega
  intro i hi
  rcases Nat.lt_or_ge i 32 with h' | h'
  · apply Nat.le_of_not_lt
    intro hn
    rw [digA_lo _ h', digA_lo _ h'] at hn
    have := hm.2 ⟨i, h', hn⟩
    omega
  · have : i = 32 ∨ i = 33 ∨ i = 34 ∨ i = 35 := by omega
    rcases this with rfl | rfl | rfl | rfl <;> omega
theorem low_eq (A B : ByteArray) : lowB (digA A) (digA B) 36 = lowB (digA B) (digA A) 36 := by
  cases h : lowB (digA B) (digA A) 36 with
  | false => exact low_high A B h
  | true =>
    cases h' : lowB (digA A) (digA B) 36 with
    | true => rfl
    | false => rw [low_high B A h'] at h; cases h
theorem byte_digits (Y : ByteArray) {k : Nat} (hk : k < 8) : (bAt Y (k : Int)).toNat = 64 * digN Y (4 * k) + 16 * digN Y (4 * k + 1) + 4 * digN Y (4 * k + 2) + digN Y (4 * k + 3) := by
  have hr := bAt_range Y (k : Int)
  unfold digN
  simp only [show 4 * k / 4 = k by omega, show (4 * k + 1) / 4 = k by omega, show (4 * k + 2) / 4 = k by omega, show (4 * k + 3) / 4 = k by omega, show 4 * k % 4 = 0 by omega, show (4 * k + 1) % 4 = 1 by omega, show (4 * k + 2) % 4 = 2 by omega, show (4 * k + 3) % 4 = 3 by omega]
  generalize bAt Y (k : Int) = b at hr ⊢
  obtain ⟨n, rfl⟩ : ∃ n : Nat, b = n := ⟨b.toNat, by omega⟩
  simp only [Int.toNat_natCast]
  show n = 64 * (n / 64 % 4) + 16 * (n / 16 % 4) + 4 * (n / 4 % 4) + n / 1 % 4
  omega
theorem bAt_getD (Y : ByteArray) (k : Nat) : bAt Y (k : Int) = ((Y.data.toList.getD k 0).toNat : Int) := rfl
theorem head_iff (A B : ByteArray) (hA : A.size = 32) (hB : B.size = 32) : A.extract 0 8 = B.extract 0 8 ↔ ∀ k : Nat, k < 8 → bAt A (k : Int) = bAt B (k : Int) := by
  have lA : A.data.toList.length = 32 := by rw [toList_len]; exact hA
  have lB : B.data.toList.length = 32 := by rw [toList_len]; exact hB
  have tA : (A.extract 0 8).data.toList = A.data.toList.take 8 := by simp [ByteArray.data_extract]
  have tB : (B.extract 0 8).data.toList = B.data.toList.take 8 := by simp [ByteArray.data_extract]
  constructor
  · intro h k hk
    rw [bAt_getD, bAt_getD]
    have e : A.data.toList.take 8 = B.data.toList.take 8 := by rw [← tA, ← tB, h]
    have e2 : ∀ l : List UInt8, l.getD k 0 = (l.take 8).getD k 0 := fun l => by
      rw [List.getD_eq_getElem?_getD, List.getD_eq_getElem?_getD, List.getElem?_take, if_pos hk]
    rw [e2 A.data.toList, e2 B.data.toList, e]
  · intro h
    have e : A.data.toList.take 8 = B.data.toList.take 8 := by
      apply List.ext_getElem
      · simp [lA, lB]
      · intro k h1 h2
        rw [List.length_take] at h1
        have := h k (by omega)
        rw [bAt_getD, bAt_getD, List.getD_eq_getElem?_getD, List.getD_eq_getElem?_getD, List.getElem?_eq_getElem (by omega), List.getElem?_eq_getElem (by omega)] at this
        simp only [Option.getD_some] at this
        rw [List.getElem_take, List.getElem_take]
        exact UInt8.toNat_inj.1 (by omega)
    have : (A.extract 0 8).data = (B.extract 0 8).data := by
      apply Array.toList_inj.1
      rw [tA, tB, e]
    cases hx : A.extract 0 8; cases hy : B.extract 0 8
    rw [hx, hy] at this
    simp only at this
    rw [this]
theorem low_head (A B : ByteArray) (hA : A.size = 32) (hB : B.size = 32) : lowB (digA A) (digA B) 36 = !decide (A.extract 0 8 = B.extract 0 8) := by
  by_cases h : A.extract 0 8 = B.extract 0 8
  · rw [decide_eq_true h]
    have hb := (head_iff A B hA hB).1 h
    have hd : ∀ i, i < 32 → digN A i = digN B i := fun i hi => by unfold digN; rw [hb (i / 4) (by omega)]
    have hr := rest_mono A B 32 (fun i hi => Nat.le_of_eq (hd i hi))
    have hr' := rest_mono B A 32 (fun i hi => Nat.le_of_eq (hd i hi).symm)
    have hE : restN A 32 = restN B 32 := by omega
    rw [Bool.not_true, lowB_not]
    intro i hi
    unfold digA
    split
    · rename_i h'; rw [hd i h']; exact Nat.le_refl _
    · rw [hE]; exact Nat.le_refl _
  · rw [decide_eq_false h, Bool.not_false]
    cases hl : lowB (digA A) (digA B) 36 with
    | true => rfl
    | false =>
      exfalso
      apply h
      rw [head_iff A B hA hB]
      have h1 := hl
      rw [low_eq] at h1
      rw [lowB_not] at hl h1
      intro k hk
      have hd : ∀ i, i < 32 → digN A i = digN B i := fun i hi => by
        have e1 := hl i (by omega)
        have e2 := h1 i (by omega)
        rw [digA_lo _ hi, digA_lo _ hi] at e1 e2
        omega
      have e1 := byte_digits A hk
      have e2 := byte_digits B hk
      rw [hd _ (by omega), hd _ (by omega), hd _ (by omega), hd _ (by omega), ← e2] at e1
      have := bAt_range A (k : Int)
      have := bAt_range B (k : Int)
      omega
end Go.AL
/- That the law OnetimeForward is true, as a contract. -/
set_option linter.unusedVariables false
namespace Go.AL
open Go Go.Proofs Go.RowKit

set_option maxHeartbeats 16000000 in
theorem OnetimeForward_spec (v m : ByteArray) : Spec Try.prog 9 [.t (.str v), .t (.str m)] [] (.t (.bool true)) [] := by
  have hA := awake11_spec
  by_cases hg : v.size ≤ 300 ∧ m.size ≤ 300
  · obtain ⟨hv, hm⟩ := hg
    have h1 := Digits_spec v (by omega)
    have h2 := Digits_spec m (by omega)
    rw [digL_natL] at h1 h2
    have h3 := qSum_spec v (by omega)
    have h4 := qSum_spec m (by omega)
    have z3 := sha_size v
    have z4 := sha_size m
    have hh := low_head (sha v) (sha m) z3 z4
    have hl := low_eq (sha v) (sha m)
    have hda := digA_lt (sha v)
    have hdb := digA_lt (sha m)
    generalize sha v = A at *
    generalize sha m = B at *
    generalize digA A = a at *
    generalize digA B = b at *
    have la := natL_len a
    have lb := natL_len b
    have la' : ((natL a).length : Int) = 36 := by omega
    have lb' : ((natL b).length : Int) = 36 := by omega
    refine spec_intro (env0 := [(0, _), (1, _)]) (st0 := []) Try.func9 rfl rfl rfl rfl ?_
    repeat' (first | (with_reducible refine codeT_seq ?_) | (with_reducible refine codeT_block ?_) | (with_reducible refine codeT_skip ?_) | (with_reducible refine codeT_regionL ?_) | (with_reducible refine lx_nil ?_) | (with_reducible refine q_then ?_) | refine c_condF rfl ?_ | (exfalso; omega) | ((with_reducible refine g_move ?_); first | refine lx_move (r := (.t _)) rfl rfl rfl rfl rfl ?_) | ((with_reducible refine g_binOp ?_); first | refine lx_arith rfl rfl rfl rfl rfl rfl rfl ?_) | ((with_reducible refine g_assign ?_); first | refine lx_assign (r := (.t _)) rfl rfl rfl rfl rfl ?_) | ((with_reducible refine g_pick ?_); first | refine lx_pickF (r := (.t _)) rfl rfl rfl rfl rfl rfl ?_) | ((with_reducible refine g_len ?_); first | refine lx_len_map rfl rfl rfl rfl rfl ?_ | refine lx_len_str rfl rfl rfl rfl rfl ?_) | ((with_reducible refine g_call ?_); first | refine lx_callT rfl rfl h1 rfl rfl (ArgsLE.refl _) rfl rfl rfl rfl rfl ?_ | refine lx_callT rfl rfl h2 rfl rfl (ArgsLE.refl _) rfl rfl rfl rfl rfl ?_) | refine c_condP rfl (fun hc => ?_) (fun hc => ?_) | refine lx_splitP rfl (fun hc => ?_) (fun hc => ?_))
    refine codeT_ghost (ghost_keep2 [0, 1, 5, 6, 7, 8, 32, 33, 34] [] rfl rfl) ?_
    refine codeT_loop (fun q env st => ∃ (j : Nat), j ≤ 36 ∧ q = 36 - j ∧
        env = EnvL.get [(0, .t (.str v)), (1, .t (.str m)), (5, .t (.sl 1 ((natL a).map (T.int .i64)))), (6, .t (.sl 1 ((natL b).map (T.int .i64)))), (7, .t (.bool (lowB a b j))), (8, .t (.bool (lowB b a j))), (32, .t (.sl 1 ((natL a).map (T.int .i64)))), (33, .t (.int .i64 36)), (34, .t (.int .i64 (j : Int)))] ∧ st = StO.get [])
      ?_ (n := 36) ⟨0, by omega, rfl, rfl, rfl⟩
    rintro q env st ⟨j, hj, rfl, rfl, rfl⟩
    by_cases hlt : j < 36
    · have ga := natL_get a hlt
      have gb := natL_get b hlt
      have da := hda j
      have db := hdb j
      have da0 : 0 ≤ (a j : Int) := by omega
      have s1 : lowB a b (j + 1) = (lowB a b j || decide (((natL a).getD (j : Int).toNat default) < ((natL b).getD (j : Int).toNat default))) := by rw [ga, gb, lowB]; congr 1; simp
      have s2 : lowB b a (j + 1) = (lowB b a j || decide (((natL b).getD (j : Int).toNat default) < ((natL a).getD (j : Int).toNat default))) := by rw [ga, gb, lowB]; congr 1; simp
      generalize lowB a b j = x at *
      generalize lowB b a j = y at *
      repeat' (first | (with_reducible refine codeT_seq ?_) | (with_reducible refine codeT_block ?_) | (with_reducible refine codeT_skip ?_) | (with_reducible refine codeT_exit ?_) | (with_reducible refine codeT_regionL ?_) | ((with_reducible refine codeT_region_drawL ?_ ?_); · rfl) | (with_reducible refine lx_nil ?_) | (with_reducible refine q_then ?_) | (with_reducible refine q_then_exit ?_) | (with_reducible refine q_block ?_) | ((with_reducible refine q_block_same ?_ ?_); · rfl) | (with_reducible refine q_loop_exit ?_) | ((with_reducible refine q_region_draw ?_ ?_); · rfl) | (exfalso; omega) | ((with_reducible refine g_guard ?_); first | refine lx_skip rfl rfl rfl ?_) | ((with_reducible refine g_move ?_); first | refine lx_move (r := (.t _)) rfl rfl rfl rfl rfl ?_) | ((with_reducible refine g_load ?_); first | refine lx_load_tp rfl rfl rfl rfl rfl rfl rfl ?_) | ((with_reducible refine g_binOp ?_); first | refine lx_arith rfl rfl rfl rfl rfl rfl rfl ?_) | ((with_reducible refine g_assign ?_); first | refine lx_assign (r := (.t _)) rfl rfl rfl rfl rfl ?_) | ((with_reducible refine g_pick ?_); first | refine lx_pickT (r := (.t _)) rfl rfl rfl rfl rfl rfl ?_ | refine lx_pickF (r := (.t _)) rfl rfl rfl rfl rfl rfl ?_) | ((with_reducible refine g_indexAddr ?_); first | refine lx_indexAddr_map rfl rfl rfl rfl rfl rfl ?_ ?_ ?_) | refine c_condP rfl (fun hc => ?_) (fun hc => ?_) | refine lx_splitP rfl (fun hc => ?_) (fun hc => ?_) | refine lx_splitB rfl (fun hc => ?_) (fun hc => ?_))
      all_goals try omega
      all_goals subst_vars
      all_goals refine q_loop (n' := 36 - (j + 1)) (by omega) (ghost_keep2 [0, 1, 5, 6, 7, 8, 32, 33, 34] [] rfl rfl) ⟨j + 1, by omega, rfl, ?_, rfl⟩
      all_goals rw [wrap64 (by omega) (by omega), s1, s2]
      all_goals rfl
    · obtain rfl : j = 36 := by omega
      rw [hh, ← hl, hh]
      clear hh hl
      repeat' (first | (with_reducible refine codeT_seq ?_) | (with_reducible refine codeT_ret ?_) | (with_reducible refine codeT_exit ?_) | (with_reducible refine codeT_regionL ?_) | ((with_reducible refine codeT_region_drawL ?_ ?_); · rfl) | (with_reducible refine lx_nil ?_) | (with_reducible refine q_then ?_) | (with_reducible refine q_then_exit ?_) | ((with_reducible refine q_block_same ?_ ?_); · rfl) | (with_reducible refine q_loop_exit ?_) | ((with_reducible refine q_region_draw ?_ ?_); · rfl) | refine c_condF rfl ?_ | ((with_reducible refine g_guard ?_); first | refine lx_skip rfl rfl rfl ?_) | ((with_reducible refine g_move ?_); first | refine lx_move (r := (.t _)) rfl rfl rfl rfl rfl ?_) | ((with_reducible refine g_binOp ?_); first | refine lx_arith rfl rfl rfl rfl rfl rfl rfl ?_ | refine lx_str_ne rfl rfl rfl rfl rfl rfl ?_ | refine lx_bool_eq rfl rfl rfl rfl rfl rfl ?_) | ((with_reducible refine g_assign ?_); first | refine lx_assign (r := (.t _)) rfl rfl rfl rfl rfl ?_) | ((with_reducible refine g_pick ?_); first | refine lx_pickT (r := (.t _)) rfl rfl rfl rfl rfl rfl ?_ | refine lx_pickF (r := (.t _)) rfl rfl rfl rfl rfl rfl ?_) | ((with_reducible refine g_slice ?_); first | refine lx_slice_str rfl rfl rfl ⟨_, rfl⟩ rfl rfl rfl ?_ ?_ ?_ ?_) | ((with_reducible refine g_call ?_); first | refine lx_callT rfl rfl h3 rfl rfl (ArgsLE.refl _) rfl rfl rfl rfl rfl ?_ | refine lx_callT rfl rfl h4 rfl rfl (ArgsLE.refl _) rfl rfl rfl rfl rfl ?_ | refine lx_callT rfl rfl hA rfl rfl (ArgsLE.refl _) rfl rfl rfl rfl rfl ?_) | refine lx_splitP rfl (fun hc => ?_) (fun hc => ?_))
      all_goals try omega
      all_goals try (exact absurd rfl hc)
      · exact q_ret (resT_oneE rfl rfl rfl) (by simp)
  · have hg' : ¬ ((v.size : Int) ≤ 300 ∧ (m.size : Int) ≤ 300) := by omega
    refine spec_intro (env0 := [(0, _), (1, _)]) (st0 := []) Try.func9 rfl rfl rfl rfl ?_
    repeat' (first | (with_reducible refine codeT_seq ?_) | (with_reducible refine codeT_skip ?_) | (with_reducible refine codeT_ret ?_) | (with_reducible refine codeT_regionL ?_) | (with_reducible refine lx_nil ?_) | (with_reducible refine q_then ?_) | (with_reducible refine q_then_ret ?_) | refine c_condT rfl ?_ | (exfalso; omega) | ((with_reducible refine g_guard ?_); first | refine lx_skip rfl rfl rfl ?_) | ((with_reducible refine g_move ?_); first | refine lx_move (r := (.t _)) rfl rfl rfl rfl rfl ?_) | ((with_reducible refine g_binOp ?_); first | refine lx_arith rfl rfl rfl rfl rfl rfl rfl ?_) | ((with_reducible refine g_assign ?_); first | refine lx_assign (r := (.t _)) rfl rfl rfl rfl rfl ?_) | ((with_reducible refine g_pick ?_); first | refine lx_pickT (r := (.t _)) rfl rfl rfl rfl rfl rfl ?_ | refine lx_pickF (r := (.t _)) rfl rfl rfl rfl rfl rfl ?_) | ((with_reducible refine g_len ?_); first | refine lx_len_str rfl rfl rfl rfl rfl ?_) | ((with_reducible refine g_call ?_); first | refine lx_callT rfl rfl hA rfl rfl (ArgsLE.refl _) rfl rfl rfl rfl rfl ?_) | refine c_condP rfl (fun hc => ?_) (fun hc => ?_) | refine lx_splitP rfl (fun hc => ?_) (fun hc => ?_))
    all_goals try (exfalso; omega)
    all_goals exact q_ret (resT_oneE rfl rfl rfl) (by simp)
end Go.AL
