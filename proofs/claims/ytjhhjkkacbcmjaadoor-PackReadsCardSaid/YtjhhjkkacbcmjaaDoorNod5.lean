/- That the sanity check of the laws on nodes is true. -/
import Derived.Test.YtjhhjkkacbcmjaaDoorNod4
import Derived.Test.YtjhhjkkacbcmjaaDoorAl3
import Derived.Test.YtjhhjkkacbcmjaaDoorNod2
import Derived.Test.YtjhhjkkacbcmjaaDoorNod1
import Derived.Lib.LaidU8T
set_option linter.unusedVariables false
namespace Go.AL
open Go Go.Proofs Go.RowKit

def aS : ByteArray := ⟨#[97]⟩
def bS : ByteArray := ⟨#[98]⟩
def Nd.ofNum (n : Int) : Nd := .mk 2 false n eS [] []
def awM : Nd := .mk 5 false 0 eS [aS, bS] [Nd.ofNum 1, Nd.ofText xS]
def awX : Nd := .mk 5 false 0 eS [aS, bS] [Nd.ofNum 2, Nd.ofText xS]
theorem ofNum_ok (n : Int) : (Nd.ofNum n).Ok := .mk (by simp) (by simp) (by simp)
theorem ofNum_valid {V : ByteArray → Bool} (hV : VOk V) (n e : Int) (he : 1 ≤ e) : (Nd.ofNum n).validB V e = true := by
  rw [Nd.ofNum, valid_mk]
  exact ⟨he, by decide, by decide, by simp [Nd.fieldsOK, eS], text_empty hV, by simp, by simp, by simp⟩
end Go.AL
/- That the law NodeDeep is true, as a contract. -/
set_option linter.unusedVariables false
namespace Go.AL
open Go Go.Proofs Go.RowKit

def nest : Nat → Nd
  | 0 => Nd.zero
  | k + 1 => .mk 4 false 0 eS [] [nest k]
def flat (n : Nat) : Nd := .mk 4 false 0 eS [] (List.replicate n Nd.zero)
end Go.AL
/- What the laid tables of unicode/utf8 give: two blocks of bytes, over which ValidString may be called. -/
set_option linter.unusedVariables false
namespace Go.AL
open Go Go.Proofs Go.RowKit Go.Lib Go.Shelf

theorem trod_array_len {P : Program} {w : World} {t e : TypeId} {n fuel : Nat} {cs : List Value} {d : DataW Unit} {p : List MemPlace} (ht : P.underlying t = some (.array n e)) (h : DataW.trod (fun _ => ()) P w 0 (fun _ => true) false fuel t cs = some (d, p)) : cs.length = P.cellsOf t := by
  cases fuel with
  | zero => simp [DataW.trod] at h
  | succ fuel =>
    simp only [DataW.trod, ht] at h
    split at h
    · assumption
    · cases h
theorem tabs {W : World} (h3 : VarReads Tryd.prog W "unicode/utf8.first" Lib.firstData) (h4 : VarReads Tryd.prog W "unicode/utf8.acceptRanges" Lib.acceptData) :
    ∃ oF oA, W.heap[0]? = some oF ∧ W.heap[1]? = some oA ∧ TabU8 W ∧ ∀ w : World, w.heap[0]? = some oF → w.heap[1]? = some oA → Utf8Tabs 0 1 w := by
  have hu : Utf8Tabs 0 1 W := utf8Tabs_of_readsT (U8Types.of196 vLays) ⟨by kernel_rfl, by kernel_rfl, by kernel_rfl, by kernel_rfl, by kernel_rfl, by kernel_rfl, by kernel_rfl⟩ h3 h4
  obtain ⟨g, t, cs, fuel, p, hg, hty, hvar, hd⟩ := h3
  obtain rfl := Option.some.inj ((show Tryd.prog.globalNamed "unicode/utf8.first" = some 0 by kernel_rfl).symm.trans hg)
  obtain rfl := Option.some.inj ((show (Tryd.prog.globals[0]?).map (·.type) = some 127 by kernel_rfl).symm.trans hty)
  obtain ⟨g, t, ds, fuel', p', hg', hty', hvar', hd'⟩ := h4
  obtain rfl := Option.some.inj ((show Tryd.prog.globalNamed "unicode/utf8.acceptRanges" = some 1 by kernel_rfl).symm.trans hg')
  obtain rfl := Option.some.inj ((show (Tryd.prog.globals[1]?).map (·.type) = some 130 by kernel_rfl).symm.trans hty')
  have l1 := trod_array_len Tryd.underlying127 hd
  have l2 := trod_array_len Tryd.underlying130 hd'
  rw [show Tryd.prog.cellsOf 127 = 256 by kernel_rfl] at l1
  rw [show Tryd.prog.cellsOf 130 = 32 by kernel_rfl] at l2
  have c1 := fun i => World.var?_cell hg hvar i
  have c2 := fun i => World.var?_cell hg' hvar' i
  have o1 : ∃ oF, W.heap[0]? = some oF := by
    simp only [World.var?, hg, Option.bind_some] at hvar
    split at hvar
    · rename_i e; exact ⟨_, e⟩
    · cases hvar
  have o2 : ∃ oA, W.heap[1]? = some oA := by
    simp only [World.var?, hg', Option.bind_some] at hvar'
    split at hvar'
    · rename_i e; exact ⟨_, e⟩
    · cases hvar'
  obtain ⟨oF, hF⟩ := o1
  obtain ⟨oA, hA⟩ := o2
  refine ⟨oF, oA, hF, hA, ?_, fun w e0 e1 => ?_⟩
  · intro b hb o u h
    rw [hcell_heapOf] at h
    rcases hb with rfl | rfl
    · have : o < 256 := by
        rw [c1] at h
        have := (Array.getElem?_eq_some_iff.1 h).1
        simp only [Array.length_toList] at l1
        omega
      rw [hu.1 o this] at h
      exact ⟨_, (Option.some.inj h).symm⟩
    · have : o < 32 := by
        rw [c2] at h
        have := (Array.getElem?_eq_some_iff.1 h).1
        simp only [Array.length_toList] at l2
        omega
      have hp := hu.2 (o / 2) (by omega)
      by_cases he : o % 2 = 0
      · rw [show 2 * (o / 2) = o by omega] at hp
        rw [hp.1] at h
        exact ⟨_, (Option.some.inj h).symm⟩
      · rw [show 2 * (o / 2) + 1 = o by omega] at hp
        rw [hp.2] at h
        exact ⟨_, (Option.some.inj h).symm⟩
  · have k0 : ∀ c, w.cell? ⟨0, c, none⟩ = W.cell? ⟨0, c, none⟩ := fun c => by
      rw [← hcell_heapOf, ← hcell_heapOf]; simp only [hcell, heapOf, e0, hF]
    have k1 : ∀ c, w.cell? ⟨1, c, none⟩ = W.cell? ⟨1, c, none⟩ := fun c => by
      rw [← hcell_heapOf, ← hcell_heapOf]; simp only [hcell, heapOf, e1, hA]
    exact ⟨fun c hc => by rw [k0]; exact hu.1 c hc, fun i hi => by rw [k1, k1]; exact hu.2 i hi⟩
/-- What the test of texts is. -/
def vD (s : ByteArray) : Bool := validD s.data.toList
theorem vD_asc : ∀ (s : ByteArray), (∀ b ∈ s.data.toList, b.toNat < 128) → vD s = true := by
  intro s h
  unfold vD
  rw [validD_ascii s.data.toList.length _ (by rw [List.take_length]; exact h), List.drop_length]
  rfl
theorem check_more {n b1 b2 b3 sz lo hi k : Nat} (h : checkN n b1 b2 b3 sz lo hi = some k) {c1 c2 c3 : Nat} (e1 : 1 < n → c1 = b1) (e2 : 2 < n → c2 = b2) (e3 : 3 < n → c3 = b3) : checkN (n + 1) c1 c2 c3 sz lo hi = some k ∧ 1 ≤ k ∧ k ≤ n := by
  unfold checkN at h ⊢
  by_cases s2 : sz = 2
  · rw [if_pos s2] at h ⊢
    split at h
    · cases h
    · rename_i hc
      cases h
      have := e1 (by omega)
      subst this
      rw [if_neg (by omega)]
      exact ⟨rfl, by omega, by omega⟩
  · rw [if_neg s2] at h ⊢
    by_cases s3 : sz = 3
    · rw [if_pos s3] at h ⊢
      split at h
      · cases h
      · rename_i hc
        cases h
        have := e1 (by omega)
        have := e2 (by omega)
        subst c1; subst c2
        rw [if_neg (by omega)]
        exact ⟨rfl, by omega, by omega⟩
    · rw [if_neg s3] at h ⊢
      by_cases s4 : sz = 4
      · rw [if_pos s4] at h ⊢
        split at h
        · cases h
        · rename_i hc
          cases h
          have := e1 (by omega)
          have := e2 (by omega)
          have := e3 (by omega)
          subst c1; subst c2; subst c3
          rw [if_neg (by omega)]
          exact ⟨rfl, by omega, by omega⟩
      · rw [if_neg s4] at h; cases h
theorem valid_app (b : UInt8) (hb : b.toNat < 128) : ∀ (n : Nat) (l : List UInt8), l.length ≤ n → validD l = true → validD (l ++ [b]) = true
  | _, [], _, _ => by rw [List.nil_append, validD_cons b [] hb]; rfl
  | 0, c :: t, h, _ => by simp at h
  | n + 1, c :: t, h, hv => by
    by_cases hc : c.toNat < 128
    · rw [List.cons_append, validD_cons c _ hc]
      rw [validD_cons c _ hc] at hv
      exact valid_app b hb n t (by simpa using h) hv
    · have g0 : ((c :: t).getD 0 0) = c := rfl
      have g0' : (((c :: t) ++ [b]).getD 0 0) = c := rfl
      rw [validD_lead (c :: t) (by simp) (by rw [g0]; omega)] at hv
      rw [validD_lead ((c :: t) ++ [b]) (by simp) (by rw [g0']; omega), g0']
      rw [g0] at hv
      split at hv
      · cases hv
      · rename_i k hk
        have gi : ∀ i, i < (c :: t).length → (((c :: t) ++ [b]).getD i 0) = (c :: t).getD i 0 := fun i hi => by
          simp only [List.getD_eq_getElem?_getD, List.getElem?_append_left hi]
        obtain ⟨q1, q2, q3⟩ := check_more hk (c1 := (((c :: t) ++ [b]).getD 1 0).toNat) (c2 := (((c :: t) ++ [b]).getD 2 0).toNat) (c3 := (((c :: t) ++ [b]).getD 3 0).toNat) (fun h => by rw [gi 1 h]) (fun h => by rw [gi 2 h]) (fun h => by rw [gi 3 h])
        rw [show ((c :: t) ++ [b]).length = (c :: t).length + 1 by simp, q1]
        simp only
        rw [List.drop_append_of_le_length q3]
        exact valid_app b hb n _ (by rw [List.length_drop]; simp only [List.length_cons] at h q3 ⊢; omega) hv
theorem vD_ok : VOk vD where
  asc := vD_asc
  app := fun s h => by
    unfold vD at h ⊢
    rw [ByteArray.data_append, Array.toList_append]
    exact valid_app 120 (by decide) _ _ (Nat.le_refl _) h
  odd := by unfold vD; decide +kernel
theorem noU8_ints (f : Int → T) (hf : ∀ n, (f n).noU8 = true) : ∀ l : List Int, T.noU8L (l.map f) = true
  | [] => rfl
  | x :: xs => by simp [T.noU8L, hf, noU8_ints f hf xs]
theorem noU8_int (l : List Int) : T.noU8 (.sl 1 (l.map (T.int .i64))) = true := by
  simp [T.noU8, noU8_ints (T.int .i64) (fun _ => rfl) l]
theorem noU8_strs : ∀ l : List ByteArray, T.noU8L (l.map .str) = true
  | [] => rfl
  | x :: xs => by simp [T.noU8L, T.noU8, noU8_strs xs]
mutual
theorem Nd.noU8 : ∀ x : Nd, x.toT.noU8 = true
  | .mk k b n t ns is => by simp [Nd.toT, T.noU8, T.noU8L, noU8_strs, Nd.noU8s is]
theorem Nd.noU8s : ∀ l : List Nd, T.noU8L (Nd.toTs l) = true
  | [] => rfl
  | x :: xs => by simp [Nd.toTs, T.noU8L, Nd.noU8 x, Nd.noU8s xs]
end
theorem RepT.int_any {h h' : Heap} {v : Value} {k : IntKind} {n : Int} (z : RepT h v (.int k n)) : RepT h' v (.int k n) := by simpa only [RepT] using z
theorem RepT.str_any {h h' : Heap} {v : Value} {n : ByteArray} (z : RepT h v (.str n)) : RepT h' v (.str n) := by simpa only [RepT] using z
end Go.AL
