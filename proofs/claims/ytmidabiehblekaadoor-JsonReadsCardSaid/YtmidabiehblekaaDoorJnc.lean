/- That the sanity check of the laws on nodes is true. -/
import Derived.Test.YtmidabiehblekaaDoorJnb
import Derived.Test.YtmidabiehblekaaDoorAl3
import Derived.Test.YtmidabiehblekaaDoorJna
import Derived.Test.YtmidabiehblekaaDoorNod1
import Derived.Lib.LaidU8T
import Derived.Test.YtmidabiehblekaaDoorTy
set_option linter.unusedVariables false
namespace Go.AL
open Go Go.Proofs Go.RowKit

def aS : ByteArray := ⟨#[97]⟩
def bS : ByteArray := ⟨#[98]⟩
def Nd.ofNum (n : Int) : Nd := .mk 2 false n eS [] []
def awM : Nd := .mk 5 false 0 eS [aS, bS] [Nd.ofNum 1, Nd.ofText xS]
def awX : Nd := .mk 5 false 0 eS [aS, bS] [Nd.ofNum 2, Nd.ofText xS]
theorem ofNum_ok (n : Int) : (Nd.ofNum n).Ok := .mk (by simp) (by simp) (by simp)
theorem ofNum_valid {V : ByteArray → Bool} (hV : VOk V) (n e : Int) (he : 1 ≤ e) : (Nd.ofNum n).validB V e = true := by
  rw [Nd.ofNum, valid_mk]
  exact ⟨he, by decide, by decide, by simp [Nd.fieldsOK, eS], text_empty hV, by simp, by simp, by simp⟩
theorem text_asc {V : ByteArray → Bool} (hV : VOk V) (s : ByteArray) (h1 : (s.size : Int) ≤ 65536) (h2 : ∀ b ∈ s.data.toList, b.toNat < 128) : textB V s = true := by
  unfold textB; rw [hV.asc s h2]; simp [h1]
end Go.AL

/- That the law NodeDeep is true, as a contract. -/
set_option linter.unusedVariables false
namespace Go.AL
open Go Go.Proofs Go.RowKit

def nest : Nat → Nd
  | 0 => Nd.zero
  | k + 1 => .mk 4 false 0 eS [] [nest k]
def flat (n : Nat) : Nd := .mk 4 false 0 eS [] (List.replicate n Nd.zero)
end Go.AL

/- What the laid tables of unicode/utf8 give: two blocks of bytes, over which ValidString may be called. -/
set_option linter.unusedVariables false
namespace Go.AL
open Go Go.Proofs Go.RowKit Go.Lib Go.Shelf

theorem trod_array_len {P : Program} {w : World} {t e : TypeId} {n fuel : Nat} {cs : List Value} {d : DataW Unit} {p : List MemPlace} (ht : P.underlying t = some (.array n e)) (h : DataW.trod (fun _ => ()) P w 0 (fun _ => true) false fuel t cs = some (d, p)) : cs.length = P.cellsOf t := by
  cases fuel with
  | zero => simp [DataW.trod] at h
  | succ fuel =>
    simp only [DataW.trod, ht] at h
    split at h
    · assumption
    · cases h
theorem tabs {W : World} (h3 : VarReads Tryd.prog W "unicode/utf8.first" Lib.firstData) (h4 : VarReads Tryd.prog W "unicode/utf8.acceptRanges" Lib.acceptData) :
    ∃ oF oA, W.heap[0]? = some oF ∧ W.heap[1]? = some oA ∧ TabU8 W ∧ ∀ w : World, w.heap[0]? = some oF → w.heap[1]? = some oA → Utf8Tabs 0 1 w := by
  have hu : Utf8Tabs 0 1 W := utf8Tabs_of_readsT (U8Types.of196 vLays) ⟨by kernel_rfl, by kernel_rfl, by kernel_rfl, by kernel_rfl, by kernel_rfl, by kernel_rfl, by kernel_rfl⟩ h3 h4
  obtain ⟨g, t, cs, fuel, p, hg, hty, hvar, hd⟩ := h3
  obtain rfl := Option.some.inj ((show Tryd.prog.globalNamed "unicode/utf8.first" = some 0 by kernel_rfl).symm.trans hg)
  obtain rfl := Option.some.inj ((show (Tryd.prog.globals[0]?).map (·.type) = some 79 by kernel_rfl).symm.trans hty)
  obtain ⟨g, t, ds, fuel', p', hg', hty', hvar', hd'⟩ := h4
  obtain rfl := Option.some.inj ((show Tryd.prog.globalNamed "unicode/utf8.acceptRanges" = some 1 by kernel_rfl).symm.trans hg')
  obtain rfl := Option.some.inj ((show (Tryd.prog.globals[1]?).map (·.type) = some 82 by kernel_rfl).symm.trans hty')
  have l1 := trod_array_len Tryd.underlying79 hd
  have l2 := trod_array_len Tryd.underlying82 hd'
  rw [show Tryd.prog.cellsOf 79 = 256 by kernel_rfl] at l1
  rw [show Tryd.prog.cellsOf 82 = 32 by kernel_rfl] at l2
  have c1 := fun i => World.var?_cell hg hvar i
  have c2 := fun i => World.var?_cell hg' hvar' i
  have o1 : ∃ oF, W.heap[0]? = some oF := by
    simp only [World.var?, hg, Option.bind_some] at hvar
    split at hvar
    · rename_i e; exact ⟨_, e⟩
    · cases hvar
  have o2 : ∃ oA, W.heap[1]? = some oA := by
    simp only [World.var?, hg', Option.bind_some] at hvar'
    split at hvar'
    · rename_i e; exact ⟨_, e⟩
    · cases hvar'
  obtain ⟨oF, hF⟩ := o1
  obtain ⟨oA, hA⟩ := o2
  refine ⟨oF, oA, hF, hA, ?_, fun w e0 e1 => ?_⟩
  · intro b hb o u h
    rw [hcell_heapOf] at h
    rcases hb with rfl | rfl
    · have : o < 256 := by
        rw [c1] at h
        have := (Array.getElem?_eq_some_iff.1 h).1
        simp only [Array.length_toList] at l1
        omega
      rw [hu.1 o this] at h
      exact ⟨_, (Option.some.inj h).symm⟩
    · have : o < 32 := by
        rw [c2] at h
        have := (Array.getElem?_eq_some_iff.1 h).1
        simp only [Array.length_toList] at l2
        omega
      have hp := hu.2 (o / 2) (by omega)
      by_cases he : o % 2 = 0
      · rw [show 2 * (o / 2) = o by omega] at hp
        rw [hp.1] at h
        exact ⟨_, (Option.some.inj h).symm⟩
      · rw [show 2 * (o / 2) + 1 = o by omega] at hp
        rw [hp.2] at h
        exact ⟨_, (Option.some.inj h).symm⟩
  · have k0 : ∀ c, w.cell? ⟨0, c, none⟩ = W.cell? ⟨0, c, none⟩ := fun c => by
      rw [← hcell_heapOf, ← hcell_heapOf]; simp only [hcell, heapOf, e0, hF]
    have k1 : ∀ c, w.cell? ⟨1, c, none⟩ = W.cell? ⟨1, c, none⟩ := fun c => by
      rw [← hcell_heapOf, ← hcell_heapOf]; simp only [hcell, heapOf, e1, hA]
    exact ⟨fun c hc => by rw [k0]; exact hu.1 c hc, fun i hi => by rw [k1, k1]; exact hu.2 i hi⟩
/-- What the test of texts is. -/
def vD (s : ByteArray) : Bool := validD s.data.toList
theorem vD_asc : ∀ (s : ByteArray), (∀ b ∈ s.data.toList, b.toNat < 128) → vD s = true := by
  intro s h
  unfold vD
  rw [validD_ascii s.data.toList.length _ (by rw [List.take_length]; exact h), List.drop_length]
  rfl
theorem check_more {n b1 b2 b3 sz lo hi k : Nat} (h : checkN n b1 b2 b3 sz lo hi = some k) {c1 c2 c3 : Nat} (e1 : 1 < n → c1 = b1) (e2 : 2 < n → c2 = b2) (e3 : 3 < n → c3 = b3) : checkN (n + 1) c1 c2 c3 sz lo hi = some k ∧ 1 ≤ k ∧ k ≤ n := by
  unfold checkN at h ⊢
  by_cases s2 : sz = 2
  · rw [if_pos s2] at h ⊢
    split at h
    · cases h
    · rename_i hc
      cases h
      have := e1 (by omega)
      subst this
      rw [if_neg (by omega)]
      exact ⟨rfl, by omega, by omega⟩
  · rw [if_neg s2] at h ⊢
    by_cases s3 : sz = 3
    · rw [if_pos s3] at h ⊢
      split at h
      · cases h
      · rename_i hc
        cases h
        have := e1 (by omega)
        have := e2 (by omega)
        subst c1; subst c2
        rw [if_neg (by omega)]
        exact ⟨rfl, by omega, by omega⟩
    · rw [if_neg s3] at h ⊢
      by_cases s4 : sz = 4
      · rw [if_pos s4] at h ⊢
        split at h
        · cases h
        · rename_i hc
          cases h
          have := e1 (by omega)
          have := e2 (by omega)
          have := e3 (by omega)
          subst c1; subst c2; subst c3
          rw [if_neg (by omega)]
          exact ⟨rfl, by omega, by omega⟩
      · rw [if_neg s4] at h; cases h
theorem valid_app (b : UInt8) (hb : b.toNat < 128) : ∀ (n : Nat) (l : List UInt8), l.length ≤ n → validD l = true → validD (l ++ [b]) = true
  | _, [], _, _ => by rw [List.nil_append, validD_cons b [] hb]; rfl
  | 0, c :: t, h, _ => by simp at h
  | n + 1, c :: t, h, hv => by
    by_cases hc : c.toNat < 128
    · rw [List.cons_append, validD_cons c _ hc]
      rw [validD_cons c _ hc] at hv
      exact valid_app b hb n t (by simpa using h) hv
    · have g0 : ((c :: t).getD 0 0) = c := rfl
      have g0' : (((c :: t) ++ [b]).getD 0 0) = c := rfl
      rw [validD_lead (c :: t) (by simp) (by rw [g0]; omega)] at hv
      rw [validD_lead ((c :: t) ++ [b]) (by simp) (by rw [g0']; omega), g0']
      rw [g0] at hv
      split at hv
      · cases hv
      · rename_i k hk
        have gi : ∀ i, i < (c :: t).length → (((c :: t) ++ [b]).getD i 0) = (c :: t).getD i 0 := fun i hi => by
          simp only [List.getD_eq_getElem?_getD, List.getElem?_append_left hi]
        obtain ⟨q1, q2, q3⟩ := check_more hk (c1 := (((c :: t) ++ [b]).getD 1 0).toNat) (c2 := (((c :: t) ++ [b]).getD 2 0).toNat) (c3 := (((c :: t) ++ [b]).getD 3 0).toNat) (fun h => by rw [gi 1 h]) (fun h => by rw [gi 2 h]) (fun h => by rw [gi 3 h])
        rw [show ((c :: t) ++ [b]).length = (c :: t).length + 1 by simp, q1]
        simp only
        rw [List.drop_append_of_le_length q3]
        exact valid_app b hb n _ (by rw [List.length_drop]; simp only [List.length_cons] at h q3 ⊢; omega) hv
theorem vD_ok : VOk vD where
  asc := vD_asc
  app := fun s h => by
    unfold vD at h ⊢
    rw [ByteArray.data_append, Array.toList_append]
    exact valid_app 120 (by decide) _ _ (Nat.le_refl _) h
  odd := by unfold vD; decide +kernel
theorem noU8_strs : ∀ l : List ByteArray, T.noU8L (l.map .str) = true
  | [] => rfl
  | x :: xs => by simp [T.noU8L, T.noU8, noU8_strs xs]
mutual
theorem Nd.noU8 : ∀ x : Nd, x.toT.noU8 = true
  | .mk k b n t ns is => by simp [Nd.toT, T.noU8, T.noU8L, noU8_strs, Nd.noU8s is]
theorem Nd.noU8s : ∀ l : List Nd, T.noU8L (Nd.toTs l) = true
  | [] => rfl
  | x :: xs => by simp [Nd.toTs, T.noU8L, Nd.noU8 x, Nd.noU8s xs]
end
end Go.AL

/- That the law NodePuts is true, as a contract. -/
set_option linter.unusedVariables false
namespace Go.AL
open Go Go.Proofs Go.RowKit

def putNames : List ByteArray := [⟨#[97]⟩, ⟨#[98]⟩, ⟨#[100]⟩, ⟨#[110, 101, 119]⟩]
end Go.AL

/- What the kit's Spoil answers. -/
set_option linter.unusedVariables false
namespace Go.AL
open Go Go.Proofs Go.RowKit

/-- The string whose byte at a place is changed by so much. -/
def spoil (s : ByteArray) (at_ by_ : Int) : ByteArray :=
  if s = ⟨#[]⟩ then s else
  strT ((bytesT s).set (modI at_ s.size).toNat (.int .u8 (IntKind.u8.wrap (((s.data.toList.getD (modI at_ s.size).toNat default).toNat : Int) + IntKind.u8.wrap by_))))
theorem ba_len (s : ByteArray) : s.size = s.data.toList.length := by cases s; rfl
set_option maxHeartbeats 2000000 in
theorem Spoil_spec (s : ByteArray) (a b : Int) (hs : s.size ≤ 4611686018427387903) : Spec Tryd.prog 19 [.t (.str s), .t (.int .i64 a), .t (.int .i64 b)] [] (.t (.str (spoil s a b))) [] := by
  have hm := Mod_spec a s.size (by omega)
  unfold spoil
  by_cases h0 : s = ⟨#[]⟩
  · rw [if_pos h0]
    refine spec_intro (env0 := [(0, _), (1, _), (2, _)]) (st0 := []) Tryd.func19 rfl rfl rfl rfl ?_
    repeat' (first | (with_reducible refine codeT_seq ?_) | (with_reducible refine codeT_skip ?_) | (with_reducible refine codeT_ret ?_) | (with_reducible refine codeT_regionL ?_) | (with_reducible refine lx_nil ?_) | (with_reducible refine q_then ?_) | (with_reducible refine q_then_ret ?_) | ((with_reducible refine g_move ?_); first | refine lx_move (r := (.t _)) rfl rfl rfl rfl rfl ?_ | refine lx_move (r := (.row _)) rfl rfl rfl rfl rfl ?_) | ((with_reducible refine g_binOp ?_); first | refine lx_str_eq rfl rfl rfl rfl rfl rfl ?_) | ((with_reducible refine g_assign ?_); first | refine lx_assign (r := (.t _)) rfl rfl rfl rfl rfl ?_ | refine lx_assign (r := (.row _)) rfl rfl rfl rfl rfl ?_) | ((with_reducible refine g_convert ?_); first | refine lx_toBytes rfl rfl rfl rfl rfl rfl ?_ ?_) | ((with_reducible refine g_len ?_); first | refine lx_len_rowmap rfl rfl rfl rfl rfl rfl ?_) | ((with_reducible refine g_call ?_); first | exact absurd h0 ‹_›) | refine c_condP rfl (fun hc => ?_) (fun hc => ?_))
    · exact q_ret (resT_oneE rfl rfl rfl) (by simp)
    all_goals first | exact absurd h0 ‹¬ s = ⟨#[]⟩› | omega
  · rw [if_neg h0]
    have hlt := modI_lt a s.size (by
      have : s.size ≠ 0 := fun e => h0 (by cases s with | mk d => cases d with | mk l => cases l with | nil => rfl | cons x xs => simp [ByteArray.size] at e)
      omega)
    generalize modI a s.size = k at *
    refine spec_intro (env0 := [(0, _), (1, _), (2, _)]) (st0 := []) Tryd.func19 rfl rfl rfl rfl ?_
    repeat' (first | (with_reducible refine codeT_seq ?_) | (with_reducible refine codeT_skip ?_) | (with_reducible refine codeT_ret ?_) | (with_reducible refine codeT_regionL ?_) | (with_reducible refine lx_nil ?_) | (with_reducible refine q_then ?_) | (with_reducible refine q_then_ret ?_) | ((with_reducible refine g_move ?_); first | refine lx_move (r := (.t _)) rfl rfl rfl rfl rfl ?_ | refine lx_move (r := (.row _)) rfl rfl rfl rfl rfl ?_) | ((with_reducible refine g_load ?_); first | refine lx_load_elsM rfl rfl rfl rfl rfl rfl rfl rfl ?_ ?_) | ((with_reducible refine g_binOp ?_); first | refine lx_arith rfl rfl rfl rfl rfl rfl rfl ?_ | refine lx_str_eq rfl rfl rfl rfl rfl rfl ?_) | ((with_reducible refine g_assign ?_); first | refine lx_assign (r := (.t _)) rfl rfl rfl rfl rfl ?_ | refine lx_assign (r := (.row _)) rfl rfl rfl rfl rfl ?_) | ((with_reducible refine g_store ?_); first | refine lx_store_slt rfl rfl rfl rfl rfl rfl ?_ ?_ ?_) | ((with_reducible refine g_indexAddr ?_); first | refine lx_indexAddr_row rfl rfl rfl rfl rfl rfl rfl ?_ ?_ ?_) | ((with_reducible refine g_convert ?_); first | refine lx_conv_int rfl rfl rfl rfl rfl ?_ | refine lx_toBytes rfl rfl rfl rfl rfl rfl ?_ ?_ | refine lx_ofBytes_row rfl rfl rfl rfl rfl rfl ?_ ?_) | ((with_reducible refine g_len ?_); first | refine lx_len_rowmap rfl rfl rfl rfl rfl rfl ?_) | ((with_reducible refine g_call ?_); first | refine lx_callT rfl rfl hm rfl rfl (ArgsLE.refl _) rfl rfl rfl rfl rfl ?_) | refine c_condP rfl (fun hc => ?_) (fun hc => ?_))
    all_goals try exact absurd ‹s = ⟨#[]⟩› h0
    all_goals try omega
    all_goals try (simp only [bytesT, List.length_map]; rw [← ba_len]; omega)
    all_goals try rfl
    · rw [← ba_len]; omega
    · intro e he
      rcases List.mem_or_eq_of_mem_set he with h | rfl
      · simp only [bytesT, List.mem_map] at h
        obtain ⟨c, _, rfl⟩ := h
        rfl
      · rfl
    · exact q_ret (resT_oneE rfl rfl rfl) (by simp)
end Go.AL

/- That the law NodeTexts is true, as a contract. -/
set_option linter.unusedVariables false
namespace Go.AL
open Go Go.Proofs Go.RowKit

end Go.AL

/- What an argument that is a node reads as. -/
set_option linter.unusedVariables false
namespace Go.AL
open Go Go.Proofs Go.RowKit Go.ChangeShapes Go.WideShapes

inductive NdB (mul : TypeId → Nat) (B : Nat) : Nd → Prop
  | mk {k : Int} {b : Bool} {n : Int} {t : ByteArray} {ns : List ByteArray} {is : List Nd} : (Lit.int .i64 k).wf = true → (Lit.int .i64 n).wf = true → t.size ≤ B → ns.length * mul 9 ≤ B → (∀ s ∈ ns, s.size ≤ B) → is.length * mul 26 ≤ B → (∀ x ∈ is, NdB mul B x) → NdB mul B (.mk k b n t ns is)

set_option maxRecDepth 100000 in
theorem node_open {H : Type} {enc : TypeId × Value → H} {w : World} {base : Nat} {spare : Nat → Bool} {held : Bool} {mul : TypeId → Nat} {wt : TypeId → DataW H → List Nat} {B : Nat} (hwt : WtOK Tryd.prog mul wt) : ∀ (fuel : Nat) (cs : List Value) (d : DataW H × List MemPlace), DataW.trod enc Tryd.prog w base spare held fuel 26 cs = some d → (∀ n ∈ wt 26 d.1, n ≤ B) →
    ∃ x : Nd, NdB mul B x ∧ cs.length = 6 ∧ ∀ (g : Nat → Option Value) (o : Nat), (∀ i u, cs[i]? = some u → g (o + i) = some u) → RepL (heapOf w) g o x.toT.cells := by
  intro fuel
  induction fuel using Nat.strongRecOn with
  | _ fuel ih =>
  intro cs d h hB
  obtain ⟨xs, m, hfu, rfl, hl, hlen, hf⟩ := DataW.trod_struct Tryd.underlying26 h
  have hc6 : Tryd.prog.cellsOf 26 = 6 := by kernel_rfl
  rw [hc6] at hl
  have hlen6 : xs.length = 6 := hlen
  obtain ⟨y0, y1, y2, y3, y4, y5, rfl⟩ : ∃ y0 y1 y2 y3 y4 y5, xs = [y0, y1, y2, y3, y4, y5] := by
    match xs, hlen6 with
    | [y0, y1, y2, y3, y4, y5], _ => exact ⟨_, _, _, _, _, _, rfl⟩
  obtain ⟨u0, u1, u2, u3, u4, u5, rfl⟩ : ∃ u0 u1 u2 u3 u4 u5, cs = [u0, u1, u2, u3, u4, u5] := by
    match cs, hl with
    | [u0, u1, u2, u3, u4, u5], _ => exact ⟨_, _, _, _, _, _, rfl⟩
  have part : ∀ {fs : Array Field} (hu : Tryd.prog.underlying 26 = some (.struct fs)) (i : Nat) (f : Field) (p : DataW H × List MemPlace), fs[i]? = some f → [y0, y1, y2, y3, y4, y5][i]? = some p → ∀ n ∈ wt f.type p.1, n ≤ B := fun {fs} hu i f p h1 h2 n hn => by
    obtain ⟨q, k1, k2⟩ := hwt.part 26 fs ([y0, y1, y2, y3, y4, y5].map (·.1)) i f p.1 hu h1 (by rw [List.getElem?_map, h2]; rfl) n hn
    exact Nat.le_trans k2 (hB q k1)
  have c3 : Tryd.prog.cellsOf 3 = 1 := by kernel_rfl
  have c4 : Tryd.prog.cellsOf 4 = 1 := by kernel_rfl
  have c9 : Tryd.prog.cellsOf 9 = 1 := by kernel_rfl
  have c23 : Tryd.prog.cellsOf 23 = 1 := by kernel_rfl
  have c24 : Tryd.prog.cellsOf 24 = 1 := by kernel_rfl
  have f0 : DataW.trod enc Tryd.prog w base spare held m 3 (([u0, u1, u2, u3, u4, u5].drop 0).take (Tryd.prog.cellsOf 3)) = some y0 := hf 0 _ rfl
  rw [c3] at f0
  have f1 : DataW.trod enc Tryd.prog w base spare held m 4 (([u0, u1, u2, u3, u4, u5].drop 1).take (Tryd.prog.cellsOf 4)) = some y1 := hf 1 _ rfl
  rw [c4] at f1
  have f2 : DataW.trod enc Tryd.prog w base spare held m 3 (([u0, u1, u2, u3, u4, u5].drop 2).take (Tryd.prog.cellsOf 3)) = some y2 := hf 2 _ rfl
  rw [c3] at f2
  have f3 : DataW.trod enc Tryd.prog w base spare held m 9 (([u0, u1, u2, u3, u4, u5].drop 3).take (Tryd.prog.cellsOf 9)) = some y3 := hf 3 _ rfl
  rw [c9] at f3
  have f4 : DataW.trod enc Tryd.prog w base spare held m 23 (([u0, u1, u2, u3, u4, u5].drop 4).take (Tryd.prog.cellsOf 23)) = some y4 := hf 4 _ rfl
  rw [c23] at f4
  have f5 : DataW.trod enc Tryd.prog w base spare held m 24 (([u0, u1, u2, u3, u4, u5].drop 5).take (Tryd.prog.cellsOf 24)) = some y5 := hf 5 _ rfl
  rw [c24] at f5
  obtain ⟨k, hk, _, r0⟩ := (Rd.int (k := .i64) Tryd.underlying3).opens f0 hwt (part Tryd.underlying26 0 _ y0 rfl rfl)
  obtain ⟨b, _, _, r1⟩ := (Rd.bool Tryd.underlying4).opens f1 hwt (part Tryd.underlying26 1 _ y1 rfl rfl)
  obtain ⟨n, hn, _, r2⟩ := (Rd.int (k := .i64) Tryd.underlying3).opens f2 hwt (part Tryd.underlying26 2 _ y2 rfl rfl)
  obtain ⟨t, ht, _, r3⟩ := (Rd.str Tryd.underlying9).opens f3 hwt (part Tryd.underlying26 3 _ y3 rfl rfl)
  obtain ⟨ns, hns, _, r4⟩ := (Rd.list Tryd.underlying23 c9 (by decide) (Rd.str Tryd.underlying9)).opens f4 hwt (part Tryd.underlying26 4 _ y4 rfl rfl)
  obtain ⟨v5, e5, o5, is, his, r5⟩ := slice_openF (toT := Nd.toT) (okX := NdB mul B) Tryd.underlying24 hc6 (by decide) (fun x => x.toT_agg.2) f5 hwt (fun fuel' hlt cs d hd hB' => ih fuel' (by omega) cs d hd hB') (part Tryd.underlying26 5 _ y5 rfl rfl)
  simp at e5
  subst e5
  have his' : (is.getD []).length * mul 26 ≤ B ∧ ∀ y ∈ is.getD [], NdB mul B y := by
    cases is with
    | none => exact ⟨by simp, by simp⟩
    | some l => exact (his l rfl).2
  refine ⟨.mk k b n t ns (is.getD []), .mk hk hn ht.2 hns.2.1 (fun s hs => (hns.2.2 s hs).2) his'.1 his'.2, rfl, fun g o hg => ?_⟩
  rw [Nd.toT_eq]
  simp only [T.cells, RepL, and_true]
  have s0 := r0 g o (fun i u hu => by match i, hu with | 0, hu => exact hg 0 u hu)
  have s1 := r1 g (o + 1) (fun i u hu => by match i, hu with | 0, hu => exact hg 1 u hu)
  have s2 := r2 g (o + 2) (fun i u hu => by match i, hu with | 0, hu => exact hg 2 u hu)
  have s3 := r3 g (o + 3) (fun i u hu => by match i, hu with | 0, hu => exact hg 3 u hu)
  have s4 := r4 g (o + 4) (fun i u hu => by match i, hu with | 0, hu => exact hg 4 u hu)
  have g5 := hg 5 u5 rfl
  simp only [Rd.int, Rd.bool, Rd.str, Rd.list, T.cells, RepL, and_true] at s0 s1 s2 s3 s4
  exact ⟨s0, s1, s2, s3, s4, u5, g5, o5, optT_sl r5⟩

set_option maxRecDepth 100000 in
def rdNode : Rd Tryd.prog 26 6 Nd where
  toT := Nd.toT
  ok mul B x := NdB mul B x
  len x := x.toT_agg.2
  opens h mul wt B hwt hB := node_open hwt _ _ _ h hB
  one hd hv mul wt B hwt hB := by
    obtain ⟨fuel, hf⟩ := hd
    obtain ⟨vs, rfl, hs⟩ := okWide_struct Tryd.underlying26 hv
    obtain ⟨x, h1, h2, h3⟩ := node_open hwt _ _ _ hf hB
    refine ⟨x, h1, ?_⟩
    have hc := h3 (fun j => vs[j]?) 0 (fun i u hu => by simpa [Value.cells] using hu)
    cases x
    rw [Nd.toT_eq] at hc ⊢
    simp only [RepT]
    simp only [T.cells] at hc
    refine ⟨vs, rfl, ?_, hc⟩
    have hc6 : Tryd.prog.cellsOf 26 = 6 := by kernel_rfl
    rw [hs, hc6]; rfl
theorem wf_i64 {n : Int} (h : (Lit.int .i64 n).wf = true) : -9223372036854775808 ≤ n ∧ n ≤ 9223372036854775807 := by
  simpa [Lit.wf, IntKind.min, IntKind.max, IntKind.signed, IntKind.bits] using h
theorem NdB.ok {x : Nd} (h : NdB Tryd.prog.bytesOf reachBytes x) : x.Ok := by
  induction h with
  | mk h1 h2 h3 h4 h5 h6 h7 ih =>
    have b9 : Tryd.prog.bytesOf 9 = 16 := by kernel_rfl
    have b26 : Tryd.prog.bytesOf 26 = 88 := by kernel_rfl
    rw [b9] at h4
    rw [b26] at h6
    have : reachBytes = 140737488351232 := rfl
    exact .mk (by omega) (by omega) ih
end Go.AL

/- What parse.Put and cbor.head answer. -/
set_option linter.unusedVariables false
namespace Go.AL
open Go Go.Proofs Go.RowKit

def u8L (l : List UInt8) : List T := l.map u8T
theorem u8L_len (l : List UInt8) : (u8L l).length = l.length := by simp [u8L]
theorem u8L_append (a b : List UInt8) : u8L (a ++ b) = u8L a ++ u8L b := by simp [u8L]
theorem wrapU8 {n : Int} (h0 : 0 ≤ n) (h : n < 256) : IntKind.u8.wrap n = n := by
  simp only [IntKind.wrap, IntKind.bits, IntKind.signed, Bool.false_and, Bool.false_eq_true, if_false]
  omega
def headJ (m n j : Nat) : List UInt8 := UInt8.ofNat (32 * m + (24 + j)) :: bigL (2 ^ j) n
end Go.AL

/- What the iterator over a node's items does: a round for each item, with its name. -/
set_option linter.unusedVariables false
namespace Go.AL
open Go Go.Proofs Go.RowKit

def nCells (k : Int) (b : Bool) (n : Int) (t : ByteArray) (ns : List ByteArray) (is : List Nd) : List T := [.int .i64 k, .bool b, .int .i64 n, .str t, .sl 1 (ns.map .str), .sl 6 (is.map Nd.toT)]
def nameAt (k : Int) (ns : List ByteArray) (i : Nat) : ByteArray := if k = 5 then ns.getD i default else eS
end Go.AL

/- What cbor.put answers: the bytes of a valid node. -/
set_option linter.unusedVariables false
namespace Go.AL
open Go Go.Proofs Go.RowKit

def preB (k : Int) (ns : List ByteArray) (is : List Nd) (i : Nat) : List UInt8 := if k = 5 then Nd.cbm (ns.take i) (is.take i) else Nd.cbs (is.take i)
theorem wrapU64 {n : Int} (h0 : 0 ≤ n) (h : n < 18446744073709551616) : IntKind.u64.wrap n = n := by
  simp only [IntKind.wrap, IntKind.bits, IntKind.signed, Bool.false_and, Bool.false_eq_true, if_false]
  omega
end Go.AL

/- What parse.Checked, cbor.Encode and cbor.Head answer. -/
set_option linter.unusedVariables false
namespace Go.AL
open Go Go.Proofs Go.RowKit

theorem u8L_isU8 (l : List UInt8) : IsU8 (u8L l) := by
  intro e he
  simp only [u8L, List.mem_map] at he
  obtain ⟨b, _, rfl⟩ := he
  rfl
theorem strT_u8L (l : List UInt8) : strT (u8L l) = ofL l := by
  unfold strT u8L strOfNums ofL
  rw [List.map_map, List.map_map]
  have : (((fun n => UInt8.ofNat n.toNat) ∘ T.num) ∘ u8T) = id := by
    funext b
    show UInt8.ofNat ((b.toNat : Int).toNat) = b
    simp
  rw [this, List.map_id]


end Go.AL

/- The sanity check of law 7, and the document's heads. -/
set_option linter.unusedVariables false
namespace Go.AL
open Go Go.Proofs Go.RowKit

theorem ofL_append (a b : List UInt8) : ofL a ++ ofL b = ofL (a ++ b) := by
  have h : (ofL a ++ ofL b).data.toList = (ofL (a ++ b)).data.toList := by
    rw [ByteArray.data_append, Array.toList_append, ofL_toList, ofL_toList, ofL_toList]
  have := congrArg ofL h
  rwa [ofL_of, ofL_of] at this
end Go.AL

/- That the law CborHeads is true, as a contract. -/
set_option linter.unusedVariables false
namespace Go.AL
open Go Go.Proofs Go.RowKit

def wantOf (k : Nat) : Int := if 4294967296 ≤ k then 9 else if 65536 ≤ k then 5 else if 256 ≤ k then 3 else if 24 ≤ k then 2 else 1
end Go.AL
