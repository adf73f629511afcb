/- What functions of the program and of the document answer, and the plain laws behind it; each under the conditions that its own theorem names. -/
import Derived.Test.YtmidabiehblekaaGreatDoorTa
import Derived.Test.YtmidabiehblekaaGreatDoorAl3
import Derived.Lib.LaidU8T
set_option linter.unusedVariables false
set_option linter.unusedSimpArgs false
namespace Go.AL
open Go Go.RowKit
theorem yz (V : ByteArray → Bool) (k : Int) (b : Bool) (n : Int) (t : ByteArray) (ns : List ByteArray) (is : List Nd) (e : Int) :
    (Nd.mk k b n t ns is).validB V e = true ↔ 1 ≤ e ∧ 0 ≤ k ∧ k ≤ 5 ∧ (Nd.mk k b n t ns is).fieldsOK = true ∧ yG V t = true ∧ (is.length : Int) ≤ 256 ∧ (k = 5 → xg (yG V) [] ns = true ∧ ns.length = is.length) ∧ ∀ x ∈ is, x.validB V (e - 1) = true := by
  rw [Nd.validB, Nd.anyBad_any]
  simp only [Bool.and_eq_true, Bool.not_eq_true', Bool.or_eq_false_iff, decide_eq_false_iff_not, Bool.not_eq_false', Bool.or_eq_true, decide_eq_true_eq, List.any_eq_false]
  constructor
  · rintro ⟨⟨⟨⟨⟨⟨⟨h1, h2⟩, h3⟩, h4⟩, h5⟩, h6⟩, h7⟩, h8⟩
    refine ⟨by omega, by omega, by omega, by simpa using h4, by simpa using h5, by omega, fun hk => ?_, fun x hx => by simpa using h8 x hx⟩
    rcases h7 with h7 | h7
    · exact absurd hk h7
    · exact ⟨h7.1, by omega⟩
  · rintro ⟨h1, h2, h3, h4, h5, h6, h7, h8⟩
    refine ⟨⟨⟨⟨⟨⟨⟨by omega, by omega⟩, by omega⟩, by simpa using h4⟩, by simpa using h5⟩, by omega⟩, ?_⟩, fun x hx => by simpa using h8 x hx⟩
    by_cases hk : k = 5
    · exact .inr ⟨(h7 hk).1, by have := (h7 hk).2; omega⟩
    · exact .inl hk
theorem xJ {V : ByteArray → Bool} (hV : VOk V) : yG V eS = true := by
  unfold yG
  rw [hV.asc eS (by simp [eS])]
  rfl
theorem zaY {V : ByteArray → Bool} (hV : VOk V) (e : Int) (he : 1 ≤ e) : Nd.zero.validB V e = true := by
  rw [Nd.zero, yz]
  exact ⟨he, by decide, by decide, by decide, xJ hV, by simp, by simp, by simp⟩
theorem vB (f : Dc → Nd × Dc) : ∀ (c : Nat) (d : Dc), (yI f c d).1.length = c
  | 0, d => rfl
  | c + 1, d => by simp [yI, vB f c]
theorem vx (f : Dc → Nd × Dc) (p : Nd → Prop) (h : ∀ d, p (f d).1) : ∀ (c : Nat) (d : Dc), ∀ x ∈ (yI f c d).1, p x
  | 0, d => by simp [yI]
  | c + 1, d => by
    intro x hx
    simp only [yI, List.mem_cons] at hx
    rcases hx with rfl | hx
    · exact h d
    · exact vx f p h c _ x hx
theorem zel : ∀ (f : Nat) (l : List Nd) (d : Dc), l.length ≤ 17 → (x7 f l d).1.length ≤ 17 ∧ ∀ x ∈ (x7 f l d).1, x ∈ l ∨ x = Nd.zero
  | 0, l, d, h => ⟨h, fun x hx => .inl hx⟩
  | f + 1, l, d, h => by
    have := d.next_lt 3 (by omega)
    simp only [x7]; split
    · obtain ⟨h1, h2⟩ := zel f (l ++ [Nd.zero]) (d.next 3).2 (by simp; omega)
      refine ⟨h1, fun x hx => ?_⟩
      rcases h2 x hx with h3 | h3
      · rcases List.mem_append.1 h3 with h4 | h4
        · exact .inl h4
        · exact .inr (by simpa using h4)
      · exact .inr h3
    · exact ⟨h, fun x hx => .inl hx⟩
theorem zaP : ∀ (c i : Nat) (d : Dc), (zH c i d).1.length = c
  | 0, i, d => rfl
  | c + 1, i, d => by simp [zH, zaP c]
theorem vA : ∀ (c i : Nat) (d : Dc), ∀ s ∈ (zH c i d).1, ∃ w ∈ yw, ∃ j, i ≤ j ∧ j < i + c ∧ s = w ++ zdr j
  | 0, i, d => by simp [zH]
  | c + 1, i, d => by
    intro s hs
    simp only [zH, List.mem_cons] at hs
    rcases hs with rfl | hs
    · exact ⟨_, d.word_mem yw (by simp [yw]), i, by omega, by omega, rfl⟩
    · obtain ⟨w, hw, j, h1, h2, h3⟩ := vA c (i + 1) _ s hs
      exact ⟨w, hw, j, by omega, by omega, h3⟩
theorem zhL {w w' : ByteArray} {i j : Nat} (hi : i < 100) (hj : j < 100) (h : w ++ zdr i = w' ++ zdr j) : i = j := by
  have h2 := congrArg (fun s : ByteArray => s.data.toList) h
  simp only [ByteArray.data_append, Array.toList_append] at h2
  have h3 := (List.append_inj' h2 rfl).2
  simp only [zdr, List.cons.injEq, and_true] at h3
  have h4 := congrArg UInt8.toNat h3.1
  have h5 := congrArg UInt8.toNat h3.2
  simp only [UInt8.toNat_ofNat'] at h4 h5
  omega
theorem kc : ∀ (c i : Nat) (d : Dc), i + c ≤ 100 → (zH c i d).1.Nodup
  | 0, i, d, _ => by simp [zH]
  | c + 1, i, d, h => by
    simp only [zH, List.nodup_cons]
    refine ⟨fun hm => ?_, kc c (i + 1) _ (by omega)⟩
    obtain ⟨w, hw, j, h1, h2, h3⟩ := vA c (i + 1) _ _ hm
    have := zhL (by omega) (by omega) h3
    omega
theorem ziu (j : Nat) (h : j < 100) : ∀ b ∈ (zdr j).data.toList, b.toNat < 128 := by
  intro b hb
  simp only [zdr, List.mem_cons, List.not_mem_nil, or_false] at hb
  rcases hb with rfl | rfl <;> simp only [UInt8.toNat_ofNat'] <;> omega
theorem xE : ∀ w ∈ yw, (∀ b ∈ w.data.toList, b.toNat < 128) ∧ w.size ≤ 1 := by
  intro w hw
  simp only [yw, List.mem_cons, List.not_mem_nil, or_false] at hw
  rcases hw with rfl | rfl | rfl | rfl | rfl <;> exact ⟨by decide, by decide⟩
theorem zea {V : ByteArray → Bool} (hV : VOk V) (c i : Nat) (d : Dc) (h : i + c ≤ 100) : ∀ s ∈ (zH c i d).1, yG V s = true := by
  intro s hs
  obtain ⟨w, hw, j, h1, h2, rfl⟩ := vA c i d s hs
  have hw2 := xE w hw
  unfold yG
  rw [hV.asc _ ?_]
  · have : (zdr j).size = 2 := rfl
    rw [ByteArray.size_append]
    simp; omega
  · intro b hb
    rw [ByteArray.data_append, Array.toList_append] at hb
    rcases List.mem_append.1 hb with hb | hb
    · exact hw2.1 b hb
    · exact ziu j (by omega) b hb
theorem zjH {V : ByteArray → Bool} (hV : VOk V) (k : Int) (hk : k = 4 ∨ k = 5) (f : Dc → Nd × Dc) (e : Int) (he : 2 ≤ e) (hf : ∀ d, (f d).1.validB V (e - 1) = true) (d : Dc) : (zda k f d).1.validB V e = true := by
  have hq := d.next_lt 4 (by omega)
  have hl := vB f (d.next 4).1.toNat (d.next 4).2
  have ha := vx f (fun x => x.validB V (e - 1) = true) hf (d.next 4).1.toNat (d.next 4).2
  unfold zda
  simp only
  generalize yI f (d.next 4).1.toNat (d.next 4).2 = is at hl ha ⊢
  have hg : ∃ g : List Nd × Dc, (if (is.2.next 20).1 = 1 then x7 20 is.1 (is.2.next 20).2 else (is.1, (is.2.next 20).2)) = g ∧ g.1.length ≤ 17 ∧ ∀ x ∈ g.1, x.validB V (e - 1) = true := by
    refine ⟨_, rfl, ?_⟩
    split
    · obtain ⟨h1, h2⟩ := zel 20 is.1 (is.2.next 20).2 (by omega)
      refine ⟨h1, fun x hx => ?_⟩
      rcases h2 x hx with h | rfl
      · exact ha x h
      · exact zaY hV _ (by omega)
    · exact ⟨by simp only; omega, ha⟩
  obtain ⟨g, e1, e2, e3⟩ := hg
  rw [e1, yz]
  refine ⟨by omega, by omega, by omega, ?_, xJ hV, by omega, fun h5 => ?_, e3⟩
  · rcases hk with rfl | rfl <;> simp [Nd.fieldsOK, eS]
  · subst h5
    simp only [if_true]
    exact ⟨(yZ _ _ _).2 ⟨kc _ _ _ (by omega), fun s hs => ⟨by simp, zea hV _ _ _ (by omega) s hs⟩⟩, zaP _ _ _⟩
theorem zbH {V : ByteArray → Bool} (hV : VOk V) (rec : Option (Dc → Nd × Dc)) (e : Int) (he : 1 ≤ e) (hf : ∀ f, rec = some f → 2 ≤ e ∧ ∀ d, (f d).1.validB V (e - 1) = true) (d : Dc) : (vU rec d).1.validB V e = true := by
  unfold vU
  simp only
  split
  · rw [yz]
    exact ⟨he, by decide, by decide, by simp [Nd.fieldsOK, eS], xJ hV, by simp, by simp, by simp⟩
  · split
    · rw [yz]
      exact ⟨he, by decide, by decide, by simp [Nd.fieldsOK, eS], xJ hV, by simp, by simp, by simp⟩
    · split
      · rw [yz]
        have := zev hV (d.next 6).2
        exact ⟨he, by decide, by decide, by simp [Nd.fieldsOK], by simp [yG, this.1]; omega, by simp, by simp, by simp⟩
      · split
        · rename_i hk
          split
          · rw [yz]
            refine ⟨he, by omega, by omega, ?_, xJ hV, by simp, fun _ => by simp [xg], by simp⟩
            rcases hk with h | h <;> simp [Nd.fieldsOK, eS, h]
          · rename_i f
            exact zjH hV _ hk f e (hf f rfl).1 (hf f rfl).2 _
        · exact zaY hV e he
theorem ze2 {V : ByteArray → Bool} (hV : VOk V) : ∀ (n : Nat) (d : Dc) (e : Int), 1 ≤ e → (n : Int) ≤ e → (kS n d).1.validB V e = true
  | 0, d, e, h1, h2 => zbH hV none e h1 (by simp) d
  | 1, d, e, h1, h2 => zbH hV none e h1 (by simp) d
  | n + 2, d, e, h1, h2 => zbH hV _ e h1 (by
      rintro f h
      cases h
      exact ⟨by omega, fun d => ze2 hV (n + 1) d (e - 1) (by omega) (by omega)⟩) d
end Go.AL
set_option linter.unusedSimpArgs false
namespace Go.AL
open Go Go.RowKit
mutual
def Nd.same : Nd → Nd → Bool
  | .mk k b n t ns is, .mk k' b' n' t' ns' is' => decide (k = k') && decide (b = b') && decide (n = n') && decide (t = t') && decide (ns = ns') && Nd.sames is is'
def Nd.sames : List Nd → List Nd → Bool
  | [], [] => true
  | x :: xs, y :: ys => x.same y && Nd.sames xs ys
  | [], _ :: _ => false
  | _ :: _, [] => false
end
mutual
theorem Nd.same_iff : ∀ x y : Nd, x.same y = true ↔ x = y
  | .mk k b n t ns is, .mk k' b' n' t' ns' is' => by
    simp only [Nd.same, Bool.and_eq_true, decide_eq_true_eq, Nd.sames_iff is is', Nd.mk.injEq]
    constructor
    · rintro ⟨⟨⟨⟨⟨h1, h2⟩, h3⟩, h4⟩, h5⟩, h6⟩; exact ⟨h1, h2, h3, h4, h5, h6⟩
    · rintro ⟨h1, h2, h3, h4, h5, h6⟩; exact ⟨⟨⟨⟨⟨h1, h2⟩, h3⟩, h4⟩, h5⟩, h6⟩
theorem Nd.sames_iff : ∀ x y : List Nd, Nd.sames x y = true ↔ x = y
  | [], [] => by simp [Nd.sames]
  | x :: xs, y :: ys => by simp only [Nd.sames, Bool.and_eq_true, Nd.same_iff x y, Nd.sames_iff xs ys, List.cons.injEq]
  | [], _ :: _ => by simp [Nd.sames]
  | _ :: _, [] => by simp [Nd.sames]
end
theorem Nd.same_refl (x : Nd) : x.same x = true := (Nd.same_iff x x).2 rfl
structure Nd.IsMap (m : Nd) : Prop where
  kind : m.kind = 5
  len : m.names.length = m.items.length
  nodup : m.names.Nodup
theorem Nd.IsMap.place_eq {m : Nd} (h : m.IsMap) (s : ByteArray) : m.place s = zjY s m.names 0 := by
  unfold Nd.place
  rw [if_pos h.kind, ← h.len, Nat.min_self, List.take_length]
theorem Nd.IsMap.place_at {m : Nd} (h : m.IsMap) {i : Nat} {s : ByteArray} (hi : m.names[i]? = some s) : m.place s = i := by
  rw [h.place_eq, zhf s _ 0 i h.nodup hi]; omega
theorem Nd.IsMap.set {m : Nd} (h : m.IsMap) (s : ByteArray) (v : Nd) : (m.set s v).IsMap := by
  unfold Nd.set
  split
  · exact ⟨h.kind, by simpa [Nd.names, Nd.items] using h.len, h.nodup⟩
  · rename_i hp
    refine ⟨h.kind, by simp only [Nd.names, Nd.items, List.length_append, List.length_singleton]; have := h.len; simp only [Nd.names, Nd.items] at this; cases m; simpa using this, ?_⟩
    show (m.names ++ [s]).Nodup
    rw [List.nodup_append]
    refine ⟨h.nodup, by simp, fun a ha b hb => ?_⟩
    simp only [List.mem_singleton] at hb
    subst hb
    rintro rfl
    obtain ⟨i, hi⟩ := List.getElem?_of_mem ha
    have := h.place_at hi
    omega
def ofL (l : List UInt8) : ByteArray := ⟨l.toArray⟩
theorem xK (l : List UInt8) : (ofL l).data.toList = l := by simp [ofL]
theorem yA (l : List UInt8) : (ofL l).size = l.length := by simp [ofL, ByteArray.size]
theorem zaK (s : ByteArray) : ofL s.data.toList = s := by cases s; simp [ofL]
theorem vQ (l : List UInt8) (a b : Nat) : (ofL l).extract a b = ofL ((l.drop a).take (b - a)) := by
  have h : ((ofL l).extract a b).data.toList = (ofL ((l.drop a).take (b - a))).data.toList := by
    rw [xK]; simp [ofL, ByteArray.data_extract]
  have := congrArg ofL h
  rwa [zaK, zaK] at this
def xH : Nat → Nat → List UInt8
  | 0, _ => []
  | k + 1, n => UInt8.ofNat (n / 256 ^ k) :: xH k n
theorem zP : ∀ k n, (xH k n).length = k
  | 0, n => rfl
  | k + 1, n => by simp [xH, zP k n]
def hdL (m n : Nat) : List UInt8 :=
  if n < 24 then [UInt8.ofNat (32 * m + n)] else if n < 256 then UInt8.ofNat (32 * m + 24) :: xH 1 n
  else if n < 65536 then UInt8.ofNat (32 * m + 25) :: xH 2 n else if n < 4294967296 then UInt8.ofNat (32 * m + 26) :: xH 4 n
  else UInt8.ofNat (32 * m + 27) :: xH 8 n
mutual
def Nd.cb : Nd → List UInt8
  | .mk k b n t ns is =>
    if k = 0 then hdL 7 22 else if k = 1 then hdL 7 (if b then 21 else 20) else if k = 2 then (if n < 0 then hdL 1 (-1 - n).toNat else hdL 0 n.toNat)
    else if k = 3 then hdL 3 t.size ++ t.data.toList else if k = 4 then hdL 4 is.length ++ Nd.cbs is else hdL 5 is.length ++ Nd.cbm ns is
def Nd.cbs : List Nd → List UInt8
  | [] => []
  | x :: xs => x.cb ++ Nd.cbs xs
def Nd.cbm : List ByteArray → List Nd → List UInt8
  | s :: ns, x :: xs => hdL 3 s.size ++ s.data.toList ++ x.cb ++ Nd.cbm ns xs
  | _, _ => []
end
structure Rs where
  s : ByteArray
  bad : Bool
def Rs.take (r : Rs) (n : Int) : ByteArray × Rs :=
  if r.bad = true ∨ n < 0 ∨ (r.s.size : Int) < n then (eS, ⟨r.s, true⟩) else (r.s.extract 0 n.toNat, ⟨r.s.extract n.toNat r.s.size, false⟩)
def Rs.byte (r : Rs) : Int × Rs := (if (r.take 1).1 = eS then 0 else bAt (r.take 1).1 0, (r.take 1).2)
def xN (n : Int) (b : UInt8) : Int := n * 256 % 18446744073709551616 + b.toNat
def Rs.uint (r : Rs) (k : Int) : Int × Rs := ((r.take k).1.data.toList.foldl xN 0, (r.take k).2)
def Rs.fits (r : Rs) (n : Int) : Int × Rs := if (r.s.size : Int) < n then (0, ⟨r.s, true⟩) else (n, r)
def zU (r : Rs) : (Int × Int) × Rs :=
  if r.byte.1 % 32 < 24 then ((r.byte.1 / 32, r.byte.1 % 32), r.byte.2)
  else if 27 < r.byte.1 % 32 then ((r.byte.1 / 32, 0), ⟨r.byte.2.s, true⟩)
  else ((r.byte.1 / 32, (r.byte.2.uint (2 ^ (r.byte.1 % 32 - 24).toNat)).1), (r.byte.2.uint (2 ^ (r.byte.1 % 32 - 24).toNat)).2)
def y7 (r : Rs) (n : Int) : ByteArray × Rs := (r.fits n).2.take (r.fits n).1
def xV (r : Rs) : ByteArray × Rs := y7 (if (zU r).1.1 = 3 then (zU r).2 else ⟨(zU r).2.s, true⟩) (zU r).1.2
def zS (f : Rs → Nd × Rs) (k : Int) : Nat → List ByteArray → List Nd → Rs → Nd × Rs
  | 0, ns, is, r => (.mk k false 0 eS ns is, r)
  | c + 1, ns, is, r => if r.bad = true then (.mk k false 0 eS ns is, r)
    else if k = 5 then zS f k c (ns ++ [(xV r).1]) (is ++ [(f (xV r).2).1]) (f (xV r).2).2
    else zS f k c ns (is ++ [(f r).1]) (f r).2
def i64 (n : Int) : Int := IntKind.i64.wrap n
def yQ : Nat → Rs → Nd × Rs
  | 0, r => (Nd.zero, ⟨(zU r).2.s, true⟩)
  | d + 1, r =>
    let m := (zU r).1.1
    let n := (zU r).1.2
    let q := (zU r).2
    if m = 0 then (.mk 2 false (i64 n) eS [] [], q)
    else if m = 1 then (.mk 2 false (-1 - i64 n) eS [] [], q)
    else if m = 3 then (.mk 3 false 0 (y7 q n).1 [] [], (y7 q n).2)
    else if m = 4 then zS (yQ d) 4 (q.fits n).1.toNat [] [] (q.fits n).2
    else if m = 5 then zS (yQ d) 5 (q.fits n).1.toNat [] [] (q.fits n).2
    else if m = 7 ∧ (n = 21 ∨ n = 20) then (.mk 1 (decide (n = 21)) 0 eS [] [], q)
    else (Nd.zero, q)
theorem wR (a b : List UInt8) : (Rs.mk (ofL (a ++ b)) false).take a.length = (ofL a, ⟨ofL b, false⟩) := by
  unfold Rs.take
  rw [if_neg (by rw [yA]; simp; omega)]
  simp [vQ, yA]
theorem xC (a : UInt8) (b : List UInt8) : (Rs.mk (ofL (a :: b)) false).byte = ((a.toNat : Int), ⟨ofL b, false⟩) := by
  have h := wR [a] b
  simp only [List.length_singleton, List.singleton_append] at h
  unfold Rs.byte
  rw [show ((1 : Nat) : Int) = 1 from rfl] at h
  rw [h]
  simp only
  rw [if_neg (by intro e; have := congrArg ByteArray.size e; rw [yA] at this; have h2 : (1 : Nat) = 0 := this; omega)]
  simp [bAt, ofL]
theorem zbu : ∀ (k n : Nat) (acc : Nat), acc * 256 ^ k + n % 256 ^ k < 18446744073709551616 → (xH k n).foldl xN acc = ((acc * 256 ^ k + n % 256 ^ k : Nat) : Int)
  | 0, n, acc, h => by simp [xH, Nat.mod_one]
  | k + 1, n, acc, h => by
    have hp : 0 < 256 ^ k := Nat.pos_of_ne_zero (by simp)
    have e1 : n % 256 ^ (k + 1) = (n / 256 ^ k % 256) * 256 ^ k + n % 256 ^ k := by
      rw [Nat.pow_succ, Nat.mod_mul]; rw [Nat.mul_comm]; omega
    have e2 : acc * 256 ^ (k + 1) = (acc * 256) * 256 ^ k := by rw [Nat.pow_succ, Nat.mul_comm (256 ^ k) 256, Nat.mul_assoc]
    have e3 : (acc * 256) * 256 ^ k + (n / 256 ^ k % 256) * 256 ^ k = (acc * 256 + n / 256 ^ k % 256) * 256 ^ k := by rw [Nat.add_mul]
    have hb : acc * 256 + n / 256 ^ k % 256 < 18446744073709551616 := by
      rw [e1, e2] at h
      have := Nat.le_mul_of_pos_right (acc * 256 + n / 256 ^ k % 256) hp
      omega
    have hs : xN (acc : Int) (UInt8.ofNat (n / 256 ^ k)) = ((acc * 256 + n / 256 ^ k % 256 : Nat) : Int) := by
      unfold xN
      rw [UInt8.toNat_ofNat']
      omega
    simp only [xH, List.foldl_cons]
    have e4 : (acc * 256 + n / 256 ^ k % 256) * 256 ^ k + n % 256 ^ k = acc * 256 ^ (k + 1) + n % 256 ^ (k + 1) := by rw [e1, e2, ← e3]; omega
    rw [hs, zbu k n _ (by rw [e4]; exact h), e4]
theorem zh6 (k n : Nat) (b : List UInt8) (h : n < 256 ^ k) (hk : 256 ^ k ≤ 18446744073709551616) : (Rs.mk (ofL (xH k n ++ b)) false).uint k = ((n : Int), ⟨ofL b, false⟩) := by
  have ht := wR (xH k n) b
  rw [zP] at ht
  unfold Rs.uint
  rw [ht]
  simp only [xK]
  have := zbu k n 0 (by rw [Nat.mod_eq_of_lt h]; omega)
  rw [Nat.mod_eq_of_lt h] at this
  simp only [Nat.zero_mul, Nat.zero_add] at this
  rw [← this]; rfl
theorem xD (m n : Nat) (b : List UInt8) (hm : m < 8) (hn : n < 18446744073709551616) : zU ⟨ofL (hdL m n ++ b), false⟩ = (((m : Int), (n : Int)), ⟨ofL b, false⟩) := by
  have hb : ∀ j, j < 32 → (UInt8.ofNat (32 * m + j)).toNat = 32 * m + j := fun j hj => by
    rw [UInt8.toNat_ofNat']; omega
  unfold hdL
  split
  · rename_i h
    rw [List.singleton_append]
    unfold zU
    rw [xC, hb n (by omega)]
    simp only
    rw [if_pos (by omega)]
    congr 2 <;> omega
  · have key : ∀ (i : Nat), i < 4 → n < 256 ^ (2 ^ i) → zU ⟨ofL (UInt8.ofNat (32 * m + (24 + i)) :: (xH (2 ^ i) n ++ b)), false⟩ = (((m : Int), (n : Int)), ⟨ofL b, false⟩) := by
      intro i hi hlt
      unfold zU
      rw [xC, hb _ (by omega)]
      simp only
      rw [if_neg (by omega), if_neg (by omega)]
      have e : (((32 * m + (24 + i) : Nat) : Int) % 32 - 24).toNat = i := by omega
      have hk : 256 ^ (2 ^ i) ≤ 18446744073709551616 := by
        match i, hi with
        | 0, _ | 1, _ | 2, _ | 3, _ => decide
      have hu := zh6 (2 ^ i) n b hlt hk
      have e2 : ((2 ^ i : Nat) : Int) = 2 ^ i := by simp
      rw [e2] at hu
      rw [e, hu]
      simp only
      congr 2; omega
    split
    · exact key 0 (by omega) (by simpa using ‹n < 256›)
    · split
      · exact key 1 (by omega) (by simpa using ‹n < 65536›)
      · split
        · exact key 2 (by omega) (by simpa using ‹n < 4294967296›)
        · exact key 3 (by omega) (by simpa using hn)
theorem zeF (a b : List UInt8) : y7 ⟨ofL (a ++ b), false⟩ a.length = (ofL a, ⟨ofL b, false⟩) := by
  unfold y7 Rs.fits
  rw [if_neg (by rw [yA]; simp; omega)]
  exact wR a b
theorem zhK (s : ByteArray) (b : List UInt8) (hs : s.size < 18446744073709551616) : xV ⟨ofL (hdL 3 s.size ++ s.data.toList ++ b), false⟩ = (s, ⟨ofL b, false⟩) := by
  unfold xV
  rw [List.append_assoc, xD 3 s.size _ (by omega) hs]
  simp only
  rw [if_pos (show ((3 : Nat) : Int) = 3 from rfl)]
  have h := zeF s.data.toList b
  rw [zaK] at h
  exact h
inductive Nd.In : Nd → Prop
  | mk {k : Int} {b : Bool} {n : Int} {t : ByteArray} {ns : List ByteArray} {is : List Nd} : -9223372036854775808 ≤ n → n ≤ 9223372036854775807 → (∀ x ∈ is, x.In) → Nd.In (.mk k b n t ns is)
theorem qJ (m n : Nat) : 1 ≤ (hdL m n).length := by
  unfold hdL; repeat' split
  all_goals simp
theorem ziK (x : Nd) : 1 ≤ x.cb.length := by
  cases x
  simp only [Nd.cb]
  repeat' split
  all_goals first | exact qJ _ _ | (rw [List.length_append]; have := qJ 3 (by assumption : ByteArray).size; omega) | skip
  all_goals (rw [List.length_append]; rename_i is _ _ _ _ _; have h4 := qJ 4 is.length; have h5 := qJ 5 is.length; omega)
theorem zhD : ∀ is : List Nd, is.length ≤ (Nd.cbs is).length
  | [] => by simp
  | x :: xs => by
    have := ziK x
    have := zhD xs
    simp only [Nd.cbs, List.length_append, List.length_cons]; omega
theorem zgo : ∀ (ns : List ByteArray) (is : List Nd), ns.length = is.length → is.length ≤ (Nd.cbm ns is).length
  | [], [], _ => by simp
  | s :: ns, x :: xs, h => by
    have := ziK x
    have := zgo ns xs (by simpa using h)
    simp only [Nd.cbm, List.length_append, List.length_cons]; omega
  | [], _ :: _, h => by simp at h
  | _ :: _, [], h => by simp at h
end Go.AL
namespace Go.AL
open Go Go.Proofs Go.RowKit
set_option maxHeartbeats 1000000 in
theorem wm {oF oA : Obj} {V : ByteArray → Bool} (hV : vm oF oA V) (x : Nd) (hx : x.Ok) : Spec Tryz.prog 72 [.t x.toT] [(.par 100, .dat (.fix 0 oF)), (.par 101, .dat (.fix 1 oA))] (.t (.bool (x.validB V 8))) [(.par 100, .dat (.fix 0 oF)), (.par 101, .dat (.fix 1 oA))] := by
  have h := ze8 hV x hx 8 (by omega) (by omega)
  generalize x.validB V 8 = v at h ⊢
  cases x with
  | mk k b n t ns is =>
  rw [Nd.toT_eq] at *
  refine wI Tryz.func72 ?_
  repeat' (first | refine wC ?_ | refine wK ?_ | ((with_reducible refine ze ?_); refine wN (.t (.bool v)) [] h ?_))
  exact zm (zj rfl rfl rfl) (zc ⟨rfl, rfl, trivial⟩)
theorem Spec.res {P : Program} {f : FuncId} {args : List AV} {S S' : StL} {r r' : T} (h : Spec P f args S (.t r) S') (e : r = r') : Spec P f args S (.t r') S' := e ▸ h
theorem yR : Nd.zero.toT = .agg [.int .i64 0, .bool false, .int .i64 0, .str ⟨#[]⟩, .sl 1 [], .sl 6 []] := Nd.toT_eq _ _ _ _ _ _
theorem Nd.toT_full (x : Nd) : x.toT = .agg [.int .i64 x.kind, .bool x.bool, .int .i64 x.num, .str x.text, .sl 1 (x.names.map .str), .sl 6 (x.items.map Nd.toT)] := by
  cases x; exact Nd.toT_eq _ _ _ _ _ _
def Dc.row (d : Dc) : Row := .var 74 [.t (.sl 1 (d.l.map (T.int .i64))), .t (.int .i64 d.k)]
set_option maxHeartbeats 1000000 in
theorem zfq (l : List Int) : Spec Tryz.prog 12 [.t (.sl 1 (l.map (T.int .i64)))] [] (.t (.bool (decide ((l.length : Int) ≤ 500)))) [] := by
  refine wI Tryz.func12 ?_
  repeat' (first | refine wC ?_ | refine wK ?_ | fail)
  exact zm (zj rfl rfl rfl) (by simp)
set_option maxHeartbeats 1000000 in
theorem zhh (l : List Int) : Spec Tryz.prog 14 [.t (.sl 1 (l.map (T.int .i64)))] [] (.ref (.res 0) 0 0 0) [(.res 0, (Dc.mk l 0).row)] := by
  unfold Dc.row
  refine wIG Tryz.func14 ?_
  repeat' (first | refine wC ?_ | refine wK ?_ | fail)
  refine zk ((za [2] [.loc 5] rfl rfl).trans (zd (.loc 5) (.res 0) rfl rfl rfl rfl)) ?_
  exact zE (zm (zt rfl (AVLE.refl _)) (zc ⟨rfl, trivial⟩))
theorem zha (n m : Int) (h : 1 ≤ m) : (n.tmod m + m).tmod m = zig n m ∧ 0 ≤ n.tmod m + m ∧ n.tmod m + m ≤ 2 * m := by
  have h1 : -m < n.tmod m ∧ n.tmod m < m := by
    have a := Int.tmod_lt_of_pos n (b := m) (by omega)
    have b := Int.lt_tmod_of_pos n (b := m) (by omega)
    exact ⟨b, a⟩
  refine ⟨?_, by omega, by omega⟩
  unfold zig
  rw [if_neg (by omega), Int.tmod_eq_emod_of_nonneg (by omega), Int.tmod_def, show n - m * n.tdiv m + m = n + m * (1 - n.tdiv m) by rw [Int.mul_sub]; omega, Int.add_mul_emod_self_left]
set_option maxHeartbeats 1000000 in
theorem ziw (n m : Int) (h : m ≤ 4611686018427387903) : Spec Tryz.prog 32 [.t (.int .i64 n), .t (.int .i64 m)] [] (.t (.int .i64 (zig n m))) [] := by
  refine wI Tryz.func32 ?_
  repeat' (first | refine wC ?_ | refine wK ?_ | ((with_reducible refine zO ?_); refine ziI rfl rfl rfl rfl rfl rfl ?_ ?_) | refine zh rfl ?_ ?_ <;> intro hc)
  all_goals try omega
  · exact zm (zj rfl rfl (by unfold zig; rw [if_pos hc])) (by simp)
  · have e := zha n m (by omega)
    refine zm (zj rfl rfl ?_) (by simp)
    rw [zy (by omega) (by omega), e.1]
set_option maxHeartbeats 1000000 in
theorem yB (d : Dc) (n : Int) (h : n ≤ 4611686018427387903) (hd : d.l.length ≤ 1000) : Spec Tryz.prog 27 [.ref (.par 0) 0 0 0, .t (.int .i64 n)] [(.par 0, d.row)] (.t (.int .i64 (d.next n).1)) [(.par 0, (d.next n).2.row)] := by
  have hm := ziw (d.l.getD d.k 0) n h
  unfold Dc.row Dc.next
  generalize zig (d.l.getD d.k 0) n = v at *
  by_cases h0 : (d.l.length : Int) ≤ d.k
  · simp only [if_pos h0]
    refine wI Tryz.func27 ?_
    repeat' (first | refine wC ?_ | refine wK ?_ | ((with_reducible refine zu ?_); refine zr rfl rfl rfl rfl rfl rfl ?_ ?_ ?_) | ((with_reducible refine ze ?_); exact absurd h0 ‹_›) | refine zh rfl ?_ ?_ <;> intro hc)
    all_goals try (exfalso; omega)
    exact zm (zj rfl rfl rfl) (zc ⟨rfl, trivial⟩)
  · simp only [if_neg h0]
    have e : (IntKind.i64.wrap (IntKind.i64.wrap ((d.k : Int) + 1) - 1)).toNat = d.k := by
      rw [zy (n := (d.k : Int) + 1) (by omega) (by omega), zy (by omega) (by omega)]; omega
    have e2 : IntKind.i64.wrap (IntKind.i64.wrap ((d.k : Int) + 1) - 1) = d.k := by
      rw [zy (n := (d.k : Int) + 1) (by omega) (by omega), zy (by omega) (by omega)]; omega
    have e3 : IntKind.i64.wrap ((d.k : Int) + 1) = d.k + 1 := zy (by omega) (by omega)
    have e4 : ((d.k + 1 : Nat) : Int) = IntKind.i64.wrap ((d.k : Int) + 1) := by rw [e3]; omega
    rw [← e] at hm
    rw [e4]
    refine wI Tryz.func27 ?_
    repeat' (first | refine wC ?_ | refine wK ?_ | ((with_reducible refine zu ?_); refine zr rfl rfl rfl rfl rfl rfl ?_ ?_ ?_) | ((with_reducible refine ze ?_); refine wL hm ?_) | refine zh rfl ?_ ?_ <;> intro hc)
    all_goals try (exfalso; omega)
    all_goals try omega
    exact zm (zj rfl rfl rfl) (zc ⟨rfl, trivial⟩)
set_option maxHeartbeats 1000000 in
theorem vi (d : Dc) (l : List ByteArray) (h0 : 1 ≤ l.length) (h : l.length ≤ 1000) (hd : d.l.length ≤ 1000) :
    Spec Tryz.prog 44 [.ref (.par 0) 0 0 0, .row (.par 1)] [(.par 0, d.row), (.par 1, .slt 9 1 (l.map .str))] (.t (.str (d.word l).1)) [(.par 0, (d.word l).2.row), (.par 1, .slt 9 1 (l.map .str))] := by
  have hn := yB d l.length (by omega) hd
  have hlt := d.next_lt l.length (by omega)
  unfold Dc.word
  simp only
  generalize d.next l.length = q at *
  obtain ⟨v, d2⟩ := q
  simp only at *
  have hg : (l.map T.str)[v.toNat]? = some (.str (l.getD v.toNat default)) := by
    rw [List.getElem?_map, List.getElem?_eq_getElem (by omega)]
    simp [List.getD_eq_getElem?_getD, show v.toNat < l.length by omega]
  refine wI Tryz.func44 ?_
  repeat' (first | refine wC ?_ | refine wK ?_ | ((with_reducible refine kK ?_); refine yv rfl rfl rfl rfl rfl rfl rfl rfl ?_ ?_) | ((with_reducible refine zu ?_); refine zL rfl rfl rfl rfl rfl rfl rfl ?_ ?_ ?_) | ((with_reducible refine ze ?_); refine wN (.t (.int .i64 v)) [] hn ?_))
  all_goals try (simp only [List.length_map]; omega)
  all_goals try omega
  exact zm (zj rfl rfl rfl) (zc ⟨rfl, rfl, trivial⟩)
set_option maxHeartbeats 4000000 in
theorem zfI (d : Dc) (hd : d.l.length ≤ 1000) : Spec Tryz.prog 58 [.ref (.par 0) 0 0 0] [(.par 0, d.row)] (.t (.str (wM d).1)) [(.par 0, (wM d).2.row)] := by
  have hw := vi d xY (by decide) (by decide) hd
  have hl : (d.word xY).2.l = d.l := d.next_l _
  have hsz := (zci (V := fun _ => true) ⟨fun _ _ => rfl, fun _ _ => rfl, rfl⟩ _ (d.word_mem xY (by simp [xY]))).2
  unfold wM
  generalize d.word xY = w at *
  obtain ⟨s, d1⟩ := w
  simp only at *
  have hn := yB d1 10 (by omega) (by rw [hl]; exact hd)
  have hl2 : (d1.next 10).2.l = d.l := by rw [Dc.next_l, hl]
  generalize d1.next 10 = q at *
  obtain ⟨v, d2⟩ := q
  simp only at *
  refine wIG Tryz.func58 ?_
  repeat' (first | refine wC ?_ | refine wK ?_ | ((with_reducible refine ze ?_); first | refine wN (.t (.str s)) [(.par 1, .loc 5)] hw ?_ | refine wN (.t (.int .i64 v)) [] hn ?_) | refine zh rfl ?_ ?_ <;> intro hc)
  · rw [if_pos hc]
    refine zi (za [0, 2, 3] [.par 0] rfl rfl) ?_
    refine zw (fun n env st => ∃ (f : Nat) (s' : ByteArray) (d' : Dc), n = f ∧ zhI f s' d' = zhI 300 s d2 ∧ 257 ≤ f + s'.size ∧ s'.size ≤ 256 ∧ d'.l = d.l ∧
        env = EnvL.get [(0, .ref (.par 0) 0 0 0), (2, .t (.str ⟨#[]⟩)), (3, .t (.str s'))] ∧ st = StO.get [(.par 0, some d'.row)])
      ?_ (n := 300) ⟨300, s, d2, rfl, rfl, by omega, hsz, hl2, rfl, rfl⟩
    clear hn hw hc hl hl2 hsz
    rintro n env st ⟨f, s', d', rfl, hk, h1, h2, h3, rfl, rfl⟩
    obtain ⟨f, rfl⟩ : ∃ m, n = m + 1 := ⟨n - 1, by omega⟩
    have hn := yB d' 6 (by omega) (by rw [h3]; exact hd)
    have hlt := d'.next_lt 6 (by omega)
    have hl : (d'.next 6).2.l = d.l := by rw [Dc.next_l, h3]
    rw [zhI] at hk
    have hz : vj.getD (d'.next 6).1.toNat 0 ≤ 256 := by
      generalize (d'.next 6).1.toNat = j
      match j with
      | 0 | 1 | 2 | 3 | 4 | 5 => simp [vj]
      | j + 6 => simp [vj]
    generalize d'.next 6 = q at *
    obtain ⟨v, d3⟩ := q
    simp only at *
    rw [show vj.getD v.toNat 0 = vj.getD v.toNat default from rfl] at hk hz
    repeat' (first | refine wC ?_ | refine yv (f := T.int .i64) (l := vj) rfl rfl rfl rfl rfl rfl rfl rfl ?_ ?_ | refine wK ?_ | ((with_reducible refine zO ?_); refine vb rfl rfl rfl rfl rfl rfl ?_ ?_) | ((with_reducible refine zu ?_); refine zL rfl rfl rfl rfl rfl rfl rfl ?_ ?_ ?_) | ((with_reducible refine ze ?_); refine wN (.t (.int .i64 v)) [] hn ?_) | refine zh rfl ?_ ?_ <;> intro hc)
    all_goals try omega
    · simp only [List.length_cons, List.length_nil]; omega
    · simp only [vj, List.length_cons, List.length_nil]; omega
    · have : ByteArray.size ⟨#[120]⟩ = 1 := rfl
      omega
    · rw [if_pos hc] at hk
      have e1 : (s' ++ xS).size = s'.size + 1 := by rw [ByteArray.size_append]; rfl
      exact zM (n' := f) (by omega) (za [0, 2, 3] [.par 0] rfl rfl) ⟨f, s' ++ xS, d3, rfl, hk, by omega, by omega, hl, rfl, rfl⟩
    · rw [if_neg hc] at hk
      rw [← hk]
      exact zE (zm (zj rfl rfl rfl) (zc ⟨rfl, trivial⟩))
  · rw [if_neg hc]
    exact zE (zm (zj rfl rfl rfl) (zc ⟨rfl, trivial⟩))
end Go.AL
namespace Go.AL
open Go Go.RowKit
theorem Dc.word_l (d : Dc) (l : List ByteArray) : (d.word l).2.l = d.l := d.next_l _
theorem ziW : ∀ (f : Nat) (s : ByteArray) (d : Dc), (zhI f s d).2.l = d.l
  | 0, s, d => d.next_l _
  | f + 1, s, d => by
    simp only [zhI]; split
    · rw [ziW f, Dc.next_l]
    · exact d.next_l _
theorem zjp (d : Dc) : (wM d).2.l = d.l := by
  unfold wM; split
  · rw [ziW, Dc.next_l, Dc.word_l]
  · simp only; rw [Dc.next_l, Dc.word_l]
theorem zhr : ∀ (f : Nat) (l : List Nd) (d : Dc), (x7 f l d).2.l = d.l
  | 0, s, d => d.next_l _
  | f + 1, s, d => by
    simp only [x7]; split
    · rw [zhr f, Dc.next_l]
    · exact d.next_l _
theorem zet : ∀ (c i : Nat) (d : Dc), (zH c i d).2.l = d.l
  | 0, i, d => rfl
  | c + 1, i, d => by simp only [zH]; rw [zet c, Dc.word_l]
theorem zeK (f : Dc → Nd × Dc) (h : ∀ d, (f d).2.l = d.l) : ∀ (c : Nat) (d : Dc), (yI f c d).2.l = d.l
  | 0, d => rfl
  | c + 1, d => by simp only [yI]; rw [zeK f h c, h]
theorem zj0 (k : Int) (f : Dc → Nd × Dc) (h : ∀ d, (f d).2.l = d.l) (d : Dc) : (zda k f d).2.l = d.l := by
  unfold zda
  simp only
  have e1 := zeK f h (d.next 4).1.toNat (d.next 4).2
  rw [Dc.next_l] at e1
  generalize yI f (d.next 4).1.toNat (d.next 4).2 = is at *
  have e2 : (if (is.2.next 20).1 = 1 then x7 20 is.1 (is.2.next 20).2 else (is.1, (is.2.next 20).2)).2.l = d.l := by
    split
    · rw [zhr, Dc.next_l, e1]
    · simp only; rw [Dc.next_l, e1]
  generalize (if (is.2.next 20).1 = 1 then x7 20 is.1 (is.2.next 20).2 else (is.1, (is.2.next 20).2)) = g at *
  split
  · rw [zet, e2]
  · exact e2
theorem zd7 (rec : Option (Dc → Nd × Dc)) (h : ∀ f, rec = some f → ∀ d, (f d).2.l = d.l) (d : Dc) : (vU rec d).2.l = d.l := by
  unfold vU
  simp only
  split
  · simp only [Dc.next_l]
  · split
    · simp only [Dc.next_l]
    · split
      · simp only [zjp, Dc.next_l]
      · split
        · split
          · simp only [Dc.next_l]
          · rename_i f; rw [zj0 _ f (h f rfl), Dc.next_l]
        · simp only [Dc.next_l]
theorem zgi : ∀ (n : Nat) (d : Dc), (kS n d).2.l = d.l
  | 0, d => zd7 none (by simp) d
  | 1, d => zd7 none (by simp) d
  | n + 2, d => zd7 _ (by rintro f h; cases h; exact zgi (n + 1)) d
end Go.AL
namespace Go.AL
open Go Go.Proofs Go.RowKit
theorem zhx (i : Nat) : 0 ≤ wd.getD i 0 ∧ wd.getD i 0 ≤ 9223372036854775807 := by
  match i with
  | 0 | 1 | 2 | 3 | 4 | 5 | 6 | 7 | 8 | 9 | 10 | 11 => simp [wd]
  | j + 12 => simp [wd]
set_option maxHeartbeats 8000000 in
theorem q7 (n : Int) (hn : 0 ≤ n ∧ n ≤ 1000) (rec : Option (Dc → Nd × Dc)) (hnone : rec = none → n < 2)
    (d : Dc) (hd : d.l.length ≤ 1000) (hsome : ∀ f, rec = some f → ∀ k d1, d.next 6 = (k, d1) → k = 4 ∨ k = 5 → Spec Tryz.prog 23 [.ref (.par 0) 0 0 0, .t (.int .i64 n)] [(.par 0, d.row)] (.t (zda k f d1).1.toT) [(.par 0, (zda k f d1).2.row)])
    : Spec Tryz.prog 23 [.ref (.par 0) 0 0 0, .t (.int .i64 n)] [(.par 0, d.row)] (.t (vU rec d).1.toT) [(.par 0, (vU rec d).2.row)] := by
  have h6 := yB d 6 (by omega) hd
  have l6 := d.next_lt 6 (by omega)
  have e6 : (d.next 6).2.l = d.l := d.next_l _
  unfold vU
  simp only
  generalize d.next 6 = q at *
  obtain ⟨k, d1⟩ := q
  simp only at *
  have hd1 : d1.l.length ≤ 1000 := by rw [e6]; exact hd
  rcases (show k = 0 ∨ k = 1 ∨ k = 2 ∨ k = 3 ∨ (k = 4 ∨ k = 5) by omega) with rfl | rfl | rfl | rfl | hk
  · clear hsome
    rw [if_neg (by decide), if_neg (by decide), if_neg (by decide), if_neg (by decide), yR]
    refine wIG Tryz.func23 ?_
    repeat' (first | refine wC ?_ | refine wK ?_ | ((with_reducible refine ze ?_); refine wN (.t (.int .i64 0)) [] h6 ?_))
    exact wB
  · clear hsome
    rw [if_pos rfl]
    have h2 := yB d1 2 (by omega) hd1
    generalize d1.next 2 = q2 at *
    obtain ⟨v2, d2⟩ := q2
    simp only at *
    rw [Nd.toT_eq]
    refine wIG Tryz.func23 ?_
    repeat' (first | refine wC ?_ | refine wK ?_ | ((with_reducible refine ze ?_); first | refine wN (.t (.int .i64 1)) [] h6 ?_ | refine wN (.t (.int .i64 v2)) [] h2 ?_))
    exact wB
  · clear hsome
    rw [if_neg (by decide), if_pos rfl]
    have h12 := yB d1 12 (by omega) hd1
    have l12 := d1.next_lt 12 (by omega)
    have e12 : (d1.next 12).2.l = d1.l := d1.next_l _
    generalize d1.next 12 = q12 at *
    obtain ⟨v12, d12⟩ := q12
    simp only at *
    have h122 := yB d12 2 (by omega) (by rw [e12]; exact hd1)
    generalize d12.next 2 = q122 at *
    obtain ⟨v122, d122⟩ := q122
    have hz := zhx v12.toNat
    rw [show wd.getD v12.toNat 0 = wd.getD v12.toNat default from rfl] at *
    simp only at *
    rw [Nd.toT_eq]
    refine wIG Tryz.func23 ?_
    repeat' (first | refine wC ?_ | refine yv (f := T.int .i64) (l := wd) rfl rfl rfl rfl rfl rfl rfl rfl ?_ ?_ | refine wK ?_ | ((with_reducible refine zu ?_); refine zL rfl rfl rfl rfl rfl rfl rfl ?_ ?_ ?_) | ((with_reducible refine ze ?_); first | refine wN (.t (.int .i64 2)) [] h6 ?_ | refine wN (.t (.int .i64 v12)) [] h12 ?_ | refine wN (.t (.int .i64 v122)) [] h122 ?_) | refine zh rfl ?_ ?_ <;> intro hc)
    all_goals try omega
    · simp only [List.length_cons, List.length_nil]; omega
    · simp only [wd, List.length_cons, List.length_nil]; omega
    · rw [if_pos hc]
      have e : IntKind.i64.wrap (-1 - wd.getD v12.toNat default) = -1 - wd.getD v12.toNat default := zy (by omega) (by omega)
      rw [e]
      exact wB
    · rw [if_neg hc]
      exact wB
  · clear hsome
    rw [if_neg (by decide), if_neg (by decide), if_pos rfl]
    have hT := zfI d1 hd1
    generalize wM d1 = qT at *
    obtain ⟨sT, dT⟩ := qT
    simp only at *
    rw [Nd.toT_eq]
    refine wIG Tryz.func23 ?_
    repeat' (first | refine wC ?_ | refine wK ?_ | ((with_reducible refine ze ?_); first | refine wN (.t (.int .i64 3)) [] h6 ?_ | refine wN (.t (.str sT)) [] hT ?_))
    exact wB
  · rw [if_neg (by omega), if_neg (by omega), if_neg (by omega), if_pos hk]
    cases rec with
    | some f => exact hsome f rfl k d1 rfl hk
    | none =>
      clear hsome
      have hn2 := hnone rfl
      simp only
      rcases hk with rfl | rfl
      · rw [Nd.toT_eq]
        refine wIG Tryz.func23 ?_
        repeat' (first | refine wC ?_ | refine wK ?_ | ((with_reducible refine ze ?_); first | refine wN (.t (.int .i64 4)) [] h6 ?_ | exact absurd hn2 ‹_›) | refine zh rfl ?_ ?_ <;> intro hc)
        exact wB
      · rw [Nd.toT_eq]
        refine wIG Tryz.func23 ?_
        repeat' (first | refine wC ?_ | refine wK ?_ | ((with_reducible refine ze ?_); first | refine wN (.t (.int .i64 5)) [] h6 ?_ | exact absurd hn2 ‹_›) | refine zh rfl ?_ ?_ <;> intro hc)
        exact wB
theorem zhT : ∀ j : Fin 18, zf3 [T.int IntKind.u8 (IntKind.u8.wrap (48 + IntKind.u8.wrap (((j.val : Nat) : Int).tmod 10))), T.int IntKind.u8 (IntKind.u8.wrap (48 + IntKind.u8.wrap (IntKind.i64.wrap (((j.val : Nat) : Int).tdiv 10))))] = zdr j.val := by decide +kernel
theorem zeE (j : Nat) (h : j < 18) : zf3 [T.int IntKind.u8 (IntKind.u8.wrap (48 + IntKind.u8.wrap ((j : Int).tmod 10))), T.int IntKind.u8 (IntKind.u8.wrap (48 + IntKind.u8.wrap (IntKind.i64.wrap ((j : Int).tdiv 10))))] = zdr j := zhT ⟨j, h⟩
set_option maxHeartbeats 16000000 in
theorem zgG (n : Int) (hn : 2 ≤ n ∧ n ≤ 1000) (f : Dc → Nd × Dc) (hl : ∀ d, (f d).2.l = d.l)
    (hf : ∀ d : Dc, d.l.length ≤ 1000 → Spec Tryz.prog 23 [.ref (.par 0) 0 0 0, .t (.int .i64 (n - 1))] [(.par 0, d.row)] (.t (f d).1.toT) [(.par 0, (f d).2.row)])
    (d : Dc) (hd : d.l.length ≤ 1000) (k : Int) (hk : k = 4 ∨ k = 5) (d1 : Dc) (hq : d.next 6 = (k, d1)) : Spec Tryz.prog 23 [.ref (.par 0) 0 0 0, .t (.int .i64 n)] [(.par 0, d.row)] (.t (zda k f d1).1.toT) [(.par 0, (zda k f d1).2.row)] := by
  have h6 := yB d 6 (by omega) hd
  have e6 : (d.next 6).2.l = d.l := d.next_l _
  rw [hq] at h6 e6
  simp only at h6 e6
  have h4 := yB d1 4 (by omega) (by rw [e6]; exact hd)
  have l4 := d1.next_lt 4 (by omega)
  have e4 : (d1.next 4).2.l = d.l := by rw [Dc.next_l, e6]
  generalize hres : zda k f d1 = res
  unfold zda at hres
  simp only at hres
  generalize d1.next 4 = q4 at *
  obtain ⟨v4, d4⟩ := q4
  simp only at *
  refine wIG Tryz.func23 ?_
  repeat' (first | refine wC ?_ | refine wK ?_ | ((with_reducible refine ze ?_); first | refine wN (.t (.int .i64 k)) [] h6 ?_ | refine wN (.t (.int .i64 v4)) [] h4 ?_ | exact absurd hn.1 (by omega)) | refine zh rfl ?_ ?_ <;> intro hc)
  all_goals try (exfalso; omega)
  all_goals clear h6 h4 hq
  · refine zi (zJ (r := .loc 7) 5 (.loc 900) 30 6 rfl rfl rfl rfl rfl) ?_
    refine zi (za [0, 1, 4, 5, 7, 8] [.par 0, .loc 4, .loc 7, .loc 900] rfl rfl) ?_
    refine zw (fun m env st => ∃ (c : Nat) (acc : List Nd) (d' : Dc), m = c ∧ c ≤ 3 ∧ acc.length + c ≤ 3 ∧ d'.l = d.l ∧ (acc ++ (yI f c d').1, (yI f c d').2) = yI f v4.toNat d4 ∧
        env = EnvL.get [(0, .ref (.par 0) 0 0 0), (1, .t (.int .i64 n)), (4, .ref (.loc 4) 0 0 0), (5, .t (.int .i64 k)), (7, .ref (.loc 7) 0 0 0), (8, .t (.int .i64 (c : Int)))] ∧
        st = StO.get [(.par 0, some d'.row), (.loc 4, some (.var 30 [.t (.int .i64 0), .t (.bool false), .t (.int .i64 0), .t (.str ⟨#[]⟩), .t .nilsl, .t .nilsl])), (.loc 7, some (.var 30 [.t (.int .i64 k), .t (.bool false), .t (.int .i64 0), .t (.str ⟨#[]⟩), .t .nilsl, .row (.loc 900)])), (.loc 900, some (.slt 30 6 (acc.map Nd.toT)))])
      ?_ (n := v4.toNat) ⟨v4.toNat, [], d4, rfl, by omega, by simp; omega, e4, by simp, by rw [show ((v4.toNat : Nat) : Int) = v4 by omega]; rfl, rfl⟩
    rintro m env st ⟨c, acc, d', rfl, hc3, ha, e', hi, rfl, rfl⟩
    cases m with
    | zero =>
      simp only [yI, List.append_nil] at hi
      have h20 := yB d' 20 (by omega) (by rw [e']; exact hd)
      have e20 : (d'.next 20).2.l = d.l := by rw [Dc.next_l, e']
      rw [← hi] at hres
      simp only at hres
      generalize d'.next 20 = q20 at *
      obtain ⟨z, d2⟩ := q20
      simp only at *
      repeat' (first | refine wC ?_ | refine wK ?_ | ((with_reducible refine ze ?_); refine wN (.t (.int .i64 z)) [] h20 ?_) | refine zh rfl ?_ ?_ <;> intro hc)
      · rw [if_pos hc] at hres
        have hac : acc.length ≤ 17 := by omega
        refine zi (za [0, 4, 5, 7] [.par 0, .loc 4, .loc 7, .loc 900] rfl rfl) ?_
        clear h20
        refine zw (fun m env st => ∃ (fu : Nat) (ac : List Nd) (dd : Dc), m = fu ∧ 20 ≤ ac.length + fu ∧ ac.length ≤ 17 ∧ dd.l = d.l ∧ x7 fu ac dd = x7 20 acc d2 ∧
            env = EnvL.get [(0, .ref (.par 0) 0 0 0), (4, .ref (.loc 4) 0 0 0), (5, .t (.int .i64 k)), (7, .ref (.loc 7) 0 0 0)] ∧
            st = StO.get [(.par 0, some dd.row), (.loc 4, some (.var 30 [.t (.int .i64 0), .t (.bool false), .t (.int .i64 0), .t (.str ⟨#[]⟩), .t .nilsl, .t .nilsl])), (.loc 7, some (.var 30 [.t (.int .i64 k), .t (.bool false), .t (.int .i64 0), .t (.str ⟨#[]⟩), .t .nilsl, .row (.loc 900)])), (.loc 900, some (.slt 30 6 (ac.map Nd.toT)))])
          ?_ (n := 20) ⟨20, acc, d2, rfl, by omega, hac, e20, rfl, rfl, rfl⟩
        rintro m env st ⟨fu, ac, dd, rfl, ha2, ha3, edd, hfi, rfl, rfl⟩
        obtain ⟨fu, rfl⟩ : ∃ x, m = x + 1 := ⟨m - 1, by omega⟩
        have h3 := yB dd 3 (by omega) (by rw [edd]; exact hd)
        have l3 := dd.next_lt 3 (by omega)
        have e3 : (dd.next 3).2.l = d.l := by rw [Dc.next_l, edd]
        rw [x7] at hfi
        generalize dd.next 3 = q3 at *
        obtain ⟨v, d3⟩ := q3
        simp only at *
        have e15 : IntKind.i64.wrap (15 + v) = 15 + v := zy (by omega) (by omega)
        rw [← e15] at hfi
        repeat' (first | refine wC ?_ | refine wK ?_ | ((with_reducible refine zo ?_); refine zf rfl rfl rfl rfl rfl rfl rfl rfl rfl rfl ?_ ?_ ?_) | ((with_reducible refine ze ?_); refine wN (.t (.int .i64 v)) [] h3 ?_) | refine zh rfl ?_ ?_ <;> intro hc)
        · simp only [List.length_map, List.length_cons, List.length_nil]; omega
        · simp only [List.length_map, List.length_cons, List.length_nil]; omega
        · have hcc : (ac.length : Int) < IntKind.i64.wrap (15 + v) := by simpa using ‹_ < IntKind.i64.wrap (15 + v)›
          rw [if_pos hcc] at hfi
          rw [e15] at hcc
          refine zM (n' := fu) (by omega) ((qO (id := .loc 78) (r' := .slt 30 6 ((ac ++ [Nd.zero]).map Nd.toT)) rfl (RowLE.slt ?_) rfl).trans ((za [0, 4, 5, 7] [.par 0, .loc 4, .loc 7, .loc 78] rfl rfl).trans (zd (.loc 78) (.loc 900) rfl rfl rfl rfl))) ⟨fu, ac ++ [Nd.zero], d3, rfl, by simp; omega, by simp; omega, e3, hfi, rfl, rfl⟩
          rw [List.map_append, List.map_singleton, yR]
          exact TLs.append (TLs.refl _) wT
        · have hcc : ¬ (ac.length : Int) < IntKind.i64.wrap (15 + v) := by simpa using ‹¬ _ < IntKind.i64.wrap (15 + v)›
          rw [if_neg hcc] at hfi
          rw [← hfi] at hres
          simp only at hres
          have hg : ∃ g : List Nd × Dc, g = (ac, d3) ∧ g.1.length ≤ 17 ∧ g.2.l = d.l := ⟨_, rfl, by simp only; omega, by simp only; assumption⟩
          obtain ⟨g, eg, hg1, hg2⟩ := hg
          refine zi (zJ (r := .loc 7) 4 (.loc 901) 9 1 rfl rfl rfl rfl rfl) ?_
          refine zi (za [0, 4, 5, 7, 82, 83] [.par 0, .loc 4, .loc 7, .loc 900, .loc 901] rfl rfl) ?_
          have hres3 : (Nd.mk k false 0 eS (if k = 5 then zH ac.length 0 d3 else ([], d3)).1 ac, (if k = 5 then zH ac.length 0 d3 else ([], d3)).2) = res := by rw [← hres]
          clear h3
          refine zw (fun m env st => ∃ (j : Nat) (ns : List ByteArray) (dd : Dc), j ≤ ac.length ∧ m = ac.length - j ∧ ns.length ≤ j ∧ dd.l = d.l ∧ (k = 5 → (ns ++ (zH (ac.length - j) j dd).1, (zH (ac.length - j) j dd).2) = zH ac.length 0 d3) ∧ (k = 4 → ns = [] ∧ dd = d3) ∧
              env = EnvL.get [(0, .ref (.par 0) 0 0 0), (4, .ref (.loc 4) 0 0 0), (5, .t (.int .i64 k)), (7, .ref (.loc 7) 0 0 0), (82, .t (.int .i64 ac.length)), (83, .t (.int .i64 (j : Int)))] ∧
              st = StO.get [(.par 0, some dd.row), (.loc 4, some (.var 30 [.t (.int .i64 0), .t (.bool false), .t (.int .i64 0), .t (.str ⟨#[]⟩), .t .nilsl, .t .nilsl])), (.loc 7, some (.var 30 [.t (.int .i64 k), .t (.bool false), .t (.int .i64 0), .t (.str ⟨#[]⟩), .row (.loc 901), .row (.loc 900)])), (.loc 900, some (.slt 30 6 (ac.map Nd.toT))), (.loc 901, some (.slt 9 1 (ns.map .str)))])
            ?_ (n := ac.length) ⟨0, [], d3, by omega, by omega, by simp, by assumption, fun _ => by simp, fun _ => ⟨rfl, rfl⟩, rfl, rfl⟩
          rintro m env st ⟨j, ns, dd, hj, rfl, hns, hdd, h5, h4, rfl, rfl⟩
          by_cases hlt : j < ac.length
          · obtain ⟨c, hcc⟩ : ∃ c, ac.length - j = c + 1 := ⟨ac.length - j - 1, by omega⟩
            have hw := vi dd yw (by decide) (by decide) (by rw [hdd]; exact hd)
            have ew : (dd.word yw).2.l = d.l := by rw [Dc.word_l, hdd]
            have hwsz := (xE _ (dd.word_mem yw (by simp [yw]))).2
            rw [hcc] at h5
            simp only [zH] at h5
            generalize dd.word yw = qw at *
            obtain ⟨s, d9⟩ := qw
            simp only at *
            repeat' (first | refine wC ?_ | refine wK ?_ | ((with_reducible refine zO ?_); refine vb rfl rfl rfl rfl rfl rfl ?_ ?_) | ((with_reducible refine yP ?_); refine yf rfl rfl rfl rfl rfl rfl ?_ ?_) | ((with_reducible refine zo ?_); refine zf rfl rfl rfl rfl rfl rfl rfl rfl rfl rfl ?_ ?_ ?_) | ((with_reducible refine ze ?_); refine wN (.t (.str s)) [(.par 1, .loc 91)] hw ?_) | refine zh rfl ?_ ?_ <;> intro hc)
            all_goals try (exfalso; omega)
            refine zM (n' := ac.length - (j + 1)) (by omega) (za [0, 4, 5, 7, 82, 83] [.par 0, .loc 4, .loc 7, .loc 900, .loc 901] rfl rfl) ⟨j + 1, ns, dd, by omega, rfl, by omega, hdd, fun h => absurd h (by omega), h4, ?_, rfl⟩
            rw [zy (by omega) (by omega)]; rfl
          · have hje : j = ac.length := by omega
            repeat' (first | refine wC ?_ | refine wK ?_ | refine zh rfl ?_ ?_ <;> intro hc)
            all_goals try (exfalso; omega)
            have er : res = (Nd.mk k false 0 eS ns ac, dd) := by
              rw [← hres3]
              rcases hk with rfl | rfl
              · obtain ⟨h4a, h4b⟩ := h4 rfl
                rw [if_neg (by decide), h4a, h4b]
              · have h5 := h5 rfl
                rw [hje, Nat.sub_self] at h5
                simp only [zH, List.append_nil] at h5
                rw [if_pos rfl, ← h5]
            rw [er]
            simp only
            rw [Nd.toT_eq]
            refine zk (za [4] [.par 0, .loc 4, .loc 900, .loc 901] rfl rfl) ?_
            refine zk (zv (id := .loc 900) rfl rfl rfl) ?_; refine zk (zv (id := .loc 901) rfl rfl rfl) ?_
            exact wB
      · rw [if_neg hc] at hres
        simp only at hres
        have hg : ∃ g : List Nd × Dc, g = (acc, d2) ∧ g.1.length ≤ 17 ∧ g.2.l = d.l := ⟨_, rfl, by simp only; omega, by simp only; assumption⟩
        obtain ⟨g, eg, hg1, hg2⟩ := hg
        refine zi (zJ (r := .loc 7) 4 (.loc 901) 9 1 rfl rfl rfl rfl rfl) ?_
        refine zi (za [0, 4, 5, 7, 82, 83] [.par 0, .loc 4, .loc 7, .loc 900, .loc 901] rfl rfl) ?_
        have hres3 : (Nd.mk k false 0 eS (if k = 5 then zH acc.length 0 d2 else ([], d2)).1 acc, (if k = 5 then zH acc.length 0 d2 else ([], d2)).2) = res := by rw [← hres]
        clear h20
        refine zw (fun m env st => ∃ (j : Nat) (ns : List ByteArray) (dd : Dc), j ≤ acc.length ∧ m = acc.length - j ∧ ns.length ≤ j ∧ dd.l = d.l ∧ (k = 5 → (ns ++ (zH (acc.length - j) j dd).1, (zH (acc.length - j) j dd).2) = zH acc.length 0 d2) ∧ (k = 4 → ns = [] ∧ dd = d2) ∧
            env = EnvL.get [(0, .ref (.par 0) 0 0 0), (4, .ref (.loc 4) 0 0 0), (5, .t (.int .i64 k)), (7, .ref (.loc 7) 0 0 0), (82, .t (.int .i64 acc.length)), (83, .t (.int .i64 (j : Int)))] ∧
            st = StO.get [(.par 0, some dd.row), (.loc 4, some (.var 30 [.t (.int .i64 0), .t (.bool false), .t (.int .i64 0), .t (.str ⟨#[]⟩), .t .nilsl, .t .nilsl])), (.loc 7, some (.var 30 [.t (.int .i64 k), .t (.bool false), .t (.int .i64 0), .t (.str ⟨#[]⟩), .row (.loc 901), .row (.loc 900)])), (.loc 900, some (.slt 30 6 (acc.map Nd.toT))), (.loc 901, some (.slt 9 1 (ns.map .str)))])
          ?_ (n := acc.length) ⟨0, [], d2, by omega, by omega, by simp, by assumption, fun _ => by simp, fun _ => ⟨rfl, rfl⟩, rfl, rfl⟩
        rintro m env st ⟨j, ns, dd, hj, rfl, hns, hdd, h5, h4, rfl, rfl⟩
        by_cases hlt : j < acc.length
        · obtain ⟨c, hcc⟩ : ∃ c, acc.length - j = c + 1 := ⟨acc.length - j - 1, by omega⟩
          have hw := vi dd yw (by decide) (by decide) (by rw [hdd]; exact hd)
          have ew : (dd.word yw).2.l = d.l := by rw [Dc.word_l, hdd]
          have hwsz := (xE _ (dd.word_mem yw (by simp [yw]))).2
          rw [hcc] at h5
          simp only [zH] at h5
          generalize dd.word yw = qw at *
          obtain ⟨s, d9⟩ := qw
          simp only at *
          repeat' (first | refine wC ?_ | refine wK ?_ | ((with_reducible refine zO ?_); refine vb rfl rfl rfl rfl rfl rfl ?_ ?_) | ((with_reducible refine yP ?_); refine yf rfl rfl rfl rfl rfl rfl ?_ ?_) | ((with_reducible refine zo ?_); refine zf rfl rfl rfl rfl rfl rfl rfl rfl rfl rfl ?_ ?_ ?_) | ((with_reducible refine ze ?_); refine wN (.t (.str s)) [(.par 1, .loc 91)] hw ?_) | refine zh rfl ?_ ?_ <;> intro hc)
          all_goals try (exfalso; omega)
          refine zM (n' := acc.length - (j + 1)) (by omega) (za [0, 4, 5, 7, 82, 83] [.par 0, .loc 4, .loc 7, .loc 900, .loc 901] rfl rfl) ⟨j + 1, ns, dd, by omega, rfl, by omega, hdd, fun h => absurd h (by omega), h4, ?_, rfl⟩
          rw [zy (by omega) (by omega)]; rfl
        · have hje : j = acc.length := by omega
          repeat' (first | refine wC ?_ | refine wK ?_ | refine zh rfl ?_ ?_ <;> intro hc)
          all_goals try (exfalso; omega)
          have er : res = (Nd.mk k false 0 eS ns acc, dd) := by
            rw [← hres3]
            rcases hk with rfl | rfl
            · obtain ⟨h4a, h4b⟩ := h4 rfl
              rw [if_neg (by decide), h4a, h4b]
            · have h5 := h5 rfl
              rw [hje, Nat.sub_self] at h5
              simp only [zH, List.append_nil] at h5
              rw [if_pos rfl, ← h5]
          rw [er]
          simp only
          rw [Nd.toT_eq]
          refine zk (za [4] [.par 0, .loc 4, .loc 900, .loc 901] rfl rfl) ?_
          refine zk (zv (id := .loc 900) rfl rfl rfl) ?_; refine zk (zv (id := .loc 901) rfl rfl rfl) ?_
          exact wB
    | succ c =>
      have hF := hf d' (by rw [e']; exact hd)
      have eF := hl d'
      simp only [yI] at hi
      generalize f d' = qf at *
      obtain ⟨x, d2⟩ := qf
      simp only at *
      have hF := hF.res x.toT_full
      have hn1 : IntKind.i64.wrap (n - 1) = n - 1 := zy (by omega) (by omega)
      rw [← hn1] at hF
      repeat' (first | refine wC ?_ | refine wK ?_ | ((with_reducible refine zo ?_); refine zf rfl rfl rfl rfl rfl rfl rfl rfl rfl rfl ?_ ?_ ?_) | ((with_reducible refine ze ?_); refine wN (.t (.agg [_, _, _, _, _, _])) [] hF ?_) | refine zh rfl ?_ ?_ <;> intro hc)
      all_goals try (exfalso; omega)
      · simp only [List.length_map, List.length_cons, List.length_nil]; omega
      · simp only [List.length_map, List.length_cons, List.length_nil]; omega
      · refine zM (n' := c) (by omega) ((za [0, 1, 4, 5, 7, 8] [.par 0, .loc 4, .loc 7, .loc 62] rfl rfl).trans (zd (.loc 62) (.loc 900) rfl rfl rfl rfl)) ⟨c, acc ++ [x], d2, rfl, by omega, by simp; omega, by rw [eF, e'], by rw [← hi, List.append_assoc]; rfl, ?_, ?_⟩
        · rw [zy (by omega) (by omega), show ((c + 1 : Nat) : Int) - 1 = (c : Int) by omega]; rfl
        · rw [List.map_append, List.map_singleton, x.toT_full]; rfl
  · refine zi (zJ (r := .loc 7) 5 (.loc 900) 30 6 rfl rfl rfl rfl rfl) ?_
    refine zi (za [0, 1, 4, 5, 7, 8] [.par 0, .loc 4, .loc 7, .loc 900] rfl rfl) ?_
    refine zw (fun m env st => ∃ (c : Nat) (acc : List Nd) (d' : Dc), m = c ∧ c ≤ 3 ∧ acc.length + c ≤ 3 ∧ d'.l = d.l ∧ (acc ++ (yI f c d').1, (yI f c d').2) = yI f v4.toNat d4 ∧
        env = EnvL.get [(0, .ref (.par 0) 0 0 0), (1, .t (.int .i64 n)), (4, .ref (.loc 4) 0 0 0), (5, .t (.int .i64 k)), (7, .ref (.loc 7) 0 0 0), (8, .t (.int .i64 (c : Int)))] ∧
        st = StO.get [(.par 0, some d'.row), (.loc 4, some (.var 30 [.t (.int .i64 0), .t (.bool false), .t (.int .i64 0), .t (.str ⟨#[]⟩), .t .nilsl, .t .nilsl])), (.loc 7, some (.var 30 [.t (.int .i64 k), .t (.bool false), .t (.int .i64 0), .t (.str ⟨#[]⟩), .t .nilsl, .row (.loc 900)])), (.loc 900, some (.slt 30 6 (acc.map Nd.toT)))])
      ?_ (n := v4.toNat) ⟨v4.toNat, [], d4, rfl, by omega, by simp; omega, e4, by simp, by rw [show ((v4.toNat : Nat) : Int) = v4 by omega]; rfl, rfl⟩
    rintro m env st ⟨c, acc, d', rfl, hc3, ha, e', hi, rfl, rfl⟩
    cases m with
    | zero =>
      simp only [yI, List.append_nil] at hi
      have h20 := yB d' 20 (by omega) (by rw [e']; exact hd)
      have e20 : (d'.next 20).2.l = d.l := by rw [Dc.next_l, e']
      rw [← hi] at hres
      simp only at hres
      generalize d'.next 20 = q20 at *
      obtain ⟨z, d2⟩ := q20
      simp only at *
      repeat' (first | refine wC ?_ | refine wK ?_ | ((with_reducible refine ze ?_); refine wN (.t (.int .i64 z)) [] h20 ?_) | refine zh rfl ?_ ?_ <;> intro hc)
      · rw [if_pos hc] at hres
        have hac : acc.length ≤ 17 := by omega
        refine zi (za [0, 4, 5, 7] [.par 0, .loc 4, .loc 7, .loc 900] rfl rfl) ?_
        clear h20
        refine zw (fun m env st => ∃ (fu : Nat) (ac : List Nd) (dd : Dc), m = fu ∧ 20 ≤ ac.length + fu ∧ ac.length ≤ 17 ∧ dd.l = d.l ∧ x7 fu ac dd = x7 20 acc d2 ∧
            env = EnvL.get [(0, .ref (.par 0) 0 0 0), (4, .ref (.loc 4) 0 0 0), (5, .t (.int .i64 k)), (7, .ref (.loc 7) 0 0 0)] ∧
            st = StO.get [(.par 0, some dd.row), (.loc 4, some (.var 30 [.t (.int .i64 0), .t (.bool false), .t (.int .i64 0), .t (.str ⟨#[]⟩), .t .nilsl, .t .nilsl])), (.loc 7, some (.var 30 [.t (.int .i64 k), .t (.bool false), .t (.int .i64 0), .t (.str ⟨#[]⟩), .t .nilsl, .row (.loc 900)])), (.loc 900, some (.slt 30 6 (ac.map Nd.toT)))])
          ?_ (n := 20) ⟨20, acc, d2, rfl, by omega, hac, e20, rfl, rfl, rfl⟩
        rintro m env st ⟨fu, ac, dd, rfl, ha2, ha3, edd, hfi, rfl, rfl⟩
        obtain ⟨fu, rfl⟩ : ∃ x, m = x + 1 := ⟨m - 1, by omega⟩
        have h3 := yB dd 3 (by omega) (by rw [edd]; exact hd)
        have l3 := dd.next_lt 3 (by omega)
        have e3 : (dd.next 3).2.l = d.l := by rw [Dc.next_l, edd]
        rw [x7] at hfi
        generalize dd.next 3 = q3 at *
        obtain ⟨v, d3⟩ := q3
        simp only at *
        have e15 : IntKind.i64.wrap (15 + v) = 15 + v := zy (by omega) (by omega)
        rw [← e15] at hfi
        repeat' (first | refine wC ?_ | refine wK ?_ | ((with_reducible refine zo ?_); refine zf rfl rfl rfl rfl rfl rfl rfl rfl rfl rfl ?_ ?_ ?_) | ((with_reducible refine ze ?_); refine wN (.t (.int .i64 v)) [] h3 ?_) | refine zh rfl ?_ ?_ <;> intro hc)
        · simp only [List.length_map, List.length_cons, List.length_nil]; omega
        · simp only [List.length_map, List.length_cons, List.length_nil]; omega
        · have hcc : (ac.length : Int) < IntKind.i64.wrap (15 + v) := by simpa using ‹_ < IntKind.i64.wrap (15 + v)›
          rw [if_pos hcc] at hfi
          rw [e15] at hcc
          refine zM (n' := fu) (by omega) ((qO (id := .loc 78) (r' := .slt 30 6 ((ac ++ [Nd.zero]).map Nd.toT)) rfl (RowLE.slt ?_) rfl).trans ((za [0, 4, 5, 7] [.par 0, .loc 4, .loc 7, .loc 78] rfl rfl).trans (zd (.loc 78) (.loc 900) rfl rfl rfl rfl))) ⟨fu, ac ++ [Nd.zero], d3, rfl, by simp; omega, by simp; omega, e3, hfi, rfl, rfl⟩
          rw [List.map_append, List.map_singleton, yR]
          exact TLs.append (TLs.refl _) wT
        · have hcc : ¬ (ac.length : Int) < IntKind.i64.wrap (15 + v) := by simpa using ‹¬ _ < IntKind.i64.wrap (15 + v)›
          rw [if_neg hcc] at hfi
          rw [← hfi] at hres
          simp only at hres
          have hg : ∃ g : List Nd × Dc, g = (ac, d3) ∧ g.1.length ≤ 17 ∧ g.2.l = d.l := ⟨_, rfl, by simp only; omega, by simp only; assumption⟩
          obtain ⟨g, eg, hg1, hg2⟩ := hg
          refine zi (zJ (r := .loc 7) 4 (.loc 901) 9 1 rfl rfl rfl rfl rfl) ?_
          refine zi (za [0, 4, 5, 7, 82, 83] [.par 0, .loc 4, .loc 7, .loc 900, .loc 901] rfl rfl) ?_
          have hres3 : (Nd.mk k false 0 eS (if k = 5 then zH ac.length 0 d3 else ([], d3)).1 ac, (if k = 5 then zH ac.length 0 d3 else ([], d3)).2) = res := by rw [← hres]
          clear h3
          refine zw (fun m env st => ∃ (j : Nat) (ns : List ByteArray) (dd : Dc), j ≤ ac.length ∧ m = ac.length - j ∧ ns.length ≤ j ∧ dd.l = d.l ∧ (k = 5 → (ns ++ (zH (ac.length - j) j dd).1, (zH (ac.length - j) j dd).2) = zH ac.length 0 d3) ∧ (k = 4 → ns = [] ∧ dd = d3) ∧
              env = EnvL.get [(0, .ref (.par 0) 0 0 0), (4, .ref (.loc 4) 0 0 0), (5, .t (.int .i64 k)), (7, .ref (.loc 7) 0 0 0), (82, .t (.int .i64 ac.length)), (83, .t (.int .i64 (j : Int)))] ∧
              st = StO.get [(.par 0, some dd.row), (.loc 4, some (.var 30 [.t (.int .i64 0), .t (.bool false), .t (.int .i64 0), .t (.str ⟨#[]⟩), .t .nilsl, .t .nilsl])), (.loc 7, some (.var 30 [.t (.int .i64 k), .t (.bool false), .t (.int .i64 0), .t (.str ⟨#[]⟩), .row (.loc 901), .row (.loc 900)])), (.loc 900, some (.slt 30 6 (ac.map Nd.toT))), (.loc 901, some (.slt 9 1 (ns.map .str)))])
            ?_ (n := ac.length) ⟨0, [], d3, by omega, by omega, by simp, by assumption, fun _ => by simp, fun _ => ⟨rfl, rfl⟩, rfl, rfl⟩
          rintro m env st ⟨j, ns, dd, hj, rfl, hns, hdd, h5, h4, rfl, rfl⟩
          by_cases hlt : j < ac.length
          · obtain ⟨c, hcc⟩ : ∃ c, ac.length - j = c + 1 := ⟨ac.length - j - 1, by omega⟩
            have hw := vi dd yw (by decide) (by decide) (by rw [hdd]; exact hd)
            have ew : (dd.word yw).2.l = d.l := by rw [Dc.word_l, hdd]
            have hwsz := (xE _ (dd.word_mem yw (by simp [yw]))).2
            rw [hcc] at h5
            simp only [zH] at h5
            generalize dd.word yw = qw at *
            obtain ⟨s, d9⟩ := qw
            simp only at *
            repeat' (first | refine wC ?_ | refine wK ?_ | ((with_reducible refine zO ?_); refine vb rfl rfl rfl rfl rfl rfl ?_ ?_) | ((with_reducible refine yP ?_); refine yf rfl rfl rfl rfl rfl rfl ?_ ?_) | ((with_reducible refine zo ?_); refine zf rfl rfl rfl rfl rfl rfl rfl rfl rfl rfl ?_ ?_ ?_) | ((with_reducible refine ze ?_); refine wN (.t (.str s)) [(.par 1, .loc 91)] hw ?_) | refine zh rfl ?_ ?_ <;> intro hc)
            all_goals try (exfalso; omega)
            all_goals try rw [zeE j (by omega)]
            · intro e he
              simp only [List.mem_cons, List.not_mem_nil, or_false] at he
              rcases he with rfl | rfl <;> rfl
            · have : (zdr j).size = 2 := rfl
              omega
            · simp only [List.length_map, List.length_cons, List.length_nil]; omega
            · simp only [List.length_map, List.length_cons, List.length_nil]; omega
            · refine zM (n' := ac.length - (j + 1)) (by omega) ((za [0, 4, 5, 7, 82, 83] [.par 0, .loc 4, .loc 7, .loc 900, .loc 105] rfl rfl).trans (zd (.loc 105) (.loc 901) rfl rfl rfl rfl)) ⟨j + 1, ns ++ [s ++ zdr j], d9, by omega, rfl, by simp; omega, ew, fun h => ?_, fun h => by omega, ?_, ?_⟩
              · rw [← h5 h, show ac.length - (j + 1) = c by omega, List.append_assoc]; rfl
              · rw [zy (by omega) (by omega)]; rfl
              · rw [List.map_append, List.map_singleton]; rfl
          · have hje : j = ac.length := by omega
            repeat' (first | refine wC ?_ | refine wK ?_ | refine zh rfl ?_ ?_ <;> intro hc)
            all_goals try (exfalso; omega)
            have er : res = (Nd.mk k false 0 eS ns ac, dd) := by
              rw [← hres3]
              rcases hk with rfl | rfl
              · obtain ⟨h4a, h4b⟩ := h4 rfl
                rw [if_neg (by decide), h4a, h4b]
              · have h5 := h5 rfl
                rw [hje, Nat.sub_self] at h5
                simp only [zH, List.append_nil] at h5
                rw [if_pos rfl, ← h5]
            rw [er]
            simp only
            rw [Nd.toT_eq]
            refine zk (za [4] [.par 0, .loc 4, .loc 900, .loc 901] rfl rfl) ?_
            refine zk (zv (id := .loc 900) rfl rfl rfl) ?_; refine zk (zv (id := .loc 901) rfl rfl rfl) ?_
            exact wB
      · rw [if_neg hc] at hres
        simp only at hres
        have hg : ∃ g : List Nd × Dc, g = (acc, d2) ∧ g.1.length ≤ 17 ∧ g.2.l = d.l := ⟨_, rfl, by simp only; omega, by simp only; assumption⟩
        obtain ⟨g, eg, hg1, hg2⟩ := hg
        refine zi (zJ (r := .loc 7) 4 (.loc 901) 9 1 rfl rfl rfl rfl rfl) ?_
        refine zi (za [0, 4, 5, 7, 82, 83] [.par 0, .loc 4, .loc 7, .loc 900, .loc 901] rfl rfl) ?_
        have hres3 : (Nd.mk k false 0 eS (if k = 5 then zH acc.length 0 d2 else ([], d2)).1 acc, (if k = 5 then zH acc.length 0 d2 else ([], d2)).2) = res := by rw [← hres]
        clear h20
        refine zw (fun m env st => ∃ (j : Nat) (ns : List ByteArray) (dd : Dc), j ≤ acc.length ∧ m = acc.length - j ∧ ns.length ≤ j ∧ dd.l = d.l ∧ (k = 5 → (ns ++ (zH (acc.length - j) j dd).1, (zH (acc.length - j) j dd).2) = zH acc.length 0 d2) ∧ (k = 4 → ns = [] ∧ dd = d2) ∧
            env = EnvL.get [(0, .ref (.par 0) 0 0 0), (4, .ref (.loc 4) 0 0 0), (5, .t (.int .i64 k)), (7, .ref (.loc 7) 0 0 0), (82, .t (.int .i64 acc.length)), (83, .t (.int .i64 (j : Int)))] ∧
            st = StO.get [(.par 0, some dd.row), (.loc 4, some (.var 30 [.t (.int .i64 0), .t (.bool false), .t (.int .i64 0), .t (.str ⟨#[]⟩), .t .nilsl, .t .nilsl])), (.loc 7, some (.var 30 [.t (.int .i64 k), .t (.bool false), .t (.int .i64 0), .t (.str ⟨#[]⟩), .row (.loc 901), .row (.loc 900)])), (.loc 900, some (.slt 30 6 (acc.map Nd.toT))), (.loc 901, some (.slt 9 1 (ns.map .str)))])
          ?_ (n := acc.length) ⟨0, [], d2, by omega, by omega, by simp, by assumption, fun _ => by simp, fun _ => ⟨rfl, rfl⟩, rfl, rfl⟩
        rintro m env st ⟨j, ns, dd, hj, rfl, hns, hdd, h5, h4, rfl, rfl⟩
        by_cases hlt : j < acc.length
        · obtain ⟨c, hcc⟩ : ∃ c, acc.length - j = c + 1 := ⟨acc.length - j - 1, by omega⟩
          have hw := vi dd yw (by decide) (by decide) (by rw [hdd]; exact hd)
          have ew : (dd.word yw).2.l = d.l := by rw [Dc.word_l, hdd]
          have hwsz := (xE _ (dd.word_mem yw (by simp [yw]))).2
          rw [hcc] at h5
          simp only [zH] at h5
          generalize dd.word yw = qw at *
          obtain ⟨s, d9⟩ := qw
          simp only at *
          repeat' (first | refine wC ?_ | refine wK ?_ | ((with_reducible refine zO ?_); refine vb rfl rfl rfl rfl rfl rfl ?_ ?_) | ((with_reducible refine yP ?_); refine yf rfl rfl rfl rfl rfl rfl ?_ ?_) | ((with_reducible refine zo ?_); refine zf rfl rfl rfl rfl rfl rfl rfl rfl rfl rfl ?_ ?_ ?_) | ((with_reducible refine ze ?_); refine wN (.t (.str s)) [(.par 1, .loc 91)] hw ?_) | refine zh rfl ?_ ?_ <;> intro hc)
          all_goals try (exfalso; omega)
          all_goals try rw [zeE j (by omega)]
          · intro e he
            simp only [List.mem_cons, List.not_mem_nil, or_false] at he
            rcases he with rfl | rfl <;> rfl
          · have : (zdr j).size = 2 := rfl
            omega
          · simp only [List.length_map, List.length_cons, List.length_nil]; omega
          · simp only [List.length_map, List.length_cons, List.length_nil]; omega
          · refine zM (n' := acc.length - (j + 1)) (by omega) ((za [0, 4, 5, 7, 82, 83] [.par 0, .loc 4, .loc 7, .loc 900, .loc 105] rfl rfl).trans (zd (.loc 105) (.loc 901) rfl rfl rfl rfl)) ⟨j + 1, ns ++ [s ++ zdr j], d9, by omega, rfl, by simp; omega, ew, fun h => ?_, fun h => by omega, ?_, ?_⟩
            · rw [← h5 h, show acc.length - (j + 1) = c by omega, List.append_assoc]; rfl
            · rw [zy (by omega) (by omega)]; rfl
            · rw [List.map_append, List.map_singleton]; rfl
        · have hje : j = acc.length := by omega
          repeat' (first | refine wC ?_ | refine wK ?_ | refine zh rfl ?_ ?_ <;> intro hc)
          all_goals try (exfalso; omega)
          have er : res = (Nd.mk k false 0 eS ns acc, dd) := by
            rw [← hres3]
            rcases hk with rfl | rfl
            · obtain ⟨h4a, h4b⟩ := h4 rfl
              rw [if_neg (by decide), h4a, h4b]
            · have h5 := h5 rfl
              rw [hje, Nat.sub_self] at h5
              simp only [zH, List.append_nil] at h5
              rw [if_pos rfl, ← h5]
          rw [er]
          simp only
          rw [Nd.toT_eq]
          refine zk (za [4] [.par 0, .loc 4, .loc 900, .loc 901] rfl rfl) ?_
          refine zk (zv (id := .loc 900) rfl rfl rfl) ?_; refine zk (zv (id := .loc 901) rfl rfl rfl) ?_
          exact wB
    | succ c =>
      have hF := hf d' (by rw [e']; exact hd)
      have eF := hl d'
      simp only [yI] at hi
      generalize f d' = qf at *
      obtain ⟨x, d2⟩ := qf
      simp only at *
      have hF := hF.res x.toT_full
      have hn1 : IntKind.i64.wrap (n - 1) = n - 1 := zy (by omega) (by omega)
      rw [← hn1] at hF
      repeat' (first | refine wC ?_ | refine wK ?_ | ((with_reducible refine zo ?_); refine zf rfl rfl rfl rfl rfl rfl rfl rfl rfl rfl ?_ ?_ ?_) | ((with_reducible refine ze ?_); refine wN (.t (.agg [_, _, _, _, _, _])) [] hF ?_) | refine zh rfl ?_ ?_ <;> intro hc)
      all_goals try (exfalso; omega)
      · simp only [List.length_map, List.length_cons, List.length_nil]; omega
      · simp only [List.length_map, List.length_cons, List.length_nil]; omega
      · refine zM (n' := c) (by omega) ((za [0, 1, 4, 5, 7, 8] [.par 0, .loc 4, .loc 7, .loc 62] rfl rfl).trans (zd (.loc 62) (.loc 900) rfl rfl rfl rfl)) ⟨c, acc ++ [x], d2, rfl, by omega, by simp; omega, by rw [eF, e'], by rw [← hi, List.append_assoc]; rfl, ?_, ?_⟩
        · rw [zy (by omega) (by omega), show ((c + 1 : Nat) : Int) - 1 = (c : Int) by omega]; rfl
        · rw [List.map_append, List.map_singleton, x.toT_full]; rfl
theorem zay : ∀ (n : Nat), n ≤ 1000 → ∀ d : Dc, d.l.length ≤ 1000 → Spec Tryz.prog 23 [.ref (.par 0) 0 0 0, .t (.int .i64 (n : Int))] [(.par 0, d.row)] (.t (kS n d).1.toT) [(.par 0, (kS n d).2.row)]
  | 0, hn, d, hd => q7 0 (by omega) none (fun _ => by omega) d hd (by simp)
  | 1, hn, d, hd => q7 1 (by omega) none (fun _ => by omega) d hd (by simp)
  | n + 2, hn, d, hd => by
    refine q7 ((n + 2 : Nat) : Int) (by omega) (some (kS (n + 1))) (by simp) d hd ?_
    rintro f hf k d1 hq hk
    cases hf
    refine zgG ((n + 2 : Nat) : Int) (by omega) _ (zgi (n + 1)) (fun d' hd' => ?_) d hd k hk d1 hq
    have h := zay (n + 1) (by omega) d' hd'
    rw [show ((n + 2 : Nat) : Int) - 1 = ((n + 1 : Nat) : Int) by omega]
    exact h
def Nd.ofNum (n : Int) : Nd := .mk 2 false n eS [] []
theorem ze1 (n : Int) : (Nd.ofNum n).Ok := .mk (by simp) (by simp) (by simp)
theorem jJ {V : ByteArray → Bool} (hV : VOk V) (n e : Int) (he : 1 ≤ e) : (Nd.ofNum n).validB V e = true := by
  rw [Nd.ofNum, yz]
  exact ⟨he, by decide, by decide, by simp [Nd.fieldsOK, eS], xJ hV, by simp, by simp, by simp⟩
def u8L (l : List UInt8) : List T := l.map u8T
theorem zK (l : List UInt8) : (u8L l).length = l.length := by simp [u8L]
theorem zz (a b : List UInt8) : u8L (a ++ b) = u8L a ++ u8L b := by simp [u8L]
theorem zhN (n c : Nat) : IntKind.u8.wrap ((n : Int) / 2 ^ (8 * c)) = ((UInt8.ofNat (n / 256 ^ c)).toNat : Int) := by
  have e : (2 : Int) ^ (8 * c) = ((256 ^ c : Nat) : Int) := by
    have : (256 : Nat) ^ c = 2 ^ (8 * c) := by rw [Nat.pow_mul]
    rw [this]; simp
  rw [e]
  simp only [IntKind.wrap, IntKind.bits, IntKind.signed, Bool.false_and, Bool.false_eq_true, if_false]
  rw [UInt8.toNat_ofNat']
  omega
set_option maxHeartbeats 2000000 in
theorem qg (es : List T) (hes : es.length ≤ 1000000000) (n : Nat) (hn : n < 18446744073709551616) (k : Nat) (hk : k ≤ 8) : Spec Tryz.prog 229 [.row (.par 0), .t (.int .u64 (n : Int)), .t (.int .i64 (k : Int))] [(.par 0, .slt 5 1 es)] (.row (.res 0)) [(.res 0, .slt 5 1 (es ++ u8L (xH k n)))] := by
  refine wIG Tryz.func229 ?_
  repeat' (first | refine wC ?_ | refine wK ?_ | fail)
  refine zi ((za [0, 1, 7] [.par 0] rfl rfl).trans (jz (.par 0) (.loc 900) rfl rfl rfl rfl)) ?_
  refine zw (fun p env st => ∃ (c : Nat) (xs : List T), c ≤ 8 ∧ p = c ∧ xs.length + c = es.length + k ∧ xs ++ u8L (xH c n) = es ++ u8L (xH k n) ∧
      env = EnvL.get [(0, .row (.loc 900)), (1, .t (.int .u64 (n : Int))), (7, .t (.int .i64 ((c : Int) - 1)))] ∧ st = StO.get [(.loc 900, some (.slt 5 1 xs))])
    ?_ (n := k) ⟨k, es, hk, rfl, rfl, rfl, ?_, rfl⟩
  rotate_left
  · rw [zy (by omega) (by omega)]; rfl
  rintro p env st ⟨c, xs, hc8, rfl, hlen, hi, rfl, rfl⟩
  repeat' (first | refine wC ?_ | refine wK ?_ | ((with_reducible refine zO ?_); refine zas rfl rfl rfl rfl rfl rfl ?_ ?_) | ((with_reducible refine zo ?_); refine zf rfl rfl rfl rfl rfl rfl rfl rfl rfl rfl ?_ ?_ ?_) | refine zh rfl ?_ ?_ <;> intro hc)
  · rw [zy (by omega) (by omega)]; omega
  · simp; omega
  · simp; omega
  · obtain ⟨c, rfl⟩ : ∃ c, p = c + 1 := ⟨p - 1, by omega⟩
    refine zM (n' := c) (by omega) ((za [0, 1, 7] [.loc 21] rfl rfl).trans (zd (.loc 21) (.loc 900) rfl rfl rfl rfl)) ⟨c, _, by omega, rfl, ?_, ?_, ?_, rfl⟩
    · simp; omega
    · rw [← hi, List.append_assoc]
      congr 1
      have e : (min (IntKind.i64.wrap (8 * ((c + 1 : Nat) - 1 : Int))).toNat IntKind.u64.bits) = 8 * c := by
        rw [zy (by omega) (by omega)]
        have : IntKind.u64.bits = 64 := rfl
        omega
      rw [e, zhN]
      rfl
    · rw [zy (by omega) (by omega)]
      rw [show ((c + 1 : Nat) : Int) - 1 - 1 = (c : Int) - 1 by omega]
      rfl
  · obtain rfl : p = 0 := by omega
    simp only [xH, u8L, List.map_nil, List.append_nil] at hi
    rw [hi]
    refine zk ((za [6] [.loc 900] rfl rfl).trans (zd (.loc 900) (.res 0) rfl rfl rfl rfl)) ?_
    exact zE (zm (zt rfl (AVLE.refl _)) (zc ⟨rfl, trivial⟩))
theorem zhc : ∀ m : Fin 8, ∀ b : Fin 32, IntKind.u8.wrap ((BitVec.ofInt IntKind.u8.bits (IntKind.u8.wrap (IntKind.i64.wrap ((m.val : Int) * 2 ^ min (Int.toNat 5) IntKind.i64.bits))) ||| BitVec.ofInt IntKind.u8.bits (b.val : Int)).toNat : Int) = ((UInt8.ofNat (32 * m.val + b.val)).toNat : Int) := by decide +kernel
theorem zbn {m b : Nat} (hm : m ≤ 7) (hb : b < 32) : IntKind.u8.wrap ((BitVec.ofInt IntKind.u8.bits (IntKind.u8.wrap (IntKind.i64.wrap ((m : Int) * 2 ^ min (Int.toNat 5) IntKind.i64.bits))) ||| BitVec.ofInt IntKind.u8.bits (b : Int)).toNat : Int) = ((UInt8.ofNat (32 * m + b)).toNat : Int) := zhc ⟨m, by omega⟩ ⟨b, hb⟩
theorem xx {n : Int} (h0 : 0 ≤ n) (h : n < 256) : IntKind.u8.wrap n = n := by
  simp only [IntKind.wrap, IntKind.bits, IntKind.signed, Bool.false_and, Bool.false_eq_true, if_false]
  omega
def zis (m n j : Nat) : List UInt8 := UInt8.ofNat (32 * m + (24 + j)) :: xH (2 ^ j) n
theorem zhu {m n : Nat} (h : n < 24) : hdL m n = [UInt8.ofNat (32 * m + n)] := by unfold hdL; rw [if_pos h]
theorem zgp {m n j : Nat} (hn : n < 18446744073709551616) (h24 : 24 ≤ n) (hj : j ≤ 3) (hlo : ∀ i, i < j → 256 ^ (2 ^ i) ≤ n) (hhi : n < 256 ^ (2 ^ j)) : hdL m n = zis m n j := by
  unfold hdL zis
  rw [if_neg (by omega)]
  match j, hj with
  | 0, _ => rw [if_pos (by simpa using hhi)]; try rfl
  | 1, _ =>
    have := hlo 0 (by omega)
    rw [if_neg (by simp at this; omega), if_pos (by simpa using hhi)]; try rfl
  | 2, _ =>
    have h0 := hlo 0 (by omega)
    have h1 := hlo 1 (by omega)
    rw [if_neg (by simp at h0; omega), if_neg (by simp at h1; omega), if_pos (by simpa using hhi)]; try rfl
  | 3, _ =>
    have h0 := hlo 0 (by omega)
    have h1 := hlo 1 (by omega)
    have h2 := hlo 2 (by omega)
    rw [if_neg (by simp at h0; omega), if_neg (by simp at h1; omega), if_neg (by simp at h2; omega)]; try rfl
theorem ziX {j : Nat} (hj : j ≤ 3) : IntKind.i64.wrap (1 * 2 ^ min (j : Int).toNat IntKind.i64.bits) = ((2 ^ j : Nat) : Int) := by
  match j, hj with
  | 0, _ | 1, _ | 2, _ | 3, _ => decide
theorem zjP {j : Nat} (hj : j ≤ 3) : IntKind.u8.wrap (IntKind.i64.wrap (24 + (j : Int))) = ((24 + j : Nat) : Int) := by
  match j, hj with
  | 0, _ | 1, _ | 2, _ | 3, _ => decide
theorem zhB {n j : Nat} (hj : j ≤ 3) : (n : Int) / 2 ^ min (IntKind.u64.wrap (8 * 2 ^ min (j : Int).toNat IntKind.u64.bits)).toNat IntKind.u64.bits = 0 ↔ n < 256 ^ (2 ^ j) := by
  match j, hj with
  | 0, _ => rw [show min (IntKind.u64.wrap (8 * 2 ^ min ((0 : Nat) : Int).toNat IntKind.u64.bits)).toNat IntKind.u64.bits = 8 by decide]; simp <;> omega
  | 1, _ => rw [show min (IntKind.u64.wrap (8 * 2 ^ min ((1 : Nat) : Int).toNat IntKind.u64.bits)).toNat IntKind.u64.bits = 16 by decide]; simp <;> omega
  | 2, _ => rw [show min (IntKind.u64.wrap (8 * 2 ^ min ((2 : Nat) : Int).toNat IntKind.u64.bits)).toNat IntKind.u64.bits = 32 by decide]; simp <;> omega
  | 3, _ => rw [show min (IntKind.u64.wrap (8 * 2 ^ min ((3 : Nat) : Int).toNat IntKind.u64.bits)).toNat IntKind.u64.bits = 64 by decide]; simp <;> omega
set_option maxHeartbeats 4000000 in
theorem y2 (es : List T) (hes : es.length ≤ 100000000) (m : Nat) (hm : m ≤ 7) (n : Nat) (hn : n < 18446744073709551616) : Spec Tryz.prog 238 [.row (.par 0), .t (.int .i64 (m : Int)), .t (.int .u64 (n : Int))] [(.par 0, .slt 5 1 es)] (.row (.res 0)) [(.res 0, .slt 5 1 (es ++ u8L (hdL m n)))] := by
  refine wIG Tryz.func238 ?_
  repeat' (first | refine wC ?_ | refine wK ?_ | ((with_reducible refine zo ?_); refine zf rfl rfl rfl rfl rfl rfl rfl rfl rfl rfl ?_ ?_ ?_) | refine zh rfl ?_ ?_ <;> intro hc)
  all_goals try omega
  · simp; omega
  · simp; omega
  · have h24 : n < 24 := by omega
    rw [zhu h24]
    refine zk ((za [6] [.loc 20] rfl rfl).trans (zd (.loc 20) (.res 0) rfl rfl rfl rfl)) ?_
    refine zE (zm (zt rfl (AVLE.refl _)) (zc ⟨?_, trivial⟩))
    rw [xx (n := (n : Int)) (by omega) (by omega), zbn hm (by omega)]
    rfl
  have h24 : 24 ≤ n := by omega
  refine zi (za [0, 2, 7, 21] [.par 0] rfl rfl) ?_
  refine zw (fun p env st => ∃ (j : Nat), j ≤ 3 ∧ p = 3 - j ∧ (∀ i, i < j → 256 ^ (2 ^ i) ≤ n) ∧
      env = EnvL.get [(0, .row (.par 0)), (2, .t (.int .u64 (n : Int))), (7, .t (.int .u8 (IntKind.u8.wrap (IntKind.i64.wrap ((m : Int) * 2 ^ min (Int.toNat 5) IntKind.i64.bits))))), (21, .t (.int .i64 (j : Int)))] ∧ st = StO.get [(.par 0, some (.slt 5 1 es))])
    ?_ (n := 3) ⟨0, by omega, rfl, fun i hi => by omega, rfl, rfl⟩
  rintro p env st ⟨j, hj, rfl, hlo, rfl, rfl⟩
  have hP : ∀ X : T, Spec Tryz.prog 229 [.row (.par 0), .t (.int .u64 (n : Int)), .t (.int .i64 (IntKind.i64.wrap (1 * 2 ^ min (j : Int).toNat IntKind.i64.bits)))] [(.par 0, .slt 5 1 (es ++ [X]))] (.row (.res 0)) [(.res 0, .slt 5 1 ((es ++ [X]) ++ u8L (xH (2 ^ j) n)))] := fun X => by
    rw [ziX hj]
    exact qg _ (by simp; omega) n hn (2 ^ j) (by match j, hj with | 0, _ | 1, _ | 2, _ | 3, _ => decide)
  have hP8 : ∀ X : T, Spec Tryz.prog 229 [.row (.par 0), .t (.int .u64 (n : Int)), .t (.int .i64 8)] [(.par 0, .slt 5 1 (es ++ [X]))] (.row (.res 0)) [(.res 0, .slt 5 1 ((es ++ [X]) ++ u8L (xH 8 n)))] := fun X =>
    qg _ (by simp; omega) n hn 8 (by omega)
  repeat' (first | refine wC ?_ | refine wK ?_ | ((with_reducible refine zO ?_); first | refine xB rfl rfl rfl rfl rfl rfl ?_ ?_ | refine zas rfl rfl rfl rfl rfl rfl ?_ ?_) | ((with_reducible refine zo ?_); refine zf rfl rfl rfl rfl rfl rfl rfl rfl rfl rfl ?_ ?_ ?_) | ((with_reducible refine ze ?_); first | refine wN (.row (.loc 901)) [(.par 0, .loc 36), (.res 0, .loc 901)] (hP _) ?_ | refine wN (.row (.loc 902)) [(.par 0, .loc 46), (.res 0, .loc 902)] (hP8 _) ?_) | refine zh rfl ?_ ?_ <;> intro hc)
  all_goals try omega
  · rw [show (8 : Int) * 2 ^ min (j : Int).toNat IntKind.u64.bits = ((8 * 2 ^ j : Nat) : Int) by match j, hj with | 0, _ | 1, _ | 2, _ | 3, _ => decide]
    simp only [IntKind.wrap, IntKind.bits, IntKind.signed, Bool.false_and, Bool.false_eq_true, if_false]
    omega
  · simp; omega
  · simp; omega
  · have hz := hc
    have hlt := (zhB hj).1 hz
    have e : hdL m n = zis m n j := zgp hn h24 hj hlo hlt
    refine zk ((za [6] [.loc 901] rfl rfl).trans (zd (.loc 901) (.res 0) rfl rfl rfl rfl)) ?_
    refine zE (zm (zt rfl (AVLE.refl _)) (zc ⟨?_, trivial⟩))
    rw [e, zjP hj, zbn hm (by omega), List.append_assoc]
    rfl
  · have hz := hc
    have hge : 256 ^ (2 ^ j) ≤ n := Nat.le_of_not_lt fun h => hz ((zhB hj).2 h)
    refine zM (n' := 3 - (j + 1)) (by omega) (za [0, 2, 7, 21] [.par 0] rfl rfl) ⟨j + 1, by omega, rfl, fun i hi => ?_, by rw [zy (by omega) (by omega)]; rfl, rfl⟩
    rcases Nat.lt_or_ge i j with h | h
    · exact hlo i h
    · obtain rfl : i = j := by omega
      exact hge
  · simp; omega
  · simp; omega
  · obtain rfl : j = 3 := by omega
    have e : hdL m n = zis m n 3 := zgp hn h24 (by omega) hlo (by simpa using hn)
    refine zk ((za [6] [.loc 902] rfl rfl).trans (zd (.loc 902) (.res 0) rfl rfl rfl rfl)) ?_
    refine zE (zm (zt rfl (AVLE.refl _)) (zc ⟨?_, trivial⟩))
    rw [e, show (27 : Int) = ((27 : Nat) : Int) from rfl, zbn hm (by omega), List.append_assoc]
    rfl
set_option maxHeartbeats 2000000 in
theorem za5 (k : Int) (b : Bool) (n : Int) (t : ByteArray) (ns : List ByteArray) (is : List Nd) : Spec Tryz.prog 163 [.t (.agg [.int .i64 k, .bool b, .int .i64 n, .str t, .sl 1 (ns.map .str), .sl 6 (is.map Nd.toT)])] [] (.fn 230 [.ref (.res 0) 0 0 0]) [(.res 0, .var 30 [.t (.int .i64 k), .t (.bool b), .t (.int .i64 n), .t (.str t), .t (.sl 1 (ns.map .str)), .t (.sl 6 (is.map Nd.toT))])] := by
  refine wIG Tryz.func163 ?_
  repeat' (first | refine wC ?_ | refine wK ?_ | fail)
  refine zk ((za [2] [.loc 1] rfl rfl).trans (zd (.loc 1) (.res 0) rfl rfl rfl rfl)) ?_
  exact zE (zm (zt rfl (AVLE.of_eq rfl)) (zc ⟨rfl, trivial⟩))
def qo (k : Int) (ns : List ByteArray) (i : Nat) : ByteArray := if k = 5 then ns.getD i default else eS
set_option maxHeartbeats 4000000 in
theorem wJ (k : Int) (b : Bool) (n : Int) (t : ByteArray) (ns : List ByteArray) (is : List Nd) (hlen : is.length ≤ 1000) (hk : k = 5 → ns.length = is.length)
    (kk : LoopK) (tb tn : Nat) (e : T) (f : Nat → List T)
    (H : ∀ i, i < is.length → RoundT Tryz.prog kk [(tb, .ref (.par 10) 0 0 0), (tn, .tp e 0)] [.t (.str (qo k ns i)), .t ((is.getD i default).toT)] [(.par 10, .var 82 [.row (.par 11)]), (.par 11, .slt 5 1 (f i))] [(.par 10, .var 82 [.row (.res 0)]), (.res 0, .slt 5 1 (f (i + 1)))]) :
    Spec Tryz.prog 230 [.row (.par 50), .tp (.agg [.int .i64 k, .bool b, .int .i64 n, .str t, .sl 1 (ns.map .str), .sl 6 (is.map Nd.toT)]) 0] [(.par 50, .loop kk [(tb, .ref (.par 10) 0 0 0), (tn, .tp e 0)]), (.par 10, .var 82 [.row (.par 11)]), (.par 11, .slt 5 1 (f 0))]
      (.tup []) [(.par 50, .loop kk [(tb, .ref (.par 10) 0 0 0), (tn, .tp e 0)]), (.par 10, .var 82 [.row (.res 0)]), (.res 0, .slt 5 1 (f is.length))] := by
  refine wIG Tryz.func230 ?_
  repeat' (first | refine wC ?_ | refine wK ?_ | fail)
  refine zi ((za [0, 1, 7, 8, 9] [.par 50, .par 10, .par 11] rfl rfl).trans (jz (.par 11) (.loc 900) rfl rfl rfl rfl)) ?_
  refine zw (fun p env st => ∃ (j : Nat), j ≤ is.length ∧ p = is.length - j ∧
      env = EnvL.get [(0, .row (.par 50)), (1, .tp (.agg [.int .i64 k, .bool b, .int .i64 n, .str t, .sl 1 (ns.map .str), .sl 6 (is.map Nd.toT)]) 0), (7, .t (.sl 6 (is.map Nd.toT))), (8, .t (.int .i64 (is.length : Int))), (9, .t (.int .i64 (j : Int)))] ∧
      st = StO.get [(.par 50, some (.loop kk [(tb, .ref (.par 10) 0 0 0), (tn, .tp e 0)])), (.par 10, some (.var 82 [.row (.loc 900)])), (.loc 900, some (.slt 5 1 (f j)))])
    ?_ (n := is.length) ⟨0, by omega, rfl, ?_, ?_⟩
  rotate_left
  · rfl
  · rfl
  rintro p env st ⟨j, hj, rfl, rfl, rfl⟩
  by_cases hlt : j < is.length
  · have hR := H j hlt
    have hg : is.getD (j : Int).toNat default = is.getD j default := rfl
    have hT := (is.getD j default).toT_full
    rw [hT] at hR
    by_cases h5 : k = 5
    · subst h5
      have hnm : qo 5 ns j = ns.getD (j : Int).toNat default := by simp [qo]
      rw [hnm] at hR
      have hl5 := hk rfl
      repeat' (first | refine wC ?_ | refine yh rfl rfl hT rfl rfl rfl rfl rfl rfl ?_ | refine wK ?_ | ((with_reducible refine zu ?_); refine zr rfl rfl rfl rfl rfl rfl ?_ ?_ ?_) | ((with_reducible refine ze ?_); refine zeC [(.par 11, .loc 900), (.res 0, .loc 901)] rfl rfl hR rfl (ArgsLE.refl _) rfl rfl ⟨rfl, rfl, trivial⟩ rfl rfl rfl rfl rfl rfl rfl rfl rfl rfl ?_) | refine zh rfl ?_ ?_ <;> intro hc)
      all_goals try omega
      · refine zM (n' := is.length - (j + 1)) (by omega) ((za [0, 1, 7, 8, 9] [.par 50, .par 10, .loc 901] rfl rfl).trans (zd (.loc 901) (.loc 900) rfl rfl rfl rfl)) ⟨j + 1, by omega, rfl, by rw [zy (by omega) (by omega)]; rfl, rfl⟩
    · have hnm : qo k ns j = eS := by simp [qo, h5]
      rw [hnm] at hR
      repeat' (first | refine wC ?_ | refine yh rfl rfl hT rfl rfl rfl rfl rfl rfl ?_ | refine wK ?_ | ((with_reducible refine zu ?_); refine zr rfl rfl rfl rfl rfl rfl ?_ ?_ ?_) | ((with_reducible refine ze ?_); refine zeC [(.par 11, .loc 900), (.res 0, .loc 901)] rfl rfl hR rfl (ArgsLE.refl _) rfl rfl ⟨rfl, rfl, trivial⟩ rfl rfl rfl rfl rfl rfl rfl rfl rfl rfl ?_) | refine zh rfl ?_ ?_ <;> intro hc)
      all_goals try omega
      · refine zM (n' := is.length - (j + 1)) (by omega) ((za [0, 1, 7, 8, 9] [.par 50, .par 10, .loc 901] rfl rfl).trans (zd (.loc 901) (.loc 900) rfl rfl rfl rfl)) ⟨j + 1, by omega, rfl, by rw [zy (by omega) (by omega)]; rfl, rfl⟩
  · repeat' (first | refine wC ?_ | refine wK ?_ | ((with_reducible refine zu ?_); refine zr rfl rfl rfl rfl rfl rfl ?_ ?_ ?_) | refine zh rfl ?_ ?_ <;> intro hc)
    all_goals try omega
    obtain rfl : j = is.length := by omega
    refine zk ((za [] [.par 50, .par 10, .loc 900] rfl rfl).trans (zd (.loc 900) (.res 0) rfl rfl rfl rfl)) ?_
    exact zE (zi7 (je rfl) (zc ⟨rfl, rfl, rfl, trivial⟩))
end Go.AL
namespace Go.AL
open Go Go.RowKit
theorem Nd.ok_of_valid {V : ByteArray → Bool} : ∀ (x : Nd) (e : Int), x.validB V e = true → x.Ok
  | .mk k b n t ns is, e, h => by
    rw [yz] at h
    obtain ⟨_, _, _, h4, _, h6, h7, h8⟩ := h
    refine .mk ?_ (by omega) fun x hx => Nd.ok_of_valid x (e - 1) (h8 x hx)
    by_cases hk : k = 5
    · have := (h7 hk).2; omega
    · have : ns.length = 0 := by
        simp only [Nd.fieldsOK, Bool.and_eq_true, Bool.or_eq_true, decide_eq_true_eq] at h4
        have := h4.2
        omega
      omega
termination_by x => SizeOf.sizeOf x
decreasing_by
  have := List.sizeOf_lt_of_mem hx
  simp only [Nd.mk.sizeOf_spec]
  omega
end Go.AL
namespace Go.AL
open Go Go.Proofs Go.RowKit
def qV (k : Int) (ns : List ByteArray) (is : List Nd) (i : Nat) : List UInt8 := if k = 5 then Nd.cbm (ns.take i) (is.take i) else Nd.cbs (is.take i)
theorem zaE : ∀ (a b : List Nd), Nd.cbs (a ++ b) = Nd.cbs a ++ Nd.cbs b
  | [], b => rfl
  | x :: a, b => by simp [Nd.cbs, zaE a b]
theorem zbi : ∀ (a : List ByteArray) (b : List Nd) (s : ByteArray) (x : Nd), a.length = b.length → Nd.cbm (a ++ [s]) (b ++ [x]) = Nd.cbm a b ++ (hdL 3 s.size ++ s.data.toList ++ x.cb)
  | [], [], s, x, _ => by simp [Nd.cbm]
  | n :: a, y :: b, s, x, h => by simp [Nd.cbm, zbi a b s x (by simpa using h), List.append_assoc]
  | [], _ :: _, _, _, h => by simp at h
  | _ :: _, [], _, _, h => by simp at h
theorem jg {k : Int} {ns : List ByteArray} {is : List Nd} {i : Nat} (hk : k ≠ 5) (hi : i < is.length) : qV k ns is (i + 1) = qV k ns is i ++ (is.getD i default).cb := by
  have e : is.take (i + 1) = is.take i ++ [is.getD i default] := by
    rw [List.take_add_one, List.getElem?_eq_getElem hi]; simp [List.getD_eq_getElem?_getD, hi]
  simp only [qV, if_neg hk, e, zaE, Nd.cbs, List.append_nil]
theorem zbB {ns : List ByteArray} {is : List Nd} {i : Nat} (hl : ns.length = is.length) (hi : i < is.length) : qV 5 ns is (i + 1) = qV 5 ns is i ++ (hdL 3 (ns.getD i default).size ++ (ns.getD i default).data.toList ++ (is.getD i default).cb) := by
  have e : is.take (i + 1) = is.take i ++ [is.getD i default] := by
    rw [List.take_add_one, List.getElem?_eq_getElem hi]; simp [List.getD_eq_getElem?_getD, hi]
  have e2 : ns.take (i + 1) = ns.take i ++ [ns.getD i default] := by
    rw [List.take_add_one, List.getElem?_eq_getElem (by omega)]; simp [List.getD_eq_getElem?_getD, show i < ns.length by omega]
  simp only [qV, if_true, e, e2]
  exact zbi _ _ _ _ (by simp; omega)
theorem zc6 {k : Int} {ns : List ByteArray} {is : List Nd} (hk : k = 5 → ns.length = is.length) {i j : Nat} (hij : i ≤ j) (hj : j ≤ is.length) : (qV k ns is i).length ≤ (qV k ns is j).length := by
  induction j with
  | zero => rw [show i = 0 by omega]; exact Nat.le_refl _
  | succ j ih =>
    rcases Nat.lt_or_ge i (j + 1) with h | h
    · refine Nat.le_trans (ih (by omega) (by omega)) ?_
      by_cases h5 : k = 5
      · subst h5
        rw [zbB (hk rfl) (by omega), List.length_append]; omega
      · rw [jg h5 (by omega), List.length_append]; omega
    · rw [show i = j + 1 by omega]; exact Nat.le_refl _
set_option maxHeartbeats 8000000 in
theorem zh4 (k : Int) (hk45 : k = 4 ∨ k = 5) (b : Bool) (n : Int) (t : ByteArray) (ns : List ByteArray) (is : List Nd) (hlen : is.length ≤ 256) (hk : k = 5 → ns.length = is.length)
    (hns : ∀ s ∈ ns, s.size ≤ 65536) (es : List T) (hb : es.length + (hdL k.toNat is.length).length + (qV k ns is is.length).length ≤ 50000000)
    (IH : ∀ i, i < is.length → ∀ es' : List T, es'.length + (is.getD i default).cb.length ≤ 50000000 → Spec Tryz.prog 167 [.row (.par 0), .t (is.getD i default).toT] [(.par 0, .slt 5 1 es')] (.row (.res 0)) [(.res 0, .slt 5 1 (es' ++ u8L (is.getD i default).cb))]) :
    Spec Tryz.prog 167 [.row (.par 0), .t (.agg [.int .i64 k, .bool b, .int .i64 n, .str t, .sl 1 (ns.map .str), .sl 6 (is.map Nd.toT)])] [(.par 0, .slt 5 1 es)] (.row (.res 0)) [(.res 0, .slt 5 1 (es ++ u8L (hdL k.toNat is.length) ++ u8L (qV k ns is is.length)))] := by
  have hI := za5 k b n t ns is
  have hH : Spec Tryz.prog 238 [.row (.par 0), .t (.int .i64 k), .t (.int .u64 (IntKind.u64.wrap (is.length : Int)))] [(.par 0, .slt 5 1 es)] (.row (.res 0)) [(.res 0, .slt 5 1 (es ++ u8L (hdL k.toNat is.length)))] := by
    have e : IntKind.u64.wrap (is.length : Int) = (is.length : Int) := by
      simp only [IntKind.wrap, IntKind.bits, IntKind.signed, Bool.false_and, Bool.false_eq_true, if_false]; omega
    rw [e]
    have := y2 es (by omega) k.toNat (by omega) is.length (by omega)
    rw [show (k.toNat : Int) = k by omega] at this
    exact this
  obtain rfl | rfl := hk45
  · refine wIG Tryz.func167 ?_
    repeat' (first | refine wC ?_ | refine wK ?_ | ((with_reducible refine ze ?_); first | refine wN (.row (.loc 903)) [(.res 0, .loc 903)] hH ?_ | refine wN (.fn 230 [.ref (.loc 904) 0 0 0]) [(.res 0, .loc 904)] hI ?_))
    refine zi ((za [2, 3, 63] [.loc 2, .loc 3, .loc 903, .loc 904] rfl rfl).trans ((qx 3 (.loc 3) [.int .i64 4, .bool b, .int .i64 n, .str t, .sl 1 (ns.map .str), .sl 6 (is.map Nd.toT)] rfl rfl rfl rfl rfl).trans (qv 63 (.loc 904) [.int .i64 4, .bool b, .int .i64 n, .str t, .sl 1 (ns.map .str), .sl 6 (is.map Nd.toT)] rfl rfl rfl rfl rfl))) ?_
    refine yV (.par 50) (.loc 905) [(.par 50, .loc 905), (.par 10, .loc 2), (.par 11, .loc 903), (.res 0, .loc 906)] rfl (fun fn B => wJ 4 b n t ns is (by omega) hk ⟨80, fn, #[64, 65], _, _, B⟩ 2 3 (.agg [.int .i64 4, .bool b, .int .i64 n, .str t, .sl 1 (ns.map .str), .sl 6 (is.map Nd.toT)]) (fun i => es ++ u8L (hdL (Int.toNat 4) is.length) ++ u8L (qV 4 ns is i)) ?_) (fun _ _ => rfl) rfl rfl rfl (ArgsLE.refl _) ⟨AVLE.refl _, AVLE.refl _, trivial⟩ rfl rfl ⟨rfl, ?_, trivial⟩ rfl rfl rfl rfl rfl rfl ?_
    rotate_left
    · have e0 : u8L (qV 4 ns is 0) = [] := by simp [qV, Nd.cbs, u8L]
      rw [e0, List.append_nil]; rfl
    · repeat' (first | refine wC ?_ | refine wK ?_ | fail)
      refine zk ((za [4] [.loc 906] rfl rfl).trans (zd (.loc 906) (.res 0) rfl rfl rfl rfl)) ?_
      exact zE (zm (zt rfl (AVLE.of_eq rfl)) (zc ⟨rfl, trivial⟩))
    intro i hi
    have hle : (qV 4 ns is (i + 1)).length ≤ (qV 4 ns is is.length).length := zc6 hk (by omega) (by omega)
    have hP := IH i hi (es ++ u8L (hdL (Int.toNat 4) is.length) ++ u8L (qV 4 ns is i)) (by
      rw [jg (by decide) hi, List.length_append] at hle
      simp only [List.length_append, zK]; omega)
    have hT := (is.getD i default).toT_full
    rw [hT] at hP ⊢
    rw [jg (by decide) hi, zz, ← List.append_assoc]
    generalize es ++ u8L (hdL (Int.toNat 4) is.length) ++ u8L (qV 4 ns is i) = xs at hP ⊢
    refine xZ rfl rfl rfl rfl rfl ?_
    repeat' (first | refine wC ?_ | refine wK ?_ | ((with_reducible refine ze ?_); refine wN (.row (.loc 907)) [(.par 0, .par 11), (.res 0, .loc 907)] hP ?_))
    refine zk ((za [] [.par 10, .loc 907] rfl rfl).trans (zd (.loc 907) (.res 0) rfl rfl rfl rfl)) ?_
    exact zb4 ⟨rfl, rfl, trivial⟩
  · refine wIG Tryz.func167 ?_
    repeat' (first | refine wC ?_ | refine wK ?_ | ((with_reducible refine ze ?_); first | refine wN (.row (.loc 903)) [(.res 0, .loc 903)] hH ?_ | refine wN (.fn 230 [.ref (.loc 904) 0 0 0]) [(.res 0, .loc 904)] hI ?_))
    refine zi ((za [2, 3, 63] [.loc 2, .loc 3, .loc 903, .loc 904] rfl rfl).trans ((qx 3 (.loc 3) [.int .i64 5, .bool b, .int .i64 n, .str t, .sl 1 (ns.map .str), .sl 6 (is.map Nd.toT)] rfl rfl rfl rfl rfl).trans (qv 63 (.loc 904) [.int .i64 5, .bool b, .int .i64 n, .str t, .sl 1 (ns.map .str), .sl 6 (is.map Nd.toT)] rfl rfl rfl rfl rfl))) ?_
    refine yV (.par 50) (.loc 905) [(.par 50, .loc 905), (.par 10, .loc 2), (.par 11, .loc 903), (.res 0, .loc 906)] rfl (fun fn B => wJ 5 b n t ns is (by omega) hk ⟨80, fn, #[64, 65], _, _, B⟩ 2 3 (.agg [.int .i64 5, .bool b, .int .i64 n, .str t, .sl 1 (ns.map .str), .sl 6 (is.map Nd.toT)]) (fun i => es ++ u8L (hdL (Int.toNat 5) is.length) ++ u8L (qV 5 ns is i)) ?_) (fun _ _ => rfl) rfl rfl rfl (ArgsLE.refl _) ⟨AVLE.refl _, AVLE.refl _, trivial⟩ rfl rfl ⟨rfl, ?_, trivial⟩ rfl rfl rfl rfl rfl rfl ?_
    rotate_left
    · have e0 : u8L (qV 5 ns is 0) = [] := by simp [qV, Nd.cbm, u8L]
      rw [e0, List.append_nil]; rfl
    · repeat' (first | refine wC ?_ | refine wK ?_ | fail)
      refine zk ((za [4] [.loc 906] rfl rfl).trans (zd (.loc 906) (.res 0) rfl rfl rfl rfl)) ?_
      exact zE (zm (zt rfl (AVLE.of_eq rfl)) (zc ⟨rfl, trivial⟩))
    intro i hi
    have hle : (qV 5 ns is (i + 1)).length ≤ (qV 5 ns is is.length).length := zc6 hk (by omega) (by omega)
    have hl5 := hk rfl
    have hsz : (ns.getD i default).size ≤ 65536 := hns _ (by rw [List.getD_eq_getElem?_getD, List.getElem?_eq_getElem (by omega)]; simp)
    have hnm : qo 5 ns i = ns.getD i default := by simp [qo]
    rw [hnm]
    rw [zbB hl5 hi, List.length_append, List.length_append, List.length_append] at hle
    rw [zbB hl5 hi, zz, zz, zz, ← List.append_assoc, ← List.append_assoc, ← List.append_assoc]
    have hd : (ns.getD i default).data.toList.length = (ns.getD i default).size := by rw [Array.length_toList]; rfl
    have hxs : (es ++ u8L (hdL (Int.toNat 5) is.length) ++ u8L (qV 5 ns is i)).length + (hdL 3 (ns.getD i default).size).length + (ns.getD i default).size + (is.getD i default).cb.length ≤ 50000000 := by
      simp only [List.length_append, zK]; omega
    have hP := IH i hi
    have hT := (is.getD i default).toT_full
    rw [hT] at hP ⊢
    generalize es ++ u8L (hdL (Int.toNat 5) is.length) ++ u8L (qV 5 ns is i) = xs at hP hxs ⊢
    generalize ns.getD i default = s at hd hsz hxs ⊢
    have hH3 : Spec Tryz.prog 238 [.row (.par 0), .t (.int .i64 3), .t (.int .u64 (IntKind.u64.wrap (s.size : Int)))] [(.par 0, .slt 5 1 xs)] (.row (.res 0)) [(.res 0, .slt 5 1 (xs ++ u8L (hdL 3 s.size)))] := by
      have e : IntKind.u64.wrap (s.size : Int) = (s.size : Int) := by
        simp only [IntKind.wrap, IntKind.bits, IntKind.signed, Bool.false_and, Bool.false_eq_true, if_false]; omega
      rw [e]
      exact y2 xs (by omega) 3 (by omega) s.size (by omega)
    have hP2 := hP (xs ++ u8L (hdL 3 s.size) ++ u8L s.data.toList) (by simp only [List.length_append, zK]; omega)
    refine xZ rfl rfl rfl rfl rfl ?_
    repeat' (first | refine wC ?_ | refine wK ?_ | ((with_reducible refine zo ?_); refine zX rfl rfl rfl rfl rfl rfl rfl rfl rfl ?_ ?_ ?_) | ((with_reducible refine ze ?_); first | refine wN (.row (.loc 908)) [(.par 0, .par 11), (.res 0, .loc 908)] hH3 ?_ | refine wN (.row (.loc 907)) [(.par 0, .loc 75), (.res 0, .loc 907)] hP2 ?_))
    · simp only [List.length_append, zK, yo, List.length_map]; omega
    · simp only [List.length_append, zK, yo, List.length_map]; omega
    refine zk ((za [] [.par 10, .loc 907] rfl rfl).trans (zd (.loc 907) (.res 0) rfl rfl rfl rfl)) ?_
    exact zb4 ⟨rfl, rfl, trivial⟩
theorem zkt {n : Int} (h0 : -9223372036854775808 ≤ n) (h1 : n ≤ 9223372036854775807) : IntKind.i64.wrap ((BitVec.ofInt IntKind.i64.bits (if IntKind.i64.signed then -1 else IntKind.i64.max)) ^^^ BitVec.ofInt IntKind.i64.bits n).toNat = -1 - n := by
  show IntKind.i64.wrap (((BitVec.ofInt 64 (-1)) ^^^ BitVec.ofInt 64 n).toNat : Int) = _
  have e2 : ((BitVec.ofInt 64 (-1)) ^^^ BitVec.ofInt 64 n).toNat = 18446744073709551615 - (n % 18446744073709551616).toNat := by
    rw [show BitVec.ofInt 64 (-1) = BitVec.allOnes 64 by decide, BitVec.allOnes_xor, BitVec.toNat_not, BitVec.toNat_ofInt]
    rfl
  rw [e2]
  simp only [IntKind.wrap, IntKind.signed, IntKind.bits]
  simp
  split <;> omega
theorem yX {n : Int} (h0 : 0 ≤ n) (h : n < 18446744073709551616) : IntKind.u64.wrap n = n := by
  simp only [IntKind.wrap, IntKind.bits, IntKind.signed, Bool.false_and, Bool.false_eq_true, if_false]
  omega
set_option maxHeartbeats 8000000 in
theorem zcP {V : ByteArray → Bool} : ∀ (x : Nd) (e : Int), x.validB V e = true → x.In → ∀ es : List T, es.length + x.cb.length ≤ 50000000 →
    Spec Tryz.prog 167 [.row (.par 0), .t x.toT] [(.par 0, .slt 5 1 es)] (.row (.res 0)) [(.res 0, .slt 5 1 (es ++ u8L x.cb))]
  | .mk k b n t ns is, e, hv, hin, es, hb => by
    rw [yz] at hv
    obtain ⟨h1, h2, h3, h4, h5, h6, h7, h8⟩ := hv
    cases hin with
    | mk i1 i2 i3 =>
    rw [Nd.toT_eq]
    have hk : k = 0 ∨ k = 1 ∨ k = 2 ∨ k = 3 ∨ (k = 4 ∨ k = 5) := by omega
    rcases hk with rfl | rfl | rfl | rfl | hk
    · have hH : Spec Tryz.prog 238 [.row (.par 0), .t (.int .i64 7), .t (.int .u64 22)] [(.par 0, .slt 5 1 es)] (.row (.res 0)) [(.res 0, .slt 5 1 (es ++ u8L (hdL 7 22)))] := y2 es (by omega) 7 (by omega) 22 (by omega)
      have ec : (Nd.mk 0 b n t ns is).cb = hdL 7 22 := by simp [Nd.cb]
      rw [ec]
      refine wIG Tryz.func167 ?_
      repeat' (first | refine wC ?_ | refine wK ?_ | ((with_reducible refine ze ?_); refine wN (.row (.loc 903)) [(.res 0, .loc 903)] hH ?_))
      refine zk ((za [4] [.loc 903] rfl rfl).trans (zd (.loc 903) (.res 0) rfl rfl rfl rfl)) ?_
      exact zE (zm (zt rfl (AVLE.of_eq rfl)) (zc ⟨rfl, trivial⟩))
    · have ec : (Nd.mk 1 b n t ns is).cb = hdL 7 (if b then 21 else 20) := by simp [Nd.cb]
      rw [ec]
      cases b with
      | true =>
        have hH : Spec Tryz.prog 238 [.row (.par 0), .t (.int .i64 7), .t (.int .u64 21)] [(.par 0, .slt 5 1 es)] (.row (.res 0)) [(.res 0, .slt 5 1 (es ++ u8L (hdL 7 21)))] := y2 es (by omega) 7 (by omega) 21 (by omega)
        refine wIG Tryz.func167 ?_
        repeat' (first | refine wC ?_ | refine wK ?_ | ((with_reducible refine ze ?_); refine wN (.row (.loc 903)) [(.res 0, .loc 903)] hH ?_))
        refine zk ((za [4] [.loc 903] rfl rfl).trans (zd (.loc 903) (.res 0) rfl rfl rfl rfl)) ?_
        exact zE (zm (zt rfl (AVLE.of_eq rfl)) (zc ⟨rfl, trivial⟩))
      | false =>
        have hH : Spec Tryz.prog 238 [.row (.par 0), .t (.int .i64 7), .t (.int .u64 20)] [(.par 0, .slt 5 1 es)] (.row (.res 0)) [(.res 0, .slt 5 1 (es ++ u8L (hdL 7 20)))] := y2 es (by omega) 7 (by omega) 20 (by omega)
        refine wIG Tryz.func167 ?_
        repeat' (first | refine wC ?_ | refine wK ?_ | ((with_reducible refine ze ?_); refine wN (.row (.loc 903)) [(.res 0, .loc 903)] hH ?_))
        refine zk ((za [4] [.loc 903] rfl rfl).trans (zd (.loc 903) (.res 0) rfl rfl rfl rfl)) ?_
        exact zE (zm (zt rfl (AVLE.of_eq rfl)) (zc ⟨rfl, trivial⟩))
    · have ec : (Nd.mk 2 b n t ns is).cb = if n < 0 then hdL 1 (-1 - n).toNat else hdL 0 n.toNat := by simp [Nd.cb]
      rw [ec]
      by_cases hn : n < 0
      · rw [if_pos hn]
        have hH : Spec Tryz.prog 238 [.row (.par 0), .t (.int .i64 1), .t (.int .u64 (IntKind.u64.wrap (IntKind.i64.wrap ((BitVec.ofInt IntKind.i64.bits (if IntKind.i64.signed then -1 else IntKind.i64.max)) ^^^ BitVec.ofInt IntKind.i64.bits n).toNat)))] [(.par 0, .slt 5 1 es)] (.row (.res 0)) [(.res 0, .slt 5 1 (es ++ u8L (hdL 1 (-1 - n).toNat)))] := by
          have := y2 es (by omega) 1 (by omega) (-1 - n).toNat (by omega)
          rw [zkt i1 i2]
          rw [show (((-1 - n).toNat : Nat) : Int) = IntKind.u64.wrap (-1 - n) by rw [yX (by omega) (by omega)]; omega] at this
          exact this
        refine wIG Tryz.func167 ?_
        repeat' (first | refine wC ?_ | refine wK ?_ | ((with_reducible refine ze ?_); refine wN (.row (.loc 903)) [(.res 0, .loc 903)] hH ?_) | refine zh rfl ?_ ?_ <;> intro hc)
        all_goals try (exfalso; omega)
        refine zk ((za [4] [.loc 903] rfl rfl).trans (zd (.loc 903) (.res 0) rfl rfl rfl rfl)) ?_
        exact zE (zm (zt rfl (AVLE.of_eq rfl)) (zc ⟨rfl, trivial⟩))
      · rw [if_neg hn]
        have hH : Spec Tryz.prog 238 [.row (.par 0), .t (.int .i64 0), .t (.int .u64 (IntKind.u64.wrap n))] [(.par 0, .slt 5 1 es)] (.row (.res 0)) [(.res 0, .slt 5 1 (es ++ u8L (hdL 0 n.toNat)))] := by
          have := y2 es (by omega) 0 (by omega) n.toNat (by omega)
          rw [show ((n.toNat : Nat) : Int) = IntKind.u64.wrap n by rw [yX (by omega) (by omega)]; omega] at this
          exact this
        refine wIG Tryz.func167 ?_
        repeat' (first | refine wC ?_ | refine wK ?_ | ((with_reducible refine ze ?_); refine wN (.row (.loc 903)) [(.res 0, .loc 903)] hH ?_) | refine zh rfl ?_ ?_ <;> intro hc)
        all_goals try (exfalso; omega)
        refine zk ((za [4] [.loc 903] rfl rfl).trans (zd (.loc 903) (.res 0) rfl rfl rfl rfl)) ?_
        exact zE (zm (zt rfl (AVLE.of_eq rfl)) (zc ⟨rfl, trivial⟩))
    · have ec : (Nd.mk 3 b n t ns is).cb = hdL 3 t.size ++ t.data.toList := by simp [Nd.cb]
      have ht : t.size ≤ 65536 := by
        simp only [yG, Bool.and_eq_true, decide_eq_true_eq] at h5; omega
      rw [ec] at hb ⊢
      have hd : t.data.toList.length = t.size := by rw [Array.length_toList]; rfl
      have hH : Spec Tryz.prog 238 [.row (.par 0), .t (.int .i64 3), .t (.int .u64 (IntKind.u64.wrap (t.size : Int)))] [(.par 0, .slt 5 1 es)] (.row (.res 0)) [(.res 0, .slt 5 1 (es ++ u8L (hdL 3 t.size)))] := by
        rw [yX (by omega) (by omega)]
        exact y2 es (by omega) 3 (by omega) t.size (by omega)
      rw [zz, ← List.append_assoc]
      refine wIG Tryz.func167 ?_
      repeat' (first | refine wC ?_ | refine wK ?_ | ((with_reducible refine zo ?_); refine zX rfl rfl rfl rfl rfl rfl rfl rfl rfl ?_ ?_ ?_) | ((with_reducible refine ze ?_); refine wN (.row (.loc 903)) [(.res 0, .loc 903)] hH ?_))
      · simp only [List.length_append, zK, yo, List.length_map] at hb ⊢; omega
      · simp only [List.length_append, zK, yo, List.length_map] at hb ⊢; omega
      refine zk ((za [4] [.loc 53] rfl rfl).trans (zd (.loc 53) (.res 0) rfl rfl rfl rfl)) ?_
      exact zE (zm (zt rfl (AVLE.of_eq rfl)) (zc ⟨rfl, trivial⟩))
    · have ec : (Nd.mk k b n t ns is).cb = hdL k.toNat is.length ++ qV k ns is is.length := by
        have e1 : is.take is.length = is := List.take_length
        rcases hk with rfl | rfl
        · simp [Nd.cb, qV]
        · have e2 : ns.take is.length = ns := by rw [← (h7 rfl).2]; exact List.take_length
          simp [Nd.cb, qV, e2]
      rw [ec] at hb ⊢
      rw [zz, ← List.append_assoc]
      rw [List.length_append] at hb
      have hl : k = 5 → ns.length = is.length := fun h => by have := (h7 h).2; omega
      refine zh4 k hk b n t ns is (by omega) hl (fun s hs => ?_) es (by omega) fun i hi es' hb' => ?_
      · by_cases h : k = 5
        · have := ((yZ (yG V) ns []).1 (h7 h).1).2 s hs
          have := this.2
          simp only [yG, Bool.and_eq_true, decide_eq_true_eq] at this; omega
        · have hz : ns.length = 0 := by
            simp only [Nd.fieldsOK, Bool.and_eq_true, Bool.or_eq_true, decide_eq_true_eq] at h4
            have := h4.2; omega
          rw [List.eq_nil_of_length_eq_zero hz] at hs; cases hs
      · have hm : is.getD i default ∈ is := by rw [List.getD_eq_getElem?_getD, List.getElem?_eq_getElem hi]; exact List.getElem_mem _
        exact zcP (is.getD i default) (e - 1) (h8 _ hm) (i3 _ hm) es' hb'
termination_by x => SizeOf.sizeOf x
decreasing_by
  have := List.sizeOf_lt_of_mem hm
  simp only [Nd.mk.sizeOf_spec]
  omega
end Go.AL
namespace Go.AL
open Go Go.RowKit
theorem j8 (f : Rs → Nd × Rs) : ∀ (xs : List Nd) (ns : List ByteArray) (acc : List Nd) (t : List UInt8), (∀ x ∈ xs, ∀ t : List UInt8, f ⟨ofL (x.cb ++ t), false⟩ = (x, ⟨ofL t, false⟩)) →
    zS f 4 xs.length ns acc ⟨ofL (Nd.cbs xs ++ t), false⟩ = (.mk 4 false 0 eS ns (acc ++ xs), ⟨ofL t, false⟩)
  | [], ns, acc, t, _ => by simp [zS, Nd.cbs]
  | x :: xs, ns, acc, t, h => by
    have h1 := h x (by simp) (Nd.cbs xs ++ t)
    have ih := j8 f xs ns (acc ++ [x]) t (fun y hy => h y (by simp [hy]))
    simp only [List.length_cons, zS, Bool.false_eq_true, if_false, Nd.cbs, List.append_assoc]
    rw [if_neg (by decide), h1]
    simp only
    rw [ih]; simp
theorem za7 (f : Rs → Nd × Rs) : ∀ (ss : List ByteArray) (xs : List Nd) (ns : List ByteArray) (acc : List Nd) (t : List UInt8), ss.length = xs.length → (∀ s ∈ ss, s.size ≤ 65536) → (∀ x ∈ xs, ∀ t : List UInt8, f ⟨ofL (x.cb ++ t), false⟩ = (x, ⟨ofL t, false⟩)) →
    zS f 5 xs.length ns acc ⟨ofL (Nd.cbm ss xs ++ t), false⟩ = (.mk 5 false 0 eS (ns ++ ss) (acc ++ xs), ⟨ofL t, false⟩)
  | [], [], ns, acc, t, _, _, _ => by simp [zS, Nd.cbm]
  | s :: ss, x :: xs, ns, acc, t, hl, hs, h => by
    have h1 := h x (by simp) (Nd.cbm ss xs ++ t)
    have h2 := zhK s (x.cb ++ (Nd.cbm ss xs ++ t)) (by have := hs s (by simp); omega)
    have ih := za7 f ss xs (ns ++ [s]) (acc ++ [x]) t (by simpa using hl) (fun y hy => hs y (by simp [hy])) (fun y hy => h y (by simp [hy]))
    simp only [List.length_cons, zS, Bool.false_eq_true, if_false, Nd.cbm, List.append_assoc] at h2 ⊢
    rw [if_pos trivial, h2]
    simp only
    rw [h1]
    simp only
    rw [ih]; simp
  | [], _ :: _, _, _, _, hl, _, _ => by simp at hl
  | _ :: _, [], _, _, _, hl, _, _ => by simp at hl
theorem qh {n : Int} (h0 : -9223372036854775808 ≤ n) (h1 : n ≤ 9223372036854775807) : i64 n = n := zy h0 h1
theorem y9 {d : Nat} {r q : Rs} {m n : Int} (h : zU r = ((m, n), q)) : yQ (d + 1) r =
    if m = 0 then (.mk 2 false (i64 n) eS [] [], q)
    else if m = 1 then (.mk 2 false (-1 - i64 n) eS [] [], q)
    else if m = 3 then (.mk 3 false 0 (y7 q n).1 [] [], (y7 q n).2)
    else if m = 4 then zS (yQ d) 4 (q.fits n).1.toNat [] [] (q.fits n).2
    else if m = 5 then zS (yQ d) 5 (q.fits n).1.toNat [] [] (q.fits n).2
    else if m = 7 ∧ (n = 21 ∨ n = 20) then (.mk 1 (decide (n = 21)) 0 eS [] [], q)
    else (Nd.zero, q) := by simp only [yQ, h]
theorem zaO {V : ByteArray → Bool} : ∀ (x : Nd) (d : Nat), x.validB V d = true → x.In → ∀ t : List UInt8, yQ d ⟨ofL (x.cb ++ t), false⟩ = (x, ⟨ofL t, false⟩)
  | .mk k b n tx ns is, 0, hv, _, t => by
    rw [yz] at hv
    have := hv.1
    simp at this
  | .mk k b n tx ns is, d + 1, hv, hin, t => by
    rw [yz] at hv
    obtain ⟨_, h2, h3, h4, h5, h6, h7, h8⟩ := hv
    cases hin with
    | mk i1 i2 i3 =>
    simp only [Nd.fieldsOK, Bool.and_eq_true, Bool.or_eq_true, decide_eq_true_eq, Bool.not_eq_true'] at h4
    obtain ⟨⟨⟨⟨f1, f2⟩, f3⟩, f4⟩, f5⟩ := h4
    have hk : k = 0 ∨ k = 1 ∨ k = 2 ∨ k = 3 ∨ k = 4 ∨ k = 5 := by omega
    have hi : ∀ y ∈ is, ∀ t : List UInt8, yQ d ⟨ofL (y.cb ++ t), false⟩ = (y, ⟨ofL t, false⟩) := fun y hy t =>
      zaO y d (by have := h8 y hy; rwa [show ((d + 1 : Nat) : Int) - 1 = d by omega] at this) (i3 y hy) t
    have e0 : k ≠ 1 → b = false := fun h => f1.resolve_left h
    have e1 : k ≠ 2 → n = 0 := fun h => f2.resolve_left h
    have e2 : k ≠ 3 → tx = eS := fun h => f3.resolve_left h
    have e3 : k ≠ 4 → k ≠ 5 → is = [] := fun h h' => List.eq_nil_of_length_eq_zero (by rcases f4 with (h'' | h'') | h'' <;> first | (exact absurd h'' h) | (exact absurd h'' h') | omega)
    have e4 : k ≠ 5 → ns = [] := fun h => List.eq_nil_of_length_eq_zero (by rcases f5 with h' | h'; exact absurd h' h; omega)
    rcases hk with rfl | rfl | rfl | rfl | rfl | rfl
    · rw [e0 (by decide), e1 (by decide), e2 (by decide), e3 (by decide) (by decide), e4 (by decide)]
      rw [show (Nd.mk 0 false 0 eS [] []).cb = hdL 7 22 by simp [Nd.cb], y9 (xD 7 22 t (by omega) (by omega))]
      simp [Nd.zero, eS]
    · rw [e1 (by decide), e2 (by decide), e3 (by decide) (by decide), e4 (by decide)]
      cases b with
      | true =>
        rw [show (Nd.mk 1 true 0 eS [] []).cb = hdL 7 21 by simp [Nd.cb], y9 (xD 7 21 t (by omega) (by omega))]
        simp
      | false =>
        rw [show (Nd.mk 1 false 0 eS [] []).cb = hdL 7 20 by simp [Nd.cb], y9 (xD 7 20 t (by omega) (by omega))]
        simp
    · rw [e0 (by decide), e2 (by decide), e3 (by decide) (by decide), e4 (by decide)]
      by_cases hn : n < 0
      · rw [show (Nd.mk 2 false n eS [] []).cb = hdL 1 (-1 - n).toNat by simp [Nd.cb, hn], y9 (xD 1 (-1 - n).toNat t (by omega) (by omega))]
        rw [if_neg (by decide), if_pos (by decide), show (((-1 - n).toNat : Nat) : Int) = -1 - n by omega, qh (by omega) (by omega), show -1 - (-1 - n) = n by omega]
      · rw [show (Nd.mk 2 false n eS [] []).cb = hdL 0 n.toNat by simp [Nd.cb, hn], y9 (xD 0 n.toNat t (by omega) (by omega))]
        rw [if_pos (by decide), show ((n.toNat : Nat) : Int) = n by omega, qh (by omega) (by omega)]
    · rw [e0 (by decide), e1 (by decide), e3 (by decide) (by decide), e4 (by decide)]
      have ht : tx.size ≤ 65536 := by simp only [yG, Bool.and_eq_true, decide_eq_true_eq] at h5; omega
      have htx := zeF tx.data.toList t
      rw [show tx.data.toList.length = tx.size by rw [Array.length_toList]; rfl, zaK] at htx
      rw [show (Nd.mk 3 false 0 tx [] []).cb = hdL 3 tx.size ++ tx.data.toList by simp [Nd.cb], List.append_assoc, y9 (xD 3 tx.size (tx.data.toList ++ t) (by omega) (by omega))]
      rw [if_neg (by decide), if_neg (by decide), if_pos (by decide), htx]
    · rw [e0 (by decide), e1 (by decide), e2 (by decide), e4 (by decide)]
      have hfit : (Rs.mk (ofL (Nd.cbs is ++ t)) false).fits is.length = ((is.length : Int), ⟨ofL (Nd.cbs is ++ t), false⟩) := by
        unfold Rs.fits
        rw [if_neg]
        have := zhD is
        rw [yA, List.length_append]; omega
      rw [show (Nd.mk 4 false 0 eS [] is).cb = hdL 4 is.length ++ Nd.cbs is by simp [Nd.cb], List.append_assoc, y9 (xD 4 is.length (Nd.cbs is ++ t) (by omega) (by omega))]
      rw [if_neg (by decide), if_neg (by decide), if_neg (by decide), if_pos (by decide), hfit]
      simp only [Int.toNat_natCast]
      rw [j8 (yQ d) is [] [] t hi]
      simp
    · rw [e0 (by decide), e1 (by decide), e2 (by decide)]
      have hl := (h7 rfl).2
      have hs : ∀ s ∈ ns, s.size ≤ 65536 := fun s hs => by
        have := (((yZ (yG V) ns []).1 (h7 rfl).1).2 s hs).2
        simp only [yG, Bool.and_eq_true, decide_eq_true_eq] at this; omega
      have hfit : (Rs.mk (ofL (Nd.cbm ns is ++ t)) false).fits is.length = ((is.length : Int), ⟨ofL (Nd.cbm ns is ++ t), false⟩) := by
        unfold Rs.fits
        rw [if_neg]
        have := zgo ns is hl
        rw [yA, List.length_append]; omega
      rw [show (Nd.mk 5 false 0 eS ns is).cb = hdL 5 is.length ++ Nd.cbm ns is by simp [Nd.cb], List.append_assoc, y9 (xD 5 is.length (Nd.cbm ns is ++ t) (by omega) (by omega))]
      rw [if_neg (by decide), if_neg (by decide), if_neg (by decide), if_neg (by decide), if_pos (by decide), hfit]
      simp only [Int.toNat_natCast]
      rw [za7 (yQ d) ns is [] [] t hl hs hi]
      simp
termination_by x => SizeOf.sizeOf x
decreasing_by
  have := List.sizeOf_lt_of_mem hy
  simp only [Nd.mk.sizeOf_spec]
  omega
theorem vW {m n : Nat} : (hdL m n).length ≤ 9 := by
  unfold hdL; repeat' split
  all_goals simp [zP]
theorem zhX {m n : Nat} (h : n < 65536) : (hdL m n).length ≤ 3 := by
  unfold hdL; repeat' split
  all_goals first | (simp [zP]; done) | omega
theorem zbD {m n : Nat} (h : n < 24) : (hdL m n).length = 1 := by
  unfold hdL; rw [if_pos h]; rfl
theorem yq (s : ByteArray) : s.data.toList.length = s.size := by rw [Array.length_toList]; rfl
theorem zdz : Nd.zero.cb.length = 1 := by simp [Nd.zero, Nd.cb, hdL]
theorem ziS {B : Nat} : ∀ {l : List Nd}, (∀ x ∈ l, x.cb.length ≤ B) → (Nd.cbs l).length ≤ l.length * B
  | [], _ => by simp [Nd.cbs]
  | x :: l, h => by
    have h1 := h x (by simp)
    have h2 := ziS (l := l) (fun y hy => h y (by simp [hy]))
    simp only [Nd.cbs, List.length_append, List.length_cons, Nat.add_mul]; omega
theorem ziB {C : Nat} : ∀ {ns : List ByteArray} {l : List Nd}, (∀ s ∈ ns, s.size ≤ C) → C < 65536 → (Nd.cbm ns l).length ≤ (Nd.cbs l).length + l.length * (C + 3)
  | [], l, _, _ => by cases l <;> simp [Nd.cbm]
  | s :: ns, [], _, _ => by simp [Nd.cbm, Nd.cbs]
  | s :: ns, x :: l, h, hC => by
    have h1 := h s (by simp)
    have h2 := ziB (ns := ns) (l := l) (fun y hy => h y (by simp [hy])) hC
    have h3 := zhX (m := 3) (n := s.size) (by omega)
    simp only [Nd.cbm, Nd.cbs, List.length_append, List.length_cons, yq, Nat.add_mul]; omega
theorem vZ : ∀ (f : Nat) (l : List Nd) (d : Dc), l.length ≤ 17 → ∃ m, (x7 f l d).1 = l ++ List.replicate m Nd.zero ∧ l.length + m ≤ 17
  | 0, l, d, h => ⟨0, by simp [x7], by omega⟩
  | f + 1, l, d, h => by
    have := d.next_lt 3 (by omega)
    simp only [x7]; split
    · obtain ⟨m, h1, h2⟩ := vZ f (l ++ [Nd.zero]) (d.next 3).2 (by simp; omega)
      refine ⟨m + 1, ?_, by simp at h2; omega⟩
      rw [h1, List.append_assoc]; rfl
    · exact ⟨0, by simp, by omega⟩
theorem zc8 : ∀ m, (Nd.cbs (List.replicate m Nd.zero)).length = m
  | 0 => rfl
  | m + 1 => by simp only [List.replicate_succ, Nd.cbs, List.length_append, zdz, zc8 m]; omega
theorem zgr : ∀ (a b : List Nd), Nd.cbs (a ++ b) = Nd.cbs a ++ Nd.cbs b
  | [], b => rfl
  | x :: a, b => by simp [Nd.cbs, zgr a b]
theorem zb1 : Nd.zero.In := .mk (by decide) (by decide) (by simp)
theorem jC (c i : Nat) (d : Dc) : ∀ s ∈ (zH c i d).1, s.size ≤ 3 := by
  intro s hs
  obtain ⟨w, hw, j, _, _, rfl⟩ := vA c i d s hs
  have := (xE w hw).2
  rw [ByteArray.size_append]
  have : (zdr j).size = 2 := rfl
  omega
theorem zjQ (k : Int) (hk : k = 4 ∨ k = 5) (f : Dc → Nd × Dc) (B : Nat) (hB : 1 ≤ B) (hf : ∀ d, (f d).1.cb.length ≤ B ∧ (f d).1.In) (d : Dc) : (zda k f d).1.cb.length ≤ 3 * B + 150 ∧ (zda k f d).1.In := by
  have hq := d.next_lt 4 (by omega)
  have hl := vB f (d.next 4).1.toNat (d.next 4).2
  have ha := vx f (fun x => x.cb.length ≤ B ∧ x.In) hf (d.next 4).1.toNat (d.next 4).2
  unfold zda
  simp only
  generalize yI f (d.next 4).1.toNat (d.next 4).2 = is at hl ha ⊢
  have hg : ∃ g : List Nd × Dc, (if (is.2.next 20).1 = 1 then x7 20 is.1 (is.2.next 20).2 else (is.1, (is.2.next 20).2)) = g ∧ g.1.length ≤ 17 ∧ (Nd.cbs g.1).length ≤ 3 * B + 17 ∧ ∀ x ∈ g.1, x.In := by
    have hb := ziS (B := B) (l := is.1) (fun x hx => (ha x hx).1)
    have hb3 : is.1.length * B ≤ 3 * B := Nat.mul_le_mul_right _ (by omega)
    refine ⟨_, rfl, ?_⟩
    split
    · obtain ⟨m, h1, h2⟩ := vZ 20 is.1 (is.2.next 20).2 (by omega)
      rw [h1]
      refine ⟨by simp; omega, ?_, fun x hx => ?_⟩
      · rw [zgr, List.length_append, zc8]; omega
      · rcases List.mem_append.1 hx with h | h
        · exact (ha x h).2
        · rw [List.eq_of_mem_replicate h]; exact zb1
    · exact ⟨by simp only; omega, by simp only; omega, fun x hx => (ha x hx).2⟩
  obtain ⟨g, e1, e2, e3, e4⟩ := hg
  rw [e1]
  refine ⟨?_, .mk (by decide) (by decide) e4⟩
  have h1 := zbD (m := 4) (n := g.1.length) (by omega)
  have h2 := zbD (m := 5) (n := g.1.length) (by omega)
  rcases hk with rfl | rfl
  · rw [show (Nd.mk 4 false 0 eS (if (4 : Int) = 5 then zH g.1.length 0 g.2 else ([], g.2)).1 g.1).cb = hdL 4 g.1.length ++ Nd.cbs g.1 by simp [Nd.cb]]
    rw [List.length_append, h1]; omega
  · have h3 := ziB (C := 3) (ns := (zH g.1.length 0 g.2).1) (l := g.1) (jC _ _ _) (by omega)
    rw [show (Nd.mk 5 false 0 eS (if (5 : Int) = 5 then zH g.1.length 0 g.2 else ([], g.2)).1 g.1).cb = hdL 5 g.1.length ++ Nd.cbm (zH g.1.length 0 g.2).1 g.1 by simp [Nd.cb]]
    rw [List.length_append, h2]; omega
theorem zbe (d : Dc) : (wM d).1.size ≤ 256 := (zev (V := fun _ => true) ⟨fun _ _ => rfl, fun _ _ => rfl, rfl⟩ d).2
theorem zep (j : Nat) : 0 ≤ wd.getD j 0 ∧ wd.getD j 0 ≤ 9223372036854775807 := by
  match j with
  | 0 | 1 | 2 | 3 | 4 | 5 | 6 | 7 | 8 | 9 | 10 | 11 => simp [wd]
  | j + 12 => simp [wd]
theorem zj3 (n : Int) : (Nd.mk 2 false n eS [] []).cb.length ≤ 9 := by
  by_cases h : n < 0
  · rw [show (Nd.mk 2 false n eS [] []).cb = hdL 1 (-1 - n).toNat by simp [Nd.cb, h]]; exact vW
  · rw [show (Nd.mk 2 false n eS [] []).cb = hdL 0 n.toNat by simp [Nd.cb, h]]; exact vW
theorem zbJ (rec : Option (Dc → Nd × Dc)) (B : Nat) (hB : 1 ≤ B) (hf : ∀ f, rec = some f → ∀ d, (f d).1.cb.length ≤ B ∧ (f d).1.In) (d : Dc) : (vU rec d).1.cb.length ≤ 3 * B + 300 ∧ (vU rec d).1.In := by
  unfold vU
  simp only
  split
  · refine ⟨?_, .mk (by decide) (by decide) (by simp)⟩
    simp only [Nd.cb]
    have h1 := vW (m := 7) (n := if (decide (((d.next 6).2.next 2).1 = 1)) = true then 21 else 20)
    simp only [show ((1 : Int) = 0) = False from by simp, if_false, if_true]
    omega
  · split
    · have h := zep ((d.next 6).2.next 12).1.toNat
      refine ⟨?_, .mk ?_ ?_ (by simp)⟩
      · have := zj3 (if (((d.next 6).2.next 12).2.next 2).1 = 1 then -1 - wd.getD ((d.next 6).2.next 12).1.toNat 0 else wd.getD ((d.next 6).2.next 12).1.toNat 0)
        exact Nat.le_trans this (by omega)
      · split <;> omega
      · split <;> omega
    · split
      · have h := zbe (d.next 6).2
        refine ⟨?_, .mk (by decide) (by decide) (by simp)⟩
        rw [show (Nd.mk 3 false 0 (wM (d.next 6).2).1 [] []).cb = hdL 3 (wM (d.next 6).2).1.size ++ (wM (d.next 6).2).1.data.toList by simp [Nd.cb]]
        rw [List.length_append, yq]
        have := vW (m := 3) (n := (wM (d.next 6).2).1.size)
        omega
      · split
        · rename_i hk
          split
          · refine ⟨?_, .mk (by decide) (by decide) (by simp)⟩
            have h1 := vW (m := 4) (n := 0)
            have h2 := vW (m := 5) (n := 0)
            rcases hk with h | h <;> rw [h] <;> simp [Nd.cb, Nd.cbs, Nd.cbm] <;> omega
          · rename_i f
            have := zjQ _ hk f B hB (hf f rfl) (d.next 6).2
            exact ⟨by omega, this.2⟩
        · exact ⟨by rw [zdz]; omega, zb1⟩
def kB : Nat → Nat
  | 0 => 303
  | 1 => 303
  | n + 2 => 3 * kB (n + 1) + 300
theorem zkp : ∀ n, 1 ≤ kB n
  | 0 => by decide
  | 1 => by decide
  | n + 2 => by simp only [kB]; omega
theorem zeu : ∀ (n : Nat) (d : Dc), (kS n d).1.cb.length ≤ kB n ∧ (kS n d).1.In
  | 0, d => zbJ none 1 (by omega) (by simp) d
  | 1, d => zbJ none 1 (by omega) (by simp) d
  | n + 2, d => zbJ _ (kB (n + 1)) (zkp _) (by
      rintro f h
      cases h
      exact fun d => zeu (n + 1) d) d
theorem xh {r : Rs} {n : Int} (h : (r.take n).2.bad = false) : r.bad = false ∧ 0 ≤ n ∧ n ≤ r.s.size ∧ (r.take n).1.size = n.toNat ∧ (r.take n).2.s.size + n.toNat = r.s.size := by
  unfold Rs.take at h ⊢
  split at h
  · simp at h
  · rename_i hn
    rw [if_neg hn]
    simp only [not_or, Bool.not_eq_true, Int.not_lt] at hn
    refine ⟨hn.1, hn.2.1, hn.2.2, ?_, ?_⟩
    · simp only [ByteArray.size_extract]; omega
    · simp only [ByteArray.size_extract]; omega
theorem yU {r : Rs} (h : r.byte.2.bad = false) : r.bad = false ∧ r.byte.2.s.size + 1 = r.s.size := by
  have := xh (r := r) (n := 1) h
  exact ⟨this.1, this.2.2.2.2⟩
theorem zgh (s : ByteArray) (i : Int) : 0 ≤ bAt s i ∧ bAt s i < 256 := by
  unfold bAt
  have := (s.data.toList.getD i.toNat 0).toNat_lt
  omega
theorem y4 (r : Rs) : 0 ≤ r.byte.1 ∧ r.byte.1 < 256 := by
  unfold Rs.byte
  simp only
  split
  · omega
  · exact zgh _ _
theorem zaD : ∀ (l : List UInt8) (k : Nat) (acc : Int), 0 ≤ acc → acc < (256 : Int) ^ k → k + l.length ≤ 8 → 0 ≤ l.foldl xN acc ∧ l.foldl xN acc < (256 : Int) ^ (k + l.length)
  | [], k, acc, h0, h1, _ => by simpa using ⟨h0, h1⟩
  | b :: l, k, acc, h0, h1, hk => by
    have hb := b.toNat_lt
    have hp : (256 : Int) ^ (k + 1) = 256 ^ k * 256 := by rw [Int.pow_succ]
    have h8 : (256 : Int) ^ (k + 1) ≤ 18446744073709551616 := by
      have hk1 : k + 1 ≤ 8 := by simp at hk; omega
      have h1 : (256 : Nat) ^ (k + 1) ≤ 256 ^ 8 := Nat.pow_le_pow_right (by decide) hk1
      have h2 : (256 : Nat) ^ 8 = 18446744073709551616 := by decide +kernel
      have h3 : (256 : Int) ^ (k + 1) = ((256 ^ (k + 1) : Nat) : Int) := by simp
      rw [h3]; omega
    have hs : xN acc b = acc * 256 + b.toNat := by
      unfold xN
      rw [Int.emod_eq_of_lt (by omega) (by omega)]
    have := zaD l (k + 1) (xN acc b) (by rw [hs]; omega) (by rw [hs, hp]; omega) (by simp at hk; omega)
    rw [List.foldl_cons, List.length_cons, show k + (l.length + 1) = k + 1 + l.length by omega]
    exact this
theorem ww {r : Rs} {i : Nat} (hi : i ≤ 3) (h : (r.uint (2 ^ i)).2.bad = false) : r.bad = false ∧ (r.uint (2 ^ i)).2.s.size + 2 ^ i = r.s.size ∧ 0 ≤ (r.uint (2 ^ i)).1 ∧ (r.uint (2 ^ i)).1 < (256 : Int) ^ (2 ^ i) := by
  have e : ((2 : Int) ^ i).toNat = 2 ^ i := by
    match i, hi with
    | 0, _ | 1, _ | 2, _ | 3, _ => decide
  obtain ⟨h1, h2, h3, h4, h5⟩ := xh (r := r) (n := 2 ^ i) h
  rw [e] at h4 h5
  have h8 : 2 ^ i ≤ 8 := by
    match i, hi with
    | 0, _ | 1, _ | 2, _ | 3, _ => decide
  have := zaD (r.take (2 ^ i)).1.data.toList 0 0 (by omega) (by decide) (by rw [yq, h4]; omega)
  rw [yq, h4, Nat.zero_add] at this
  exact ⟨h1, h5, this.1, this.2⟩
theorem zee {m n i : Nat} (hi : i ≤ 3) (h : n < 256 ^ (2 ^ i)) : (hdL m n).length ≤ 1 + 2 ^ i := by
  unfold hdL
  match i, hi with
  | 0, _ => simp at h; repeat' split
            all_goals first | (simp [zP]; done) | omega
  | 1, _ => simp at h; repeat' split
            all_goals first | (simp [zP]; done) | omega
  | 2, _ => simp at h; repeat' split
            all_goals first | (simp [zP]; done) | omega
  | 3, _ => repeat' split
            all_goals (simp [zP])
theorem qM {r : Rs} (h : (zU r).2.bad = false) : r.bad = false ∧ 0 ≤ (zU r).1.1 ∧ (zU r).1.1 < 8 ∧ 0 ≤ (zU r).1.2 ∧ (zU r).1.2 < 18446744073709551616 ∧ (zU r).2.s.size < r.s.size ∧
    ∀ m n' : Nat, ((n' : Int) ≤ (zU r).1.2 ∨ 4294967296 ≤ (zU r).1.2) → (hdL m n').length + (zU r).2.s.size ≤ r.s.size := by
  have hb := y4 r
  unfold zU at h ⊢
  split at h
  · rename_i hc
    rw [if_pos hc]
    obtain ⟨h1, h2⟩ := yU h
    refine ⟨h1, by simp only; omega, by simp only; omega, by simp only; omega, by simp only; omega, by simp only; omega, fun m n' hn => ?_⟩
    simp only at hn ⊢
    rw [zbD (by omega)]; omega
  · split at h
    · simp at h
    · rename_i hc1 hc2
      rw [if_neg hc1, if_neg hc2]
      obtain ⟨i, hi, hi3⟩ : ∃ i : Nat, (r.byte.1 % 32 - 24).toNat = i ∧ i ≤ 3 := ⟨_, rfl, by omega⟩
      rw [hi] at h ⊢
      obtain ⟨h1, h2, h3, h4⟩ := ww hi3 h
      obtain ⟨h5, h6⟩ := yU h1
      have hp : 1 ≤ 2 ^ i := Nat.one_le_two_pow
      have h256 : (256 : Int) ^ (2 ^ i) ≤ 18446744073709551616 := by
        match i, hi3 with
        | 0, _ | 1, _ | 2, _ | 3, _ => decide +kernel
      refine ⟨h5, by simp only; omega, by simp only; omega, h3, by simp only; omega, by simp only; omega, fun m n' hn => ?_⟩
      simp only at hn ⊢
      have : (hdL m n').length ≤ 1 + 2 ^ i := by
        rcases hn with hn | hn
        · refine zee hi3 ?_
          have : ((n' : Nat) : Int) < ((256 ^ (2 ^ i) : Nat) : Int) := by
            rw [show ((256 ^ (2 ^ i) : Nat) : Int) = (256 : Int) ^ (2 ^ i) by simp]; omega
          omega
        · have : i = 3 := by
            clear h h2 h1 h3 hi
            generalize (r.byte.2.uint (2 ^ i)).1 = v at hn h4
            clear hc1 hc2 h5 h6
            match i, hi3 with
            | 3, _ => rfl
            | 0, _ => simp at h4; omega
            | 1, _ => simp at h4; omega
            | 2, _ => simp at h4; omega
          subst this
          exact vW
      omega
theorem wc {r : Rs} {n : Int} (h : (r.fits n).2.bad = false) : (r.fits n).2 = r ∧ (r.fits n).1 = n ∧ n ≤ r.s.size ∧ r.bad = false := by
  unfold Rs.fits at h ⊢
  split at h
  · simp at h
  · rename_i hc
    rw [if_neg hc]
    exact ⟨rfl, rfl, by omega, h⟩
theorem zaM {r : Rs} {n : Int} (h0 : 0 ≤ n) (h : (y7 r n).2.bad = false) : r.bad = false ∧ n = (y7 r n).1.size ∧ (y7 r n).1.size + (y7 r n).2.s.size = r.s.size := by
  unfold y7 at h ⊢
  obtain ⟨h1, h2, h3, h4, h5⟩ := xh h
  obtain ⟨e1, e2, e3, e4⟩ := wc h1
  rw [e1, e2] at h4 h5 ⊢
  exact ⟨e4, by omega, by omega⟩
theorem zfb {r : Rs} (h : (xV r).2.bad = false) : r.bad = false ∧ (hdL 3 (xV r).1.size).length + (xV r).1.size + (xV r).2.s.size ≤ r.s.size := by
  unfold xV at h ⊢
  have hh : (y7 (if (zU r).1.1 = 3 then (zU r).2 else ⟨(zU r).2.s, true⟩) (zU r).1.2).2.bad = false := h
  by_cases hn : 0 ≤ (zU r).1.2
  · obtain ⟨h1, h2, h3⟩ := zaM hn hh
    split at h1
    · rename_i hm
      rw [if_pos hm] at h2 h3 ⊢
      obtain ⟨g1, g2, g3, g4, g5, g6, g7⟩ := qM h1
      have := g7 3 (y7 (zU r).2 (zU r).1.2).1.size (.inl (by omega))
      exact ⟨g1, by omega⟩
    · simp at h1
  · exfalso
    unfold y7 at hh
    obtain ⟨h1, _⟩ := xh hh
    obtain ⟨e1, e2, e3, e4⟩ := wc h1
    split at e4
    · obtain ⟨g1, g2, g3, g4, g5, g6, g7⟩ := qM e4
      omega
    · simp at e4
theorem kq (f : Rs → Nd × Rs) (hf : ∀ r, (f r).2.bad = false → r.bad = false ∧ (f r).1.cb.length + (f r).2.s.size ≤ r.s.size ∧ (f r).1.In) : ∀ (c : Nat) (ns : List ByteArray) (is : List Nd) (r : Rs), (zS f 4 c ns is r).2.bad = false →
    r.bad = false ∧ ∃ xs : List Nd, xs.length = c ∧ (zS f 4 c ns is r).1 = .mk 4 false 0 eS ns (is ++ xs) ∧ (Nd.cbs xs).length + (zS f 4 c ns is r).2.s.size ≤ r.s.size ∧ ∀ x ∈ xs, x.In
  | 0, ns, is, r, h => ⟨h, [], rfl, by simp [zS], by simp [zS, Nd.cbs], by simp⟩
  | c + 1, ns, is, r, h => by
    simp only [zS] at h ⊢
    by_cases hb : r.bad = true
    · rw [if_pos hb] at h; rw [hb] at h; simp at h
    · rw [if_neg hb, if_neg (by decide)] at h ⊢
      obtain ⟨h1, xs, h2, h3, h4, h5⟩ := kq f hf c ns (is ++ [(f r).1]) (f r).2 h
      obtain ⟨g1, g2, g3⟩ := hf r h1
      refine ⟨g1, (f r).1 :: xs, by simp [h2], by rw [h3]; simp, ?_, ?_⟩
      · simp only [Nd.cbs, List.length_append]; omega
      · intro x hx
        rcases List.mem_cons.1 hx with rfl | hx
        · exact g3
        · exact h5 x hx
theorem kl (f : Rs → Nd × Rs) (hf : ∀ r, (f r).2.bad = false → r.bad = false ∧ (f r).1.cb.length + (f r).2.s.size ≤ r.s.size ∧ (f r).1.In) : ∀ (c : Nat) (ns : List ByteArray) (is : List Nd) (r : Rs), (zS f 5 c ns is r).2.bad = false →
    r.bad = false ∧ ∃ (ss : List ByteArray) (xs : List Nd), ss.length = c ∧ xs.length = c ∧ (zS f 5 c ns is r).1 = .mk 5 false 0 eS (ns ++ ss) (is ++ xs) ∧ (Nd.cbm ss xs).length + (zS f 5 c ns is r).2.s.size ≤ r.s.size ∧ ∀ x ∈ xs, x.In
  | 0, ns, is, r, h => ⟨h, [], [], rfl, rfl, by simp [zS], by simp [zS, Nd.cbm], by simp⟩
  | c + 1, ns, is, r, h => by
    simp only [zS] at h ⊢
    by_cases hb : r.bad = true
    · rw [if_pos hb] at h; rw [hb] at h; simp at h
    · rw [if_neg hb, if_pos trivial] at h ⊢
      obtain ⟨h1, ss, xs, h2, h2', h3, h4, h5⟩ := kl f hf c (ns ++ [(xV r).1]) (is ++ [(f (xV r).2).1]) (f (xV r).2).2 h
      obtain ⟨g1, g2, g3⟩ := hf _ h1
      obtain ⟨q1, q2⟩ := zfb g1
      refine ⟨q1, (xV r).1 :: ss, (f (xV r).2).1 :: xs, by simp [h2], by simp [h2'], by rw [h3]; simp, ?_, ?_⟩
      · simp only [Nd.cbm, List.length_append, yq]; omega
      · intro x hx
        rcases List.mem_cons.1 hx with rfl | hx
        · exact g3
        · exact h5 x hx
theorem qi (n : Int) : -9223372036854775808 ≤ i64 n ∧ i64 n ≤ 9223372036854775807 := by
  unfold i64
  simp only [IntKind.wrap, IntKind.signed, IntKind.bits]
  simp
  split <;> omega
theorem zg9 {n : Int} (h0 : 0 ≤ n) (h1 : n < 18446744073709551616) : i64 n = n ∨ (i64 n = n - 18446744073709551616 ∧ 9223372036854775808 ≤ n) := by
  unfold i64
  simp only [IntKind.wrap, IntKind.signed, IntKind.bits]
  simp
  split <;> omega
theorem zcQ (n : Int) : (Nd.mk 2 false n eS [] []).cb = if n < 0 then hdL 1 (-1 - n).toNat else hdL 0 n.toNat := by simp [Nd.cb]
theorem qK : ∀ (d : Nat) (r : Rs), (yQ d r).2.bad = false → r.bad = false ∧ (yQ d r).1.cb.length + (yQ d r).2.s.size ≤ r.s.size ∧ (yQ d r).1.In
  | 0, r, h => by simp [yQ] at h
  | d + 1, r, h => by
    obtain ⟨m, n, q, hh⟩ : ∃ m n q, zU r = ((m, n), q) := ⟨_, _, _, rfl⟩
    rw [y9 hh] at h ⊢
    have key : q.bad = false → r.bad = false ∧ 0 ≤ m ∧ m < 8 ∧ 0 ≤ n ∧ n < 18446744073709551616 ∧ q.s.size < r.s.size ∧ ∀ m' n' : Nat, ((n' : Int) ≤ n ∨ 4294967296 ≤ n) → (hdL m' n').length + q.s.size ≤ r.s.size := fun hq => by
      have := qM (r := r) (by rw [hh]; exact hq)
      rw [hh] at this
      exact this
    have ir := qi n
    split at h
    · rename_i e; rw [if_pos e]
      obtain ⟨g1, g2, g3, g4, g5, g6, g7⟩ := key h
      refine ⟨g1, ?_, .mk ir.1 ir.2 (by simp)⟩
      simp only
      rw [zcQ]
      rcases zg9 g4 g5 with e | ⟨e, e'⟩
      · rw [e, if_neg (by omega)]; exact g7 0 n.toNat (.inl (by omega))
      · split
        · exact g7 1 _ (.inr (by omega))
        · exact g7 0 _ (.inr (by omega))
    · rename_i c0
      rw [if_neg c0]
      split at h
      · rename_i e; rw [if_pos e]
        obtain ⟨g1, g2, g3, g4, g5, g6, g7⟩ := key h
        refine ⟨g1, ?_, .mk (by omega) (by omega) (by simp)⟩
        simp only
        rw [zcQ]
        rcases zg9 g4 g5 with e | ⟨e, e'⟩
        · rw [e, if_pos (by omega)]; exact g7 1 _ (.inl (by omega))
        · split
          · exact g7 1 _ (.inr (by omega))
          · exact g7 0 _ (.inr (by omega))
      · rename_i c1
        rw [if_neg c1]
        split at h
        · rename_i e; rw [if_pos e]
          have hn : 0 ≤ n := by
            unfold y7 at h
            obtain ⟨h1, _⟩ := xh h
            exact (key (wc h1).2.2.2).2.2.2.1
          obtain ⟨t1, t2, t3⟩ := zaM hn h
          obtain ⟨g1, g2, g3, g4, g5, g6, g7⟩ := key t1
          refine ⟨g1, ?_, .mk (by simp) (by simp) (by simp)⟩
          simp only
          rw [show (Nd.mk 3 false 0 (y7 q n).1 [] []).cb = hdL 3 (y7 q n).1.size ++ (y7 q n).1.data.toList by simp [Nd.cb], List.length_append, yq]
          have := g7 3 (y7 q n).1.size (.inl (by omega))
          omega
        · rename_i c3
          rw [if_neg c3]
          split at h
          · rename_i e; rw [if_pos e]
            obtain ⟨h1, xs, h2, h3, h4, h5⟩ := kq (yQ d) (qK d) _ _ _ _ h
            obtain ⟨e1, e2, e3, e4⟩ := wc h1
            obtain ⟨g1, g2, g3, g4, g5, g6, g7⟩ := key e4
            refine ⟨g1, ?_, by rw [h3]; exact .mk (by simp) (by simp) (by simpa using h5)⟩
            rw [h3]
            have e1s : (q.fits n).2.s.size = q.s.size := by rw [e1]
            rw [show (Nd.mk 4 false 0 eS [] ([] ++ xs)).cb = hdL 4 xs.length ++ Nd.cbs xs by simp [Nd.cb], List.length_append]
            have := g7 4 xs.length (.inl (by omega))
            omega
          · rename_i c4
            rw [if_neg c4]
            split at h
            · rename_i e; rw [if_pos e]
              obtain ⟨h1, ss, xs, h2', h2, h3, h4, h5⟩ := kl (yQ d) (qK d) _ _ _ _ h
              obtain ⟨e1, e2, e3, e4⟩ := wc h1
              obtain ⟨g1, g2, g3, g4, g5, g6, g7⟩ := key e4
              refine ⟨g1, ?_, by rw [h3]; exact .mk (by simp) (by simp) (by simpa using h5)⟩
              rw [h3]
              have e1s : (q.fits n).2.s.size = q.s.size := by rw [e1]
              rw [show (Nd.mk 5 false 0 eS ([] ++ ss) ([] ++ xs)).cb = hdL 5 xs.length ++ Nd.cbm ss xs by simp [Nd.cb], List.length_append]
              have := g7 5 xs.length (.inl (by omega))
              omega
            · rename_i c5
              rw [if_neg c5]
              split at h
              · rename_i e; rw [if_pos e]
                obtain ⟨g1, g2, g3, g4, g5, g6, g7⟩ := key h
                refine ⟨g1, ?_, .mk (by simp) (by simp) (by simp)⟩
                simp only
                have e2 : (Nd.mk 1 (decide (n = 21)) 0 eS [] []).cb.length = 1 := by
                  by_cases h21 : n = 21 <;> simp [Nd.cb, h21, hdL]
                omega
              · rename_i c7; rw [if_neg c7]
                obtain ⟨g1, g2, g3, g4, g5, g6, g7⟩ := key h
                exact ⟨g1, by simp only; rw [zdz]; omega, zb1⟩
def zfC (V : ByteArray → Bool) (x : Nd) : ByteArray × Int := if x.validB V 8 = true then (if 65536 < x.cb.length then (eS, 3) else (ofL x.cb, 0)) else (eS, 1)
def x8 (s : ByteArray) : Nd × Rs := yQ 8 ⟨s, false⟩
def zhH (V : ByteArray → Bool) (s : ByteArray) : Prop := (x8 s).2.bad = false ∧ (x8 s).2.s = eS ∧ (x8 s).1.validB V 8 = true ∧ zfC V (x8 s).1 = (s, 0)
instance (V : ByteArray → Bool) (s : ByteArray) : Decidable (zhH V s) := by unfold zhH; exact inferInstance
def zjt (V : ByteArray → Bool) (s : ByteArray) : Nd × Int := if zhH V s then ((x8 s).1, 0) else (Nd.zero, 4)
theorem zfZ {V : ByteArray → Bool} {x : Nd} (hv : x.validB V 8 = true) (hin : x.In) : x8 (ofL x.cb) = (x, ⟨eS, false⟩) := by
  have := zaO x 8 hv hin []
  rw [List.append_nil] at this
  exact this
theorem zgl {V : ByteArray → Bool} {x : Nd} (hv : x.validB V 8 = true) (hin : x.In) (hl : x.cb.length ≤ 65536) : zjt V (ofL x.cb) = (x, 0) := by
  have h := zfZ hv hin
  have hg : zhH V (ofL x.cb) := by
    unfold zhH
    rw [h]
    refine ⟨rfl, rfl, hv, ?_⟩
    simp only
    unfold zfC
    rw [if_pos hv, if_neg (by omega)]
  unfold zjt
  rw [if_pos hg, h]
theorem zjA {V : ByteArray → Bool} {x : Nd} (hv : x.validB V 8 = true) (hl : x.cb.length ≤ 65536) : zfC V x = (ofL x.cb, 0) := by
  unfold zfC; rw [if_pos hv, if_neg (by omega)]
theorem zhs {s : ByteArray} (h : (x8 s).2.bad = false) : (x8 s).1.cb.length ≤ s.size ∧ (x8 s).1.In := by
  have := qK 8 ⟨s, false⟩ h
  exact ⟨Nat.le_trans (Nat.le_add_right _ _) this.2.1, this.2.2⟩
end Go.AL
namespace Go.AL
open Go Go.Proofs Go.RowKit Go.Lib Go.Shelf
theorem vN {P : Program} {w : World} {t e : TypeId} {n fuel : Nat} {cs : List Value} {d : DataW Unit} {p : List MemPlace} (ht : P.underlying t = some (.array n e)) (h : DataW.trod (fun _ => ()) P w 0 (fun _ => true) false fuel t cs = some (d, p)) : cs.length = P.cellsOf t := by
  cases fuel with
  | zero => simp [DataW.trod] at h
  | succ fuel =>
    simp only [DataW.trod, ht] at h
    split at h
    · assumption
    · cases h
theorem zk0 {W : World} (h3 : VarReads Tryz.prog W "unicode/utf8.first" Lib.firstData) (h4 : VarReads Tryz.prog W "unicode/utf8.acceptRanges" Lib.acceptData) :
    ∃ oF oA, W.heap[0]? = some oF ∧ W.heap[1]? = some oA ∧ zkJ W ∧ ∀ w : World, w.heap[0]? = some oF → w.heap[1]? = some oA → Utf8Tabs 0 1 w := by
  have hu : Utf8Tabs 0 1 W := utf8Tabs_of_readsT (U8Types.of196 zkg) ⟨by kernel_rfl, by kernel_rfl, by kernel_rfl, by kernel_rfl, by kernel_rfl, by kernel_rfl, by kernel_rfl⟩ h3 h4
  obtain ⟨g, t, cs, fuel, p, hg, hty, hvar, hd⟩ := h3
  obtain rfl := Option.some.inj ((show Tryz.prog.globalNamed "unicode/utf8.first" = some 0 by kernel_rfl).symm.trans hg)
  obtain rfl := Option.some.inj ((show (Tryz.prog.globals[0]?).map (·.type) = some 262 by kernel_rfl).symm.trans hty)
  obtain ⟨g, t, ds, fuel', p', hg', hty', hvar', hd'⟩ := h4
  obtain rfl := Option.some.inj ((show Tryz.prog.globalNamed "unicode/utf8.acceptRanges" = some 1 by kernel_rfl).symm.trans hg')
  obtain rfl := Option.some.inj ((show (Tryz.prog.globals[1]?).map (·.type) = some 265 by kernel_rfl).symm.trans hty')
  have l1 := vN Tryz.underlying262 hd
  have l2 := vN Tryz.underlying265 hd'
  rw [show Tryz.prog.cellsOf 262 = 256 by kernel_rfl] at l1
  rw [show Tryz.prog.cellsOf 265 = 32 by kernel_rfl] at l2
  have c1 := fun i => World.var?_cell hg hvar i
  have c2 := fun i => World.var?_cell hg' hvar' i
  have o1 : ∃ oF, W.heap[0]? = some oF := by
    simp only [World.var?, hg, Option.bind_some] at hvar
    split at hvar
    · rename_i e; exact ⟨_, e⟩
    · cases hvar
  have o2 : ∃ oA, W.heap[1]? = some oA := by
    simp only [World.var?, hg', Option.bind_some] at hvar'
    split at hvar'
    · rename_i e; exact ⟨_, e⟩
    · cases hvar'
  obtain ⟨oF, hF⟩ := o1
  obtain ⟨oA, hA⟩ := o2
  refine ⟨oF, oA, hF, hA, ?_, fun w e0 e1 => ?_⟩
  · intro b hb o u h
    rw [yF] at h
    rcases hb with rfl | rfl
    · have : o < 256 := by
        rw [c1] at h
        have := (Array.getElem?_eq_some_iff.1 h).1
        simp only [Array.length_toList] at l1
        omega
      rw [hu.1 o this] at h
      exact ⟨_, (Option.some.inj h).symm⟩
    · have : o < 32 := by
        rw [c2] at h
        have := (Array.getElem?_eq_some_iff.1 h).1
        simp only [Array.length_toList] at l2
        omega
      have hp := hu.2 (o / 2) (by omega)
      by_cases he : o % 2 = 0
      · rw [show 2 * (o / 2) = o by omega] at hp
        rw [hp.1] at h
        exact ⟨_, (Option.some.inj h).symm⟩
      · rw [show 2 * (o / 2) + 1 = o by omega] at hp
        rw [hp.2] at h
        exact ⟨_, (Option.some.inj h).symm⟩
  · have k0 : ∀ c, w.cell? ⟨0, c, none⟩ = W.cell? ⟨0, c, none⟩ := fun c => by
      rw [← yF, ← yF]; simp only [hcell, yS, e0, hF]
    have k1 : ∀ c, w.cell? ⟨1, c, none⟩ = W.cell? ⟨1, c, none⟩ := fun c => by
      rw [← yF, ← yF]; simp only [hcell, yS, e1, hA]
    exact ⟨fun c hc => by rw [k0]; exact hu.1 c hc, fun i hi => by rw [k1, k1]; exact hu.2 i hi⟩
def vD (s : ByteArray) : Bool := validD s.data.toList
theorem zks : ∀ (s : ByteArray), (∀ b ∈ s.data.toList, b.toNat < 128) → vD s = true := by
  intro s h
  unfold vD
  rw [validD_ascii s.data.toList.length _ (by rw [List.take_length]; exact h), List.drop_length]
  rfl
theorem zft {n b1 b2 b3 sz lo hi k : Nat} (h : checkN n b1 b2 b3 sz lo hi = some k) {c1 c2 c3 : Nat} (e1 : 1 < n → c1 = b1) (e2 : 2 < n → c2 = b2) (e3 : 3 < n → c3 = b3) : checkN (n + 1) c1 c2 c3 sz lo hi = some k ∧ 1 ≤ k ∧ k ≤ n := by
  unfold checkN at h ⊢
  by_cases s2 : sz = 2
  · rw [if_pos s2] at h ⊢
    split at h
    · cases h
    · rename_i hc
      cases h
      have := e1 (by omega)
      subst this
      rw [if_neg (by omega)]
      exact ⟨rfl, by omega, by omega⟩
  · rw [if_neg s2] at h ⊢
    by_cases s3 : sz = 3
    · rw [if_pos s3] at h ⊢
      split at h
      · cases h
      · rename_i hc
        cases h
        have := e1 (by omega)
        have := e2 (by omega)
        subst c1; subst c2
        rw [if_neg (by omega)]
        exact ⟨rfl, by omega, by omega⟩
    · rw [if_neg s3] at h ⊢
      by_cases s4 : sz = 4
      · rw [if_pos s4] at h ⊢
        split at h
        · cases h
        · rename_i hc
          cases h
          have := e1 (by omega)
          have := e2 (by omega)
          have := e3 (by omega)
          subst c1; subst c2; subst c3
          rw [if_neg (by omega)]
          exact ⟨rfl, by omega, by omega⟩
      · rw [if_neg s4] at h; cases h
theorem jI (b : UInt8) (hb : b.toNat < 128) : ∀ (n : Nat) (l : List UInt8), l.length ≤ n → validD l = true → validD (l ++ [b]) = true
  | _, [], _, _ => by rw [List.nil_append, validD_cons b [] hb]; rfl
  | 0, c :: t, h, _ => by simp at h
  | n + 1, c :: t, h, hv => by
    by_cases hc : c.toNat < 128
    · rw [List.cons_append, validD_cons c _ hc]
      rw [validD_cons c _ hc] at hv
      exact jI b hb n t (by simpa using h) hv
    · have g0 : ((c :: t).getD 0 0) = c := rfl
      have g0' : (((c :: t) ++ [b]).getD 0 0) = c := rfl
      rw [validD_lead (c :: t) (by simp) (by rw [g0]; omega)] at hv
      rw [validD_lead ((c :: t) ++ [b]) (by simp) (by rw [g0']; omega), g0']
      rw [g0] at hv
      split at hv
      · cases hv
      · rename_i k hk
        have gi : ∀ i, i < (c :: t).length → (((c :: t) ++ [b]).getD i 0) = (c :: t).getD i 0 := fun i hi => by
          simp only [List.getD_eq_getElem?_getD, List.getElem?_append_left hi]
        obtain ⟨q1, q2, q3⟩ := zft hk (c1 := (((c :: t) ++ [b]).getD 1 0).toNat) (c2 := (((c :: t) ++ [b]).getD 2 0).toNat) (c3 := (((c :: t) ++ [b]).getD 3 0).toNat) (fun h => by rw [gi 1 h]) (fun h => by rw [gi 2 h]) (fun h => by rw [gi 3 h])
        rw [show ((c :: t) ++ [b]).length = (c :: t).length + 1 by simp, q1]
        simp only
        rw [List.drop_append_of_le_length q3]
        exact jI b hb n _ (by rw [List.length_drop]; simp only [List.length_cons] at h q3 ⊢; omega) hv
theorem zkP : VOk vD where
  asc := zks
  app := fun s h => by
    unfold vD at h ⊢
    rw [ByteArray.data_append, Array.toList_append]
    exact jI 120 (by decide) _ _ (Nat.le_refl _) h
  odd := by unfold vD; decide +kernel
theorem zcK : ∀ l : List ByteArray, T.noU8L (l.map .str) = true
  | [] => rfl
  | x :: xs => by simp [T.noU8L, T.noU8, zcK xs]
mutual
theorem Nd.noU8 : ∀ x : Nd, x.toT.noU8 = true
  | .mk k b n t ns is => by simp [Nd.toT, T.noU8, T.noU8L, zcK, Nd.noU8s is]
theorem Nd.noU8s : ∀ l : List Nd, T.noU8L (Nd.toTs l) = true
  | [] => rfl
  | x :: xs => by simp [Nd.toTs, T.noU8L, Nd.noU8 x, Nd.noU8s xs]
end
end Go.AL
namespace Go.AL
open Go Go.Proofs Go.RowKit
theorem k7 (l : List UInt8) : zkC (u8L l) := by
  intro e he
  simp only [u8L, List.mem_map] at he
  obtain ⟨b, _, rfl⟩ := he
  rfl
theorem kT (l : List UInt8) : zf3 (u8L l) = ofL l := by
  unfold zf3 u8L strOfNums ofL
  rw [List.map_map, List.map_map]
  have : (((fun n => UInt8.ofNat n.toNat) ∘ T.num) ∘ u8T) = id := by
    funext b
    show UInt8.ofNat ((b.toNat : Int).toNat) = b
    simp
  rw [this, List.map_id]
set_option maxHeartbeats 4000000 in
theorem zcE {oF oA : Obj} {V : ByteArray → Bool} (hS : vm oF oA V) (x : Nd) (hx : x.Ok) (hin : x.In) (hsz : x.validB V 8 = true → x.cb.length ≤ 49999999) : Spec Tryz.prog 103 [.t x.toT] [(.par 100, .dat (.fix 0 oF)), (.par 101, .dat (.fix 1 oA))] (.tup [.t (.str (zfC V x).1), .t (.int .i64 (zfC V x).2)]) [(.par 100, .dat (.fix 0 oF)), (.par 101, .dat (.fix 1 oA))] := by
  have hC : Spec Tryz.prog 99 [.t x.toT, .t (.fn 167)] [(.par 100, .dat (.fix 0 oF)), (.par 101, .dat (.fix 1 oA))] (.tup [.t (.str (zfC V x).1), .t (.int .i64 (zfC V x).2)]) [(.par 100, .dat (.fix 0 oF)), (.par 101, .dat (.fix 1 oA))] := by
    have hV := wm hS x hx
    have hT := x.toT_full
    unfold zfC
    cases hv : x.validB V 8 with
    | false =>
      rw [hv] at hV
      rw [hT] at hV ⊢
      refine wI Tryz.func99 ?_
      repeat' (first | refine wC ?_ | refine wK ?_ | ((with_reducible refine ze ?_); refine wN (.t (.bool false)) [] hV ?_))
      exact zm (zI rfl rfl rfl rfl rfl) (zc ⟨rfl, rfl, trivial⟩)
    | true =>
      have hP := Spec.nilArg (zcP x 8 hv hin [] (by have := hsz hv; simp; omega)) rfl rfl rfl
      rw [List.nil_append] at hP
      rw [hv] at hV
      rw [hT] at hV hP ⊢
      have hlen : (u8L x.cb).length = x.cb.length := zK _
      have hsz' := hsz hv
      refine wI Tryz.func99 ?_
      repeat' (first | refine wC ?_ | refine wK ?_ | ((with_reducible refine yP ?_); refine yf rfl rfl rfl rfl rfl rfl ?_ ?_) | ((with_reducible refine ze ?_); first | refine wN (.t (.bool true)) [] hV ?_ | refine wN (.row (.loc 903)) [(.res 0, .loc 903)] hP ?_) | refine zh rfl ?_ ?_ <;> intro hc)
      · exact zm (zI rfl rfl rfl (by rw [if_pos rfl, if_pos (by omega)]; rfl) (by rw [if_pos rfl, if_pos (by omega)])) (zc ⟨rfl, rfl, trivial⟩)
      · exact k7 _
      · exact zm (zI rfl rfl rfl (by rw [if_pos rfl, if_neg (by omega), kT]) (by rw [if_pos rfl, if_neg (by omega)])) (zc ⟨rfl, rfl, trivial⟩)
  generalize (zfC V x).1 = s1 at hC ⊢
  generalize (zfC V x).2 = s2 at hC ⊢
  have hT := x.toT_full
  rw [hT] at hC ⊢
  refine wI Tryz.func103 ?_
  repeat' (first | refine wC ?_ | refine wK ?_ | ((with_reducible refine ze ?_); refine wN (.tup [.t (.str s1), .t (.int .i64 s2)]) [] hC ?_))
  exact zm (zI rfl rfl rfl rfl rfl) (zc ⟨rfl, rfl, trivial⟩)
end Go.AL
namespace Go.AL
open Go Go.RowKit
theorem vS (r : Rs) (n : Int) : (r.take n).2.s.size ≤ r.s.size := by
  unfold Rs.take
  split
  · exact Nat.le_refl _
  · simp only [ByteArray.size_extract]; omega
theorem xy (r : Rs) : r.byte.2.s.size ≤ r.s.size := vS r 1
theorem jm (r : Rs) (k : Int) : (r.uint k).2.s.size ≤ r.s.size := vS r k
theorem qU (r : Rs) (n : Int) : (r.fits n).2.s.size ≤ r.s.size ∧ ((r.fits n).1 ≤ r.s.size) := by
  unfold Rs.fits
  split
  · exact ⟨Nat.le_refl _, by omega⟩
  · exact ⟨Nat.le_refl _, by omega⟩
theorem qd (r : Rs) : (zU r).2.s.size ≤ r.s.size := by
  have h1 := xy r
  unfold zU
  split
  · exact h1
  · split
    · exact h1
    · exact Nat.le_trans (jm _ _) h1
theorem zaG {r : Rs} {i : Nat} (hi : i ≤ 3) : 0 ≤ (r.uint (2 ^ i)).1 ∧ (r.uint (2 ^ i)).1 < 18446744073709551616 := by
  by_cases h : (r.uint (2 ^ i)).2.bad = false
  · have h256 : (256 : Int) ^ (2 ^ i) ≤ 18446744073709551616 := by
      match i, hi with
      | 0, _ | 1, _ | 2, _ | 3, _ => decide +kernel
    have := ww hi h
    omega
  · have hb : (r.take (2 ^ i)).2.bad = true := by
      have : (r.uint (2 ^ i)).2 = (r.take (2 ^ i)).2 := rfl
      rw [this] at h; simpa using h
    have he : (r.take (2 ^ i)).1 = eS := by
      unfold Rs.take at hb ⊢
      split
      · rfl
      · rename_i hn; rw [if_neg hn] at hb; simp at hb
    unfold Rs.uint
    rw [he]
    exact ⟨Int.le_refl 0, show (0 : Int) < 18446744073709551616 by decide⟩
theorem jd (r : Rs) : 0 ≤ (zU r).1.1 ∧ (zU r).1.1 < 8 ∧ 0 ≤ (zU r).1.2 ∧ (zU r).1.2 < 18446744073709551616 := by
  have hb := y4 r
  unfold zU
  split
  · refine ⟨?_, ?_, ?_, ?_⟩ <;> (simp only; omega)
  · split
    · refine ⟨?_, ?_, ?_, ?_⟩ <;> (simp only; omega)
    · rename_i h1 h2
      have hu := zaG (r := r.byte.2) (i := (r.byte.1 % 32 - 24).toNat) (by omega)
      exact ⟨by simp only; omega, by simp only; omega, hu.1, hu.2⟩
theorem zbE (r : Rs) (n : Int) : (y7 r n).2.s.size ≤ r.s.size := Nat.le_trans (vS _ _) (qU r n).1
theorem zaR (r : Rs) (n : Int) : (y7 r n).1.size ≤ r.s.size := by
  unfold y7 Rs.take
  have := (qU r n).1
  split
  · exact Nat.zero_le _
  · simp only [ByteArray.size_extract]; omega
theorem zer (r : Rs) : (xV r).2.s.size ≤ r.s.size ∧ (xV r).1.size ≤ r.s.size := by
  have h := qd r
  unfold xV
  split
  · exact ⟨Nat.le_trans (zbE _ _) h, Nat.le_trans (zaR _ _) h⟩
  · exact ⟨Nat.le_trans (zbE _ _) h, Nat.le_trans (zaR _ _) h⟩
theorem qF (f : Rs → Nd × Rs) (k : Int) (B : Nat) (hf : ∀ r : Rs, r.s.size ≤ B → (f r).2.s.size ≤ B ∧ (f r).1.Ok) : ∀ (c : Nat) (ns : List ByteArray) (is : List Nd) (r : Rs), r.s.size ≤ B → ns.length + c ≤ 1000000000 → is.length + c ≤ 1000000000 → (∀ x ∈ is, x.Ok) → (zS f k c ns is r).2.s.size ≤ B ∧ (zS f k c ns is r).1.Ok
  | 0, ns, is, r, hr, h1, h2, h3 => ⟨hr, .mk (by omega) (by omega) h3⟩
  | c + 1, ns, is, r, hr, h1, h2, h3 => by
    unfold zS
    have key : ∀ (y : Nd), y.Ok → ∀ x ∈ is ++ [y], x.Ok := fun y hy x hx => by
      rcases List.mem_append.1 hx with h | h
      · exact h3 x h
      · rw [List.mem_singleton.1 h]; exact hy
    split
    · exact ⟨hr, .mk (by omega) (by omega) h3⟩
    · split
      · have h := hf (xV r).2 (Nat.le_trans (zer r).1 hr)
        exact qF f k B hf c _ _ _ h.1 (by simp; omega) (by simp; omega) (key _ h.2)
      · have h := hf r hr
        exact qF f k B hf c _ _ _ h.1 (by omega) (by simp; omega) (key _ h.2)
theorem vR : Nd.zero.Ok := .mk (by simp) (by simp) (by simp)
theorem kU (B : Nat) (hB : B ≤ 1000000000) : ∀ (d : Nat) (r : Rs), r.s.size ≤ B → (yQ d r).2.s.size ≤ B ∧ (yQ d r).1.Ok
  | 0, r, hr => ⟨Nat.le_trans (qd r) hr, vR⟩
  | d + 1, r, hr => by
    obtain ⟨m, n, q, hh⟩ : ∃ m n q, zU r = ((m, n), q) := ⟨_, _, _, rfl⟩
    have hq : q.s.size ≤ B := by have := qd r; rw [hh] at this; exact Nat.le_trans this hr
    have hf := qU q n
    rw [y9 hh]
    split
    · exact ⟨hq, .mk (by simp) (by simp) (by simp)⟩
    split
    · exact ⟨hq, .mk (by simp) (by simp) (by simp)⟩
    split
    · exact ⟨Nat.le_trans (zbE q n) hq, .mk (by simp) (by simp) (by simp)⟩
    split
    · exact qF (yQ d) 4 B (kU B hB d) _ _ _ _ (Nat.le_trans hf.1 hq) (by simp; omega) (by simp; omega) (by simp)
    split
    · exact qF (yQ d) 5 B (kU B hB d) _ _ _ _ (Nat.le_trans hf.1 hq) (by simp; omega) (by simp; omega) (by simp)
    split
    · exact ⟨hq, .mk (by simp) (by simp) (by simp)⟩
    · exact ⟨hq, vR⟩
def VGood (s : ByteArray) (p : Nat) (r : Nd × Int) : Prop := r.1.Ok ∧ -1 ≤ r.2 ∧ (r.2 ≠ -1 → (p : Int) < r.2 ∧ r.2 ≤ s.size ∧ (r.1.cb.length : Int) + p ≤ r.2 ∧ r.1.In)
theorem VGood.fail (s : ByteArray) (p : Nat) : VGood s p (Nd.zero, -1) := ⟨vR, by decide, fun h => absurd rfl h⟩
end Go.AL
