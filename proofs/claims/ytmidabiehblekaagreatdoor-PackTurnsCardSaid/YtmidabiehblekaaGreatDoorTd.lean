/- What functions of the program and of the document answer, and the plain laws behind it; each under the conditions that its own theorem names. -/
import Derived.Test.YtmidabiehblekaaGreatDoorTb
import Derived.Test.YtmidabiehblekaaGreatDoorTc
import Derived.Test.YtmidabiehblekaaGreatDoorAl4
import Derived.Test.YtmidabiehblekaaGreatDoorAl3
import Derived.Shelf.Strconv.Itoa1
import Derived.Test.YtmidabiehblekaaGreatDoorTa
import Derived.Shelf.Strconv.Itoa2
import Derived.Shelf.Strconv.Itoa3
import Derived.Lib.AppendIntMem
import Derived.Shelf.Strconv.AtoiAll
import Derived.Lib.AtoiAll
import Derived.Lib.AtoiAllCases
set_option linter.unusedVariables false
namespace Go.AL
open Go Go.Proofs Go.RowKit
def zh2 : List (T × T) := zjX.map fun x => (T.int .u8 (x.1.toNat : Int), T.int .u8 (x.2.toNat : Int))
theorem zio (c : UInt8) : vJ zh2 (.int .u8 (c.toNat : Int)) = (zje c).map fun l => T.int .u8 (l.toNat : Int) := by
  have key : ∀ (l : List (UInt8 × UInt8)), vJ (l.map fun x => (T.int .u8 (x.1.toNat : Int), T.int .u8 (x.2.toNat : Int))) (.int .u8 (c.toNat : Int)) = (l.lookup c).map fun l => T.int .u8 (l.toNat : Int) := by
    intro l
    induction l with
    | nil => rfl
    | cons x l ih =>
      obtain ⟨a, b⟩ := x
      by_cases h : c = a
      · subst h; simp [vJ, kO, List.lookup]
      · have h2 : ¬ ((c.toNat : Int) = (a.toNat : Int)) := fun e => h (UInt8.toNat_inj.1 (by omega))
        simp only [List.map_cons, vJ, kO, h2, decide_false, Bool.false_eq_true, if_false, List.lookup, beq_iff_eq, h, ih]
        have h3 : (c == a) = false := by simpa using h
        rw [h3]
  exact key zjX
theorem zgs : yM (.int .u8) zh2 = true := by decide
set_option maxHeartbeats 2000000 in
theorem kv : Spec Tryz.prog 277 [] [] (.row (.res 0)) [(.res 0, .dat (.map zh2))] := by
  refine wIG Tryz.func277 ?_
  repeat' (first | refine wC ?_ | refine wK ?_ | ((with_reducible refine zem ?_); refine zcV rfl rfl rfl rfl rfl rfl rfl rfl ?_ ?_))
  all_goals try rfl
  refine zk ((za [0] [.loc 1] rfl rfl).trans (zd (.loc 1) (.res 0) rfl rfl rfl rfl)) ?_
  exact zE (zm (zt rfl (AVLE.refl _)) (zc ⟨rfl, trivial⟩))
theorem ziD (n : Nat) (h : n < 16) : bAt ⟨#[48, 49, 50, 51, 52, 53, 54, 55, 56, 57, 97, 98, 99, 100, 101, 102]⟩ (n : Int) = ((zcg n).toNat : Int) := by
  have : n = 0 ∨ n = 1 ∨ n = 2 ∨ n = 3 ∨ n = 4 ∨ n = 5 ∨ n = 6 ∨ n = 7 ∨ n = 8 ∨ n = 9 ∨ n = 10 ∨ n = 11 ∨ n = 12 ∨ n = 13 ∨ n = 14 ∨ n = 15 := by omega
  rcases this with rfl | rfl | rfl | rfl | rfl | rfl | rfl | rfl | rfl | rfl | rfl | rfl | rfl | rfl | rfl | rfl <;> decide
theorem zku : ∀ c : Fin 256, IntKind.u8.wrap ((BitVec.ofInt IntKind.u8.bits (c.val : Int) &&& BitVec.ofInt IntKind.u8.bits 15).toNat : Int) = ((c.val % 16 : Nat) : Int) := by decide +kernel
set_option maxHeartbeats 8000000 in
theorem vP (es : List T) (s : ByteArray) (hb : es.length + (6 * s.size + 2) ≤ 100000000) : Spec Tryz.prog 233 [.row (.par 0), .t (.str s)] [(.par 0, .slt 5 1 es)] (.row (.res 0)) [(.res 0, .slt 5 1 (es ++ u8L (jQ s)))] := by
  have hE := kv
  have hl : s.data.toList.length = s.size := by rw [Array.length_toList]; rfl
  refine wIG Tryz.func233 ?_
  repeat' (first | refine wC ?_ | refine wK ?_ | ((with_reducible refine zo ?_); refine zf rfl rfl rfl rfl rfl rfl rfl rfl rfl rfl ?_ ?_ ?_) | ((with_reducible refine ze ?_); refine wN (.row (.loc 901)) [(.res 0, .loc 901)] hE ?_))
  all_goals try (simp only [List.length_singleton]; omega)
  refine zi ((za [0, 1, 5, 15, 16] [.loc 901, .loc 13] rfl rfl).trans (zd (.loc 13) (.loc 900) rfl rfl rfl rfl)) ?_
  refine zw (fun p env st => ∃ (i : Nat), i ≤ s.size ∧ p = s.size - i ∧
      env = EnvL.get [(0, .row (.loc 900)), (1, .t (.str s)), (5, .row (.loc 901)), (15, .t (.int .i64 (s.size : Int))), (16, .t (.int .i64 (i : Int)))] ∧
      st = StO.get [(.loc 901, some (.dat (.map zh2))), (.loc 900, some (.slt 5 1 (es ++ u8L (34 :: xl (s.data.toList.take i)))))])
    ?_ (n := s.size) ⟨0, by omega, rfl, rfl, rfl⟩
  rintro p env st ⟨i, hi, rfl, rfl, rfl⟩
  have wi : IntKind.i64.wrap ((i : Int) + 1) = ((i + 1 : Nat) : Int) := by rw [zy (by omega) (by omega)]; omega
  have hq := jh (s.data.toList.take i)
  have hql : (s.data.toList.take i).length ≤ i := by rw [List.length_take]; omega
  have hxl : (es ++ u8L (34 :: xl (s.data.toList.take i))).length ≤ 99999999 := by
    simp only [List.length_append, zK, List.length_cons]; omega
  by_cases hlt : i < s.size
  · have hbt : bAt s (i : Int) = ((s.data.toList.getD i default).toNat : Int) := rfl
    have hg := zio (s.data.toList.getD i default)
    have hk := zgs
    have ht := zfl s.data.toList i (by omega)
    have hc8 := (s.data.toList.getD i default).toNat_lt
    rw [show es ++ u8L (34 :: xl (s.data.toList.take i)) = es ++ u8L (34 :: xl (s.data.toList.take i)) from rfl]
    obtain ⟨X, hX⟩ : ∃ X, X = es ++ u8L (34 :: xl (s.data.toList.take i)) := ⟨_, rfl⟩
    have hnext : es ++ u8L (34 :: xl (s.data.toList.take (i + 1))) = X ++ u8L (ziO (s.data.toList.getD i default)) := by
      rw [hX, ht, List.append_assoc, ← zz]; rfl
    rw [← hX] at hxl ⊢
    rw [← hbt] at hg
    generalize hcc : s.data.toList.getD i default = c at *
    unfold ziO at hnext
    clear hX ht
    cases hO : zje c with
    | some l =>
      rw [hO] at hg hnext
      simp only [Option.map_some] at hg
      repeat' (first | refine wC ?_ | (exfalso; omega) | refine xi (zT := .int _ _) rfl rfl rfl rfl hg (fun _ => rfl) rfl rfl rfl rfl ?_ ?_ | refine wK ?_ | ((with_reducible refine xM ?_); refine zZ rfl rfl rfl rfl rfl rfl ?_ ?_ ?_) | ((with_reducible refine zo ?_); refine zf rfl rfl rfl rfl rfl rfl rfl rfl rfl rfl ?_ ?_ ?_) | refine zh rfl ?_ ?_ <;> intro hc)
      all_goals try exact hk
      all_goals try (simp only [List.length_cons, List.length_nil]; omega)
      all_goals try omega
      exact zM (n' := s.size - (i + 1)) (by omega) ((za [0, 1, 5, 15, 16] [.loc 901, .loc 37] rfl rfl).trans (zd (.loc 37) (.loc 900) rfl rfl rfl rfl)) ⟨i + 1, by omega, rfl, by rw [wi]; rfl, by rw [hnext]; rfl⟩
    | none =>
      rw [hO] at hg hnext
      simp only [Option.map_none] at hg
      simp only at hnext
      by_cases h32 : c.toNat < 32
      · rw [if_pos h32] at hnext
        have h4 : bAt s (i : Int) / 2 ^ min (Int.toNat 4) IntKind.u8.bits = ((c.toNat / 16 : Nat) : Int) := by rw [hbt]; show (c.toNat : Int) / 16 = _; omega
        have h15 : IntKind.u8.wrap ((BitVec.ofInt IntKind.u8.bits (bAt s (i : Int)) &&& BitVec.ofInt IntKind.u8.bits 15).toNat : Int) = ((c.toNat % 16 : Nat) : Int) := by rw [hbt]; exact zku ⟨c.toNat, hc8⟩
        have e1 := ziD (c.toNat / 16) (by omega)
        have e2 := ziD (c.toNat % 16) (by omega)
        repeat' (first | refine wC ?_ | (exfalso; omega) | refine qz (zT := .int _ _) rfl rfl rfl rfl hg (fun _ => rfl) rfl rfl rfl rfl ?_ ?_ | refine wK ?_ | ((with_reducible refine xM ?_); refine zZ rfl rfl rfl rfl rfl rfl ?_ ?_ ?_) | ((with_reducible refine zo ?_); refine zf rfl rfl rfl rfl rfl rfl rfl rfl rfl rfl ?_ ?_ ?_) | refine zh rfl ?_ ?_ <;> intro hc)
        all_goals try exact hk
        all_goals try (simp only [List.length_cons, List.length_nil]; omega)
        all_goals try (rw [h4]; omega)
        all_goals try (rw [h4]; show _ < (16 : Int); omega)
        all_goals try (rw [h15]; omega)
        all_goals try (rw [h15]; show _ < (16 : Int); omega)
        all_goals try omega
        exact zM (n' := s.size - (i + 1)) (by omega) ((za [0, 1, 5, 15, 16] [.loc 901, .loc 49] rfl rfl).trans (zd (.loc 49) (.loc 900) rfl rfl rfl rfl)) ⟨i + 1, by omega, rfl, by rw [wi]; rfl, by rw [hnext, h4, h15, e1, e2]; rfl⟩
      · rw [if_neg h32] at hnext
        repeat' (first | refine wC ?_ | (exfalso; omega) | refine qz (zT := .int _ _) rfl rfl rfl rfl hg (fun _ => rfl) rfl rfl rfl rfl ?_ ?_ | refine wK ?_ | ((with_reducible refine xM ?_); refine zZ rfl rfl rfl rfl rfl rfl ?_ ?_ ?_) | ((with_reducible refine zo ?_); refine zf rfl rfl rfl rfl rfl rfl rfl rfl rfl rfl ?_ ?_ ?_) | refine zh rfl ?_ ?_ <;> intro hc)
        all_goals try exact hk
        all_goals try (simp only [List.length_cons, List.length_nil]; omega)
        all_goals try omega
        exact zM (n' := s.size - (i + 1)) (by omega) ((za [0, 1, 5, 15, 16] [.loc 901, .loc 31] rfl rfl).trans (zd (.loc 31) (.loc 900) rfl rfl rfl rfl)) ⟨i + 1, by omega, rfl, by rw [wi]; rfl, by rw [hnext, hbt]; rfl⟩
  · obtain rfl : i = s.size := by omega
    have e : es ++ u8L (34 :: xl (s.data.toList.take s.size)) ++ [T.int .u8 34] = es ++ u8L (jQ s) := by
      rw [← hl, List.take_length, List.append_assoc]
      congr 1
      show u8L _ ++ u8L [34] = _
      rw [← zz]; rfl
    repeat' (first | refine wC ?_ | (exfalso; omega) | refine wK ?_ | ((with_reducible refine zo ?_); refine zf rfl rfl rfl rfl rfl rfl rfl rfl rfl rfl ?_ ?_ ?_) | refine zh rfl ?_ ?_ <;> intro hc)
    all_goals try (simp only [List.length_singleton]; omega)
    refine zk ((za [4] [.loc 53] rfl rfl).trans (zd (.loc 53) (.res 0) rfl rfl rfl rfl)) ?_
    exact zE (zm (zt rfl (AVLE.of_eq rfl)) (zc ⟨by rw [← e]; rfl, trivial⟩))
set_option maxHeartbeats 2000000 in
theorem jj (es : List T) (b : Bool) (hb : es.length ≤ 100000000) : Spec Tryz.prog 231 [.row (.par 0), .t (.bool b)] [(.par 0, .slt 5 1 es)] (.row (.res 0)) [(.res 0, .slt 5 1 (es ++ u8L (if b then qa else x4)))] := by
  have hI : Spec Tryz.prog 275 [.row (.par 0), .t (.bool b)] [(.par 0, .slt 5 1 es)] (.row (.res 0)) [(.res 0, .slt 5 1 (es ++ u8L (if b then qa else x4)))] := by
    cases b with
    | true =>
      refine wIG Tryz.func275 ?_
      repeat' (first | refine wC ?_ | refine wK ?_ | ((with_reducible refine zo ?_); refine zX rfl rfl rfl rfl rfl rfl rfl rfl rfl ?_ ?_ ?_))
      · show (es.length + 4) * 1 ≤ _; omega
      · show es.length + 4 ≤ _; omega
      refine zk ((za [4] [.loc 7] rfl rfl).trans (zd (.loc 7) (.res 0) rfl rfl rfl rfl)) ?_
      exact zE (zm (zt rfl (AVLE.of_eq rfl)) (zc ⟨rfl, trivial⟩))
    | false =>
      refine wIG Tryz.func275 ?_
      repeat' (first | refine wC ?_ | refine wK ?_ | ((with_reducible refine zo ?_); refine zX rfl rfl rfl rfl rfl rfl rfl rfl rfl ?_ ?_ ?_))
      · show (es.length + 5) * 1 ≤ _; omega
      · show es.length + 5 ≤ _; omega
      refine zk ((za [4] [.loc 9] rfl rfl).trans (zd (.loc 9) (.res 0) rfl rfl rfl rfl)) ?_
      exact zE (zm (zt rfl (AVLE.of_eq rfl)) (zc ⟨rfl, trivial⟩))
  refine wIG Tryz.func231 ?_
  repeat' (first | refine wC ?_ | refine wK ?_ | ((with_reducible refine ze ?_); refine wN (.row (.loc 903)) [(.res 0, .loc 903)] hI ?_))
  refine zk ((za [4] [.loc 903] rfl rfl).trans (zd (.loc 903) (.res 0) rfl rfl rfl rfl)) ?_
  exact zE (zm (zt rfl (AVLE.of_eq rfl)) (zc ⟨rfl, trivial⟩))
end Go.AL
namespace Go.AL
open Go Go.Proofs Go.RowKit Go.Shelf
theorem zhk {P : Program} (t : TypeId) {d : TypeDesc} [tu : TyU P t d] (w : World) : (isAgg t).run P w = .ok (yJ d) w := xQ tu
theorem zgD {P : Program} (t : TypeId) {s b : Nat} {z : Value} [ti : TyI P t s b z] (w : World) : (Go.sizeOf t).run P w = .ok s w := yD ti
theorem zgS {P : Program} (t : TypeId) {s b : Nat} {z : Value} [ti : TyI P t s b z] (w : World) : (zeroValue t).run P w = .ok z w := zW ti
def zih : Ren := ⟨fun | 283 => 200 | x => x, fun | 3 => 3 | 4 => 4 | 9 => 9 | x => x, fun x => x⟩
set_option maxRecDepth 100000 in
theorem zg2 : Lays.n283 Tryz.prog zih where
  mixed := by kernel_rfl
  f283 := by kernel_rfl
  t3 := Tryz.underlying3
  a3 := fun w => zhk (P := Tryz.prog) (d := (TypeDesc.int IntKind.i64)) 3 w
  z3 := fun w => zgD (P := Tryz.prog) 3 w
  v3 := fun w => zgS (P := Tryz.prog) 3 w
  t4 := Tryz.underlying4
  a4 := fun w => zhk (P := Tryz.prog) (d := TypeDesc.bool) 4 w
  z4 := fun w => zgD (P := Tryz.prog) 4 w
  v4 := fun w => zgS (P := Tryz.prog) 4 w
  t9 := Tryz.underlying9
  a9 := fun w => zhk (P := Tryz.prog) (d := TypeDesc.string) 9 w
  z9 := fun w => zgD (P := Tryz.prog) 9 w
  v9 := fun w => zgS (P := Tryz.prog) 9 w
theorem kE {P : Program} (t : TypeId) {d : TypeDesc} [tu : TyU P t d] (w : World) : (isAgg t).run P w = .ok (yJ d) w := xQ tu
theorem kx {P : Program} (t : TypeId) {s b : Nat} {z : Value} [ti : TyI P t s b z] (w : World) : (Go.sizeOf t).run P w = .ok s w := yD ti
theorem kI {P : Program} (t : TypeId) {s b : Nat} {z : Value} [ti : TyI P t s b z] (w : World) : (zeroValue t).run P w = .ok z w := zW ti
def zix : Ren := ⟨fun | 129 => 265 | 284 => 201 | 317 => 264 | 318 => 266 | x => x, fun | 0 => 0 | 3 => 3 | 4 => 4 | 5 => 5 | 9 => 9 | 46 => 148 | 53 => 201 | 212 => 276 | x => x, fun | 17 => 2 | x => x⟩
set_option maxRecDepth 100000 in
theorem zhi : LaysM.n284 Tryz.prog zix where
  mixed := by kernel_rfl
  f129 := by kernel_rfl
  f284 := by kernel_rfl
  f317 := by kernel_rfl
  f318 := by kernel_rfl
  t0 := Tryz.underlying0
  a0 := fun w => kE (P := Tryz.prog) (d := (TypeDesc.tuple #[])) 0 w
  z0 := fun w => kx (P := Tryz.prog) 0 w
  v0 := fun w => kI (P := Tryz.prog) 0 w
  t3 := Tryz.underlying3
  a3 := fun w => kE (P := Tryz.prog) (d := (TypeDesc.int IntKind.i64)) 3 w
  z3 := fun w => kx (P := Tryz.prog) 3 w
  v3 := fun w => kI (P := Tryz.prog) 3 w
  t4 := Tryz.underlying4
  a4 := fun w => kE (P := Tryz.prog) (d := TypeDesc.bool) 4 w
  z4 := fun w => kx (P := Tryz.prog) 4 w
  v4 := fun w => kI (P := Tryz.prog) 4 w
  t5 := Tryz.underlying5
  a5 := fun w => kE (P := Tryz.prog) (d := (TypeDesc.int IntKind.u8)) 5 w
  z5 := fun w => kx (P := Tryz.prog) 5 w
  v5 := fun w => kI (P := Tryz.prog) 5 w
  t9 := Tryz.underlying9
  a9 := fun w => kE (P := Tryz.prog) (d := TypeDesc.string) 9 w
  z9 := fun w => kx (P := Tryz.prog) 9 w
  v9 := fun w => kI (P := Tryz.prog) 9 w
  t46 := Tryz.underlying148
  a46 := fun w => kE (P := Tryz.prog) (d := (TypeDesc.int IntKind.u64)) 148 w
  z46 := fun w => kx (P := Tryz.prog) 148 w
  v46 := fun w => kI (P := Tryz.prog) 148 w
  t53 := Tryz.underlying201
  a53 := fun w => kE (P := Tryz.prog) (d := (TypeDesc.int IntKind.u64)) 201 w
  z53 := fun w => kx (P := Tryz.prog) 201 w
  v53 := fun w => kI (P := Tryz.prog) 201 w
  t212 := Tryz.underlying276
  a212 := fun w => kE (P := Tryz.prog) (d := (TypeDesc.array 20 201)) 276 w
  z212 := fun w => kx (P := Tryz.prog) 276 w
  v212 := fun w => kI (P := Tryz.prog) 276 w
  g17 := by kernel_rfl
  i0 := by kernel_rfl
  i3 := by kernel_rfl
  i4 := by kernel_rfl
  i5 := by kernel_rfl
  i9 := by kernel_rfl
  i46 := by kernel_rfl
  i53 := by kernel_rfl
  i212 := by kernel_rfl
  m17 := by kernel_rfl
theorem kG {P : Program} (t : TypeId) {d : TypeDesc} [tu : TyU P t d] (w : World) : (isAgg t).run P w = .ok (yJ d) w := xQ tu
theorem kC {P : Program} (t : TypeId) {s b : Nat} {z : Value} [ti : TyI P t s b z] (w : World) : (Go.sizeOf t).run P w = .ok s w := yD ti
theorem ku {P : Program} (t : TypeId) {s b : Nat} {z : Value} [ti : TyI P t s b z] (w : World) : (zeroValue t).run P w = .ok z w := zW ti
def zid : Ren := ⟨fun | 285 => 202 | x => x, fun | 0 => 0 | 3 => 3 | 4 => 4 | 5 => 5 | 9 => 9 | 37 => 82 | 51 => 168 | 53 => 201 | x => x, fun x => x⟩
set_option maxRecDepth 100000 in
theorem zgd : Lays.n285 Tryz.prog zid where
  mixed := by kernel_rfl
  f285 := by kernel_rfl
  t0 := Tryz.underlying0
  a0 := fun w => kG (P := Tryz.prog) (d := (TypeDesc.tuple #[])) 0 w
  z0 := fun w => kC (P := Tryz.prog) 0 w
  v0 := fun w => ku (P := Tryz.prog) 0 w
  t3 := Tryz.underlying3
  a3 := fun w => kG (P := Tryz.prog) (d := (TypeDesc.int IntKind.i64)) 3 w
  z3 := fun w => kC (P := Tryz.prog) 3 w
  v3 := fun w => ku (P := Tryz.prog) 3 w
  t4 := Tryz.underlying4
  a4 := fun w => kG (P := Tryz.prog) (d := TypeDesc.bool) 4 w
  z4 := fun w => kC (P := Tryz.prog) 4 w
  v4 := fun w => ku (P := Tryz.prog) 4 w
  t5 := Tryz.underlying5
  a5 := fun w => kG (P := Tryz.prog) (d := (TypeDesc.int IntKind.u8)) 5 w
  z5 := fun w => kC (P := Tryz.prog) 5 w
  v5 := fun w => ku (P := Tryz.prog) 5 w
  t9 := Tryz.underlying9
  a9 := fun w => kG (P := Tryz.prog) (d := TypeDesc.string) 9 w
  z9 := fun w => kC (P := Tryz.prog) 9 w
  v9 := fun w => ku (P := Tryz.prog) 9 w
  t37 := Tryz.underlying82
  a37 := fun w => kG (P := Tryz.prog) (d := (TypeDesc.slice 5)) 82 w
  z37 := fun w => kC (P := Tryz.prog) 82 w
  v37 := fun w => ku (P := Tryz.prog) 82 w
  t51 := Tryz.underlying168
  a51 := fun w => kG (P := Tryz.prog) (d := (TypeDesc.int IntKind.u32)) 168 w
  z51 := fun w => kC (P := Tryz.prog) 168 w
  v51 := fun w => ku (P := Tryz.prog) 168 w
  t53 := Tryz.underlying201
  a53 := fun w => kG (P := Tryz.prog) (d := (TypeDesc.int IntKind.u64)) 201 w
  z53 := fun w => kC (P := Tryz.prog) 201 w
  v53 := fun w => ku (P := Tryz.prog) 201 w
end Go.AL
namespace Go.AL
open Go Go.Proofs Go.RowKit Go.Sort
theorem Spec.of_same {P : Program} {f : FuncId} {args : List AV} {r : AV} {S : StL} (H : ∀ h m (vs : Array Value) w, Sim h m (StL.get S) w → vs.size = args.length → RepAs h m (fun j => vs[j]?) 0 args → Calls P f vs w fun e w' => ∃ v, e = .returned v ∧ (∀ h' m', RepA h' m' v r) ∧ w' = w) : Spec P f args S r S where
  run h m vs w hs hv hr := (H h m vs w hs hv hr).mono fun e w' ⟨v, he, hv', hw⟩ => by
    subst hw
    exact ⟨v, h, m, he, hv' h m, hs, ⟨Foot.refl .., fun _ => rfl⟩⟩
theorem zdM {h : Heap} {m : zx} {vs : Array Value} {x : T} (hv : vs.size = 1) (hr : RepAs h m (fun j => vs[j]?) 0 [.t x]) {u : Value} (hx : ∀ v, RepT h v x → v = u) : vs = #[u] := by
  simp only [RepAs, RepA, and_true] at hr
  obtain ⟨v, h0, h1⟩ := hr
  have := hx v h1
  subst this
  apply Array.ext
  · simpa using hv
  · intro i h1' h2'
    obtain rfl : i = 0 := by omega
    rw [Array.getElem?_eq_getElem h1'] at h0; simpa using h0
theorem zky {oP : Obj} (hP : xk .u64 Lib.pow10Tab oP) {w : World} (h : w.heap[2]? = some oP) : Lib.TabIs Tryz.prog w "internal/strconv.uint64pow10" .u64 Lib.pow10Tab := by
  unfold Lib.TabIs World.var?
  rw [show Tryz.prog.globalNamed "internal/strconv.uint64pow10" = some 2 by kernel_rfl, Option.bind_some, h]
  cases oP with
  | cells cs e fr =>
    have : cs.toList = Lib.pow10Tab.map (Value.int .u64) := hP
    show some cs = _
    congr 1
    apply Array.ext'
    rw [this]
  | _ => exact hP.elim
theorem zgV {oP : Obj} {h : Heap} {m : zx} {w : World} {S : StL} {b : Nat} {id : Id} (hs : Sim h m (StL.get S) w) (hS : StL.get S id = some (.dat (.fix b oP))) : w.heap[b]? = some oP := by
  obtain ⟨b', o, e1, e2, e3⟩ := hs.rows id _ hS
  obtain ⟨e4, e5⟩ := e3
  subst e5
  rw [e4] at e1
  cases e1
  exact e2
theorem zal {oP : Obj} (hP : xk .u64 Lib.pow10Tab oP) (u : Nat) (h1 : 1 ≤ u) (h2 : u < 18446744073709551616) : Spec Tryz.prog 201 [.t (.int .u64 (u : Int))] [(.par 102, .dat (.fix 2 oP))] (.t (.int .i64 (Lib.nDigits u : Int))) [(.par 102, .dat (.fix 2 oP))] :=
  Spec.of_same fun h m vs w hs hv hr => by
    obtain rfl := zdM hv hr (u := .int .u64 u) fun v hv => by simpa [RepT] using hv
    exact (Any.internal_strconv_numDigits zhi u h1 h2 w (zky hP (zgV hs (ye _ _)))).mono fun e w' ⟨he, hw⟩ => ⟨_, he, fun h' m' => by simp [RepA, RepT], hw⟩
theorem zfE (i : Nat) (hi : i < 100) : Spec Tryz.prog 200 [.t (.int .i64 (i : Int))] [] (.t (.str (ofL (Lib.decDigits i)))) [] :=
  Spec.of_same fun h m vs w hs hv hr => by
    obtain rfl := zdM hv hr (u := .int .i64 i) fun v hv => by simpa [RepT] using hv
    exact (Any.internal_strconv_small zg2 i hi w).mono fun e w' ⟨he, hw⟩ => ⟨_, he, fun h' m' => by simp [RepA, RepT, ofL], hw⟩
theorem zi5 (l : List UInt8) (d : Array UInt8) (n : Nat) (hl : l.length = n) (hd : d.size = n) (H : ∀ j (hj : j < l.length), l[j] = d[j]!) : d = l.toArray := by
  apply Array.ext
  · simp; omega
  · intro i h1 h2
    have := H i (by simpa using h2)
    rw [getElem!_pos d i h1] at this
    simp [this]
theorem zfs {aty : TypeId} (bs : List UInt8) (u : Nat) (hu : u < 18446744073709551616) (hlen : Lib.nDigits u ≤ bs.length) (hsz : bs.length ≤ 100) : Spec Tryz.prog 202 [.view (.par 0) (Lib.nDigits u) bs.length, .t (.int .u64 (u : Int))] [(.par 0, .arr aty 1 (u8L bs))] (.tup []) [(.par 0, .arr aty 1 (u8L (Lib.decDigits u ++ bs.drop (Lib.nDigits u))))] where
  run h m vs w hs hv hr := by
    obtain ⟨b, arr, e1, e2, e3, e4⟩ := hs.rows (.par 0) _ (ye _ _)
    simp only [RepAs, RepA, RepT, and_true] at hr
    obtain ⟨⟨v0, k0, b', k1, rfl⟩, v1, k2, rfl⟩ := hr
    rw [e1] at k1
    cases k1
    have hv2 : vs.size = 2 := hv
    have evs : vs = #[.slice (some ⟨b, 0, none⟩) (Lib.nDigits u) bs.length, .int .u64 u] := by
      apply Array.ext
      · simpa using hv2
      · intro i h1' h2'
        have : i = 0 ∨ i = 1 := by omega
        rcases this with rfl | rfl
        · rw [Array.getElem?_eq_getElem h1'] at k0; simpa using k0
        · rw [Array.getElem?_eq_getElem h1'] at k2; simpa using k2
    subst evs
    have hal : arr.size = bs.length := by rw [e3, zK, Nat.mul_one]
    have cell : ∀ j (hj : j < bs.length), arr[j]? = some (.int .u8 (bs[j].toNat : Int)) := fun j hj => by
      obtain ⟨_, c2⟩ := xr e4 (i := j) (e := u8T bs[j]) (by simp [u8L, hj])
      simp only [u8T, T.cells, RepL, RepT, and_true, Nat.mul_one, Nat.zero_add] at c2
      obtain ⟨x, c3, _, rfl⟩ := c2
      exact c3
    have hH : Holds (fun (b : UInt8) => Value.int .u8 (b.toNat : Int)) w b 0 (bs.take (Lib.nDigits u)).toArray := fun j hj => by
      have hj' : j < Lib.nDigits u := by simp at hj; omega
      refine ⟨?_, ?_⟩
      · rw [Nat.zero_add, zY e2, cell j (by omega), getElem!_pos _ j hj]
        simp
      · simp [World.frozen?, e2]
    have hds : (bs.take (Lib.nDigits u)).toArray.size = Lib.nDigits u := by simp; omega
    have hfmt := Any.internal_strconv_formatBase10 zgd b 0 bs.length u (bs.take (Lib.nDigits u)).toArray w hH (by rw [hds]; exact Lib.lt_pow_nDigits u) hu (by rw [hds]; omega)
    rw [hds] at hfmt
    refine hfmt.mono fun e w' ⟨he, n, v', dk, hw, hF⟩ => ?_
    have hdk : dk = (Lib.decDigits u).toArray := zi5 _ _ (Lib.nDigits u) (Lib.decDigits_length u) hF.size (fun j hj => Lib.row_is_numeral hF j hj)
    have hdl : (Lib.decDigits u).length = Lib.nDigits u := Lib.decDigits_length u
    have hbl : b < w.heap.size := (Array.getElem?_eq_some_iff.1 e2).1
    have hheap : w'.heap = w.heap.modify b (onCells (putCells (fun (b : UInt8) => Value.int .u8 (b.toNat : Int)) 0 dk)) := by rw [hw]; rfl
    have hwr : Wrote w w' b := ⟨by rw [hw]; rfl, by rw [hw]; rfl, by rw [hw]; rfl, by rw [hheap]; simp, fun k hk => by rw [hheap, Array.getElem?_modify, if_neg (Ne.symm hk)]⟩
    have hnew : w'.heap[b]? = some (.cells (putCells (fun (b : UInt8) => Value.int .u8 (b.toNat : Int)) 0 dk arr) aty (0, 0)) := by
      rw [hheap, Array.getElem?_modify, if_pos rfl, e2]; rfl
    obtain ⟨s1, s2⟩ := qy hs (by rw [e1]; rfl) hwr (row' := .arr aty 1 (u8L (Lib.decDigits u ++ bs.drop (Lib.nDigits u)))) ⟨b, _, e1, hnew, by
      simp only [putCells, Array.size_mapIdx, hal, zK, List.length_append, hdl, List.length_drop]; omega, by
      refine y1 fun i e' he' => ?_
      have hi : i < (Lib.decDigits u ++ bs.drop (Lib.nDigits u)).length := by
        have := (List.getElem?_eq_some_iff.1 he').1
        rwa [zK] at this
      have hi2 : i < bs.length := by rw [List.length_append, List.length_drop] at hi; omega
      have e5 : e' = u8T (Lib.decDigits u ++ bs.drop (Lib.nDigits u))[i] := by
        have := he'
        simp only [u8L, List.getElem?_map, List.getElem?_eq_getElem hi, Option.map_some, Option.some.injEq] at this
        exact this.symm
      subst e5
      refine ⟨rfl, ?_⟩
      simp only [u8T, T.cells, RepL, RepT, and_true, Nat.mul_one, Nat.zero_add]
      refine ⟨_, ?_, rfl, rfl⟩
      simp only [putCells, Array.getElem?_mapIdx, cell i hi2, Option.map_some, Nat.zero_le, true_and, Nat.zero_add, Nat.sub_zero]
      congr 1
      by_cases hlt : i < dk.size
      · rw [if_pos hlt]
        have h3 : i < (Lib.decDigits u).length := by rw [hdl]; rw [hF.size] at hlt; exact hlt
        rw [List.getElem_append_left h3, Lib.row_is_numeral hF i h3]
      · rw [if_neg hlt]
        have h3 : (Lib.decDigits u).length ≤ i := by rw [hdl]; rw [hF.size] at hlt; omega
        rw [List.getElem_append_right h3, List.getElem_drop]
        congr 3
        have h4 : Lib.nDigits u + (i - (Lib.decDigits u).length) = i := by omega
        simp only [h4]⟩
    exact ⟨_, h, m, he, ⟨#[], rfl, rfl, trivial⟩, s1, ⟨s2, fun _ => rfl⟩⟩
end Go.AL
namespace Go.AL
open Go Go.Proofs Go.RowKit Go.Shelf
theorem yr {P : Program} (t : TypeId) {d : TypeDesc} [tu : TyU P t d] (w : World) : (isAgg t).run P w = .ok (yJ d) w := xQ tu
theorem yu {P : Program} (t : TypeId) {s b : Nat} {z : Value} [ti : TyI P t s b z] (w : World) : (Go.sizeOf t).run P w = .ok s w := yD ti
theorem yx {P : Program} (t : TypeId) {s b : Nat} {z : Value} [ti : TyI P t s b z] (w : World) : (zeroValue t).run P w = .ok z w := zW ti
def zir : Ren := ⟨fun | 129 => 265 | 171 => 171 | 172 => 263 | 205 => 289 | 243 => 249 | 244 => 291 | 245 => 195 | 246 => 124 | 247 => 194 | 279 => 258 | 280 => 259 | 281 => 260 | 282 => 261 | 283 => 200 | 284 => 201 | 285 => 202 | 286 => 203 | 287 => 257 | 316 => 288 | 317 => 264 | 318 => 266 | 319 => 267 | 320 => 268 | 321 => 286 | 322 => 287 | 337 => 292 | 338 => 293 | x => x, fun | 0 => 0 | 2 => 2 | 3 => 3 | 4 => 4 | 5 => 5 | 9 => 9 | 20 => 20 | 21 => 21 | 37 => 82 | 46 => 148 | 51 => 168 | 53 => 201 | 75 => 128 | 143 => 307 | 145 => 309 | 167 => 269 | 168 => 270 | 210 => 296 | 76 => 156 | 85 => 129 | 127 => 240 | 171 => 227 | 173 => 230 | 175 => 234 | 212 => 276 | 213 => 277 | 232 => 175 | 233 => 311 | 80 => 64 | x => x, fun | 15 => 3 | 16 => 4 | 17 => 2 | 18 => 6 | 19 => 7 | x => x⟩
set_option maxRecDepth 100000 in
theorem vp : LaysC.n172 Tryz.prog zir where
  mixed := by kernel_rfl
  f129 := by kernel_rfl
  f171 := by kernel_rfl
  f172 := by kernel_rfl
  f205 := by kernel_rfl
  f243 := by kernel_rfl
  f244 := by kernel_rfl
  f245 := by kernel_rfl
  f246 := by kernel_rfl
  f247 := by kernel_rfl
  f279 := by kernel_rfl
  f280 := by kernel_rfl
  f281 := by kernel_rfl
  f282 := by kernel_rfl
  f283 := by kernel_rfl
  f284 := by kernel_rfl
  f285 := by kernel_rfl
  f286 := by kernel_rfl
  f287 := by kernel_rfl
  f316 := by kernel_rfl
  f317 := by kernel_rfl
  f318 := by kernel_rfl
  f319 := by kernel_rfl
  f320 := by kernel_rfl
  f321 := by kernel_rfl
  f322 := by kernel_rfl
  f337 := by kernel_rfl
  f338 := by kernel_rfl
  t0 := Tryz.underlying0
  a0 := fun w => yr (P := Tryz.prog) (d := (TypeDesc.tuple #[])) 0 w
  z0 := fun w => yu (P := Tryz.prog) 0 w
  v0 := fun w => yx (P := Tryz.prog) 0 w
  t2 := Tryz.underlying2
  a2 := fun w => yr (P := Tryz.prog) (d := (TypeDesc.int IntKind.i64)) 2 w
  z2 := fun w => yu (P := Tryz.prog) 2 w
  v2 := fun w => yx (P := Tryz.prog) 2 w
  t3 := Tryz.underlying3
  a3 := fun w => yr (P := Tryz.prog) (d := (TypeDesc.int IntKind.i64)) 3 w
  z3 := fun w => yu (P := Tryz.prog) 3 w
  v3 := fun w => yx (P := Tryz.prog) 3 w
  t4 := Tryz.underlying4
  a4 := fun w => yr (P := Tryz.prog) (d := TypeDesc.bool) 4 w
  z4 := fun w => yu (P := Tryz.prog) 4 w
  v4 := fun w => yx (P := Tryz.prog) 4 w
  t5 := Tryz.underlying5
  a5 := fun w => yr (P := Tryz.prog) (d := (TypeDesc.int IntKind.u8)) 5 w
  z5 := fun w => yu (P := Tryz.prog) 5 w
  v5 := fun w => yx (P := Tryz.prog) 5 w
  t9 := Tryz.underlying9
  a9 := fun w => yr (P := Tryz.prog) (d := TypeDesc.string) 9 w
  z9 := fun w => yu (P := Tryz.prog) 9 w
  v9 := fun w => yx (P := Tryz.prog) 9 w
  t20 := Tryz.underlying20
  a20 := fun w => yr (P := Tryz.prog) (d := (TypeDesc.interface #[])) 20 w
  z20 := fun w => yu (P := Tryz.prog) 20 w
  v20 := fun w => yx (P := Tryz.prog) 20 w
  t21 := Tryz.underlying21
  a21 := fun w => yr (P := Tryz.prog) (d := (TypeDesc.int IntKind.i32)) 21 w
  z21 := fun w => yu (P := Tryz.prog) 21 w
  v21 := fun w => yx (P := Tryz.prog) 21 w
  t37 := Tryz.underlying82
  a37 := fun w => yr (P := Tryz.prog) (d := (TypeDesc.slice 5)) 82 w
  z37 := fun w => yu (P := Tryz.prog) 82 w
  v37 := fun w => yx (P := Tryz.prog) 82 w
  t46 := Tryz.underlying148
  a46 := fun w => yr (P := Tryz.prog) (d := (TypeDesc.int IntKind.u64)) 148 w
  z46 := fun w => yu (P := Tryz.prog) 148 w
  v46 := fun w => yx (P := Tryz.prog) 148 w
  t51 := Tryz.underlying168
  a51 := fun w => yr (P := Tryz.prog) (d := (TypeDesc.int IntKind.u32)) 168 w
  z51 := fun w => yu (P := Tryz.prog) 168 w
  v51 := fun w => yx (P := Tryz.prog) 168 w
  t53 := Tryz.underlying201
  a53 := fun w => yr (P := Tryz.prog) (d := (TypeDesc.int IntKind.u64)) 201 w
  z53 := fun w => yu (P := Tryz.prog) 201 w
  v53 := fun w => yx (P := Tryz.prog) 201 w
  t75 := Tryz.underlying128
  a75 := fun w => yr (P := Tryz.prog) (d := (TypeDesc.interface #[("Error", 64)])) 128 w
  z75 := fun w => yu (P := Tryz.prog) 128 w
  v75 := fun w => yx (P := Tryz.prog) 128 w
  t76 := Tryz.underlying156
  a76 := fun w => yr (P := Tryz.prog) (d := (TypeDesc.tuple #[3, 128])) 156 w
  z76 := fun w => yu (P := Tryz.prog) 156 w
  v76 := fun w => yx (P := Tryz.prog) 156 w
  t85 := Tryz.underlying129
  a85 := fun w => yr (P := Tryz.prog) (d := (TypeDesc.tuple #[2, 128])) 129 w
  z85 := fun w => yu (P := Tryz.prog) 129 w
  v85 := fun w => yx (P := Tryz.prog) 129 w
  t127 := Tryz.underlying240
  a127 := fun w => yr (P := Tryz.prog) (d := (TypeDesc.pointer 5)) 240 w
  z127 := fun w => yu (P := Tryz.prog) 240 w
  v127 := fun w => yx (P := Tryz.prog) 240 w
  t143 := Tryz.underlying307
  a143 := fun w => yr (P := Tryz.prog) (d := (TypeDesc.pointer 309)) 307 w
  z143 := fun w => yu (P := Tryz.prog) 307 w
  v143 := fun w => yx (P := Tryz.prog) 307 w
  t145 := Tryz.underlying309
  a145 := fun w => yr (P := Tryz.prog) (d := (TypeDesc.struct #[{ name := "s", type := 9, offset := 0, embedded := false, tag := "", pkgPath := "errors", byteOffset := 0 }])) 309 w
  z145 := fun w => yu (P := Tryz.prog) 309 w
  v145 := fun w => yx (P := Tryz.prog) 309 w
  t167 := Tryz.underlying269
  a167 := fun w => yr (P := Tryz.prog) (d := (TypeDesc.int IntKind.i64)) 269 w
  z167 := fun w => yu (P := Tryz.prog) 269 w
  v167 := fun w => yx (P := Tryz.prog) 269 w
  t168 := Tryz.underlying270
  a168 := fun w => yr (P := Tryz.prog) (d := (TypeDesc.pointer 296)) 270 w
  z168 := fun w => yu (P := Tryz.prog) 270 w
  v168 := fun w => yx (P := Tryz.prog) 270 w
  t171 := Tryz.underlying227
  a171 := fun w => yr (P := Tryz.prog) (d := (TypeDesc.array 24 5)) 227 w
  z171 := fun w => yu (P := Tryz.prog) 227 w
  v171 := fun w => yx (P := Tryz.prog) 227 w
  t173 := Tryz.underlying230
  a173 := fun w => yr (P := Tryz.prog) (d := (TypeDesc.tuple #[82, 9])) 230 w
  z173 := fun w => yu (P := Tryz.prog) 230 w
  v173 := fun w => yx (P := Tryz.prog) 230 w
  t175 := Tryz.underlying234
  a175 := fun w => yr (P := Tryz.prog) (d := (TypeDesc.tuple #[201, 128])) 234 w
  z175 := fun w => yu (P := Tryz.prog) 234 w
  v175 := fun w => yx (P := Tryz.prog) 234 w
  t210 := Tryz.underlying296
  a210 := fun w => yr (P := Tryz.prog) (d := (TypeDesc.struct #[{ name := "Func", type := 9, offset := 0, embedded := false, tag := "", pkgPath := "", byteOffset := 0 }, { name := "Num", type := 9, offset := 1, embedded := false, tag := "", pkgPath := "", byteOffset := 16 }, { name := "Err", type := 128, offset := 2, embedded := false, tag := "", pkgPath := "", byteOffset := 32 }])) 296 w
  z210 := fun w => yu (P := Tryz.prog) 296 w
  v210 := fun w => yx (P := Tryz.prog) 296 w
  t212 := Tryz.underlying276
  a212 := fun w => yr (P := Tryz.prog) (d := (TypeDesc.array 20 201)) 276 w
  z212 := fun w => yu (P := Tryz.prog) 276 w
  v212 := fun w => yx (P := Tryz.prog) 276 w
  t213 := Tryz.underlying277
  a213 := fun w => yr (P := Tryz.prog) (d := (TypeDesc.array 65 5)) 277 w
  z213 := fun w => yu (P := Tryz.prog) 277 w
  t232 := Tryz.underlying175
  a232 := fun w => yr (P := Tryz.prog) (d := (TypeDesc.array 32 5)) 175 w
  z232 := fun w => yu (P := Tryz.prog) 175 w
  v232 := fun w => yx (P := Tryz.prog) 175 w
  t233 := Tryz.underlying311
  a233 := fun w => yr (P := Tryz.prog) (d := (TypeDesc.array 64 5)) 311 w
  z233 := fun w => yu (P := Tryz.prog) 311 w
  v233 := fun w => yx (P := Tryz.prog) 311 w
  g15 := by kernel_rfl
  g16 := by kernel_rfl
  g17 := by kernel_rfl
  g18 := by kernel_rfl
  g19 := by kernel_rfl
  t80 := Tryz.underlying64
  a80 := fun w => yr (P := Tryz.prog) (d := (TypeDesc.func #[] #[9] false)) 64 w
  z80 := fun w => yu (P := Tryz.prog) 64 w
  v80 := fun w => yx (P := Tryz.prog) 64 w
  i0 := by kernel_rfl
  i2 := by kernel_rfl
  i3 := by kernel_rfl
  i4 := by kernel_rfl
  i5 := by kernel_rfl
  i9 := by kernel_rfl
  i20 := by kernel_rfl
  i21 := by kernel_rfl
  i37 := by kernel_rfl
  i46 := by kernel_rfl
  i51 := by kernel_rfl
  i53 := by kernel_rfl
  i75 := by kernel_rfl
  i76 := by kernel_rfl
  i80 := by kernel_rfl
  i85 := by kernel_rfl
  i127 := by kernel_rfl
  i143 := by kernel_rfl
  i145 := by kernel_rfl
  i167 := by kernel_rfl
  i168 := by kernel_rfl
  i171 := by kernel_rfl
  i173 := by kernel_rfl
  i175 := by kernel_rfl
  i210 := by kernel_rfl
  i212 := by kernel_rfl
  i232 := by kernel_rfl
  i233 := by kernel_rfl
  m15 := by kernel_rfl
  m16 := by kernel_rfl
  m17 := by kernel_rfl
  m18 := by kernel_rfl
  m19 := by kernel_rfl
  c0 := by kernel_rfl
  c2 := by kernel_rfl
  c3 := by kernel_rfl
  c4 := by kernel_rfl
  c5 := by kernel_rfl
  c9 := by kernel_rfl
  c20 := by kernel_rfl
  c21 := by kernel_rfl
  c37 := by kernel_rfl
  c46 := by kernel_rfl
  c51 := by kernel_rfl
  c53 := by kernel_rfl
  c75 := by kernel_rfl
  c76 := by kernel_rfl
  c80 := by kernel_rfl
  c85 := by kernel_rfl
  c127 := by kernel_rfl
  c143 := by kernel_rfl
  c145 := by kernel_rfl
  c167 := by kernel_rfl
  c168 := by kernel_rfl
  c171 := by kernel_rfl
  c173 := by kernel_rfl
  c175 := by kernel_rfl
  c210 := by kernel_rfl
  c212 := by kernel_rfl
  c213 := by kernel_rfl
  c232 := by kernel_rfl
  c233 := by kernel_rfl
end Go.AL
namespace Go.AL
open Go Go.RowKit
def wx (a b : Int) : Int := IntKind.u32.wrap ((BitVec.ofInt 32 a ^^^ BitVec.ofInt 32 b).toNat : Int)
def wa (a b : Int) : Int := IntKind.u32.wrap ((BitVec.ofInt 32 a &&& BitVec.ofInt 32 b).toNat : Int)
def wo (a b : Int) : Int := IntKind.u32.wrap ((BitVec.ofInt 32 a ||| BitVec.ofInt 32 b).toNat : Int)
def wn (a : Int) : Int := IntKind.u32.wrap ((BitVec.ofInt 32 4294967295 ^^^ BitVec.ofInt 32 a).toNat : Int)
def wp (a b : Int) : Int := IntKind.u32.wrap (a + b)
def wr (a : Int) (n : Nat) : Int := a / 2 ^ n
def wl (a : Int) (n : Nat) : Int := IntKind.u32.wrap (a * 2 ^ n)
def rr (x : Int) (n : Nat) : Int := wo (wr x n) (wl x (32 - n))
structure H8 where
  a : Int
  b : Int
  c : Int
  d : Int
  e : Int
  f : Int
  g : Int
  h : Int
  deriving DecidableEq
def H8.l (v : H8) : List Int := [v.a, v.b, v.c, v.d, v.e, v.f, v.g, v.h]
def H8.t (v : H8) : List T := [.int .u32 v.a, .int .u32 v.b, .int .u32 v.c, .int .u32 v.d, .int .u32 v.e, .int .u32 v.f, .int .u32 v.g, .int .u32 v.h]
def rnd (k w : Int) (v : H8) : H8 :=
  let t1 := wp (wp (wp (wp v.h (wx (wx (rr v.e 6) (rr v.e 11)) (rr v.e 25))) (wx (wa v.e v.f) (wa (wn v.e) v.g))) k) w
  let t2 := wp (wx (wx (rr v.a 2) (rr v.a 13)) (rr v.a 22)) (wx (wx (wa v.a v.b) (wa v.a v.c)) (wa v.b v.c))
  ⟨wp t1 t2, v.a, v.b, v.c, wp v.d t1, v.e, v.f, v.g⟩
def zkS {α : Type} (f : Nat → α → α) : Nat → Nat → α → α
  | 0, _, a => a
  | c + 1, t, a => zkS f c (t + 1) (f t a)
def zkY : List Int := [
  0x428a2f98, 0x71374491, 0xb5c0fbcf, 0xe9b5dba5, 0x3956c25b, 0x59f111f1, 0x923f82a4, 0xab1c5ed5,
  0xd807aa98, 0x12835b01, 0x243185be, 0x550c7dc3, 0x72be5d74, 0x80deb1fe, 0x9bdc06a7, 0xc19bf174,
  0xe49b69c1, 0xefbe4786, 0x0fc19dc6, 0x240ca1cc, 0x2de92c6f, 0x4a7484aa, 0x5cb0a9dc, 0x76f988da,
  0x983e5152, 0xa831c66d, 0xb00327c8, 0xbf597fc7, 0xc6e00bf3, 0xd5a79147, 0x06ca6351, 0x14292967,
  0x27b70a85, 0x2e1b2138, 0x4d2c6dfc, 0x53380d13, 0x650a7354, 0x766a0abb, 0x81c2c92e, 0x92722c85,
  0xa2bfe8a1, 0xa81a664b, 0xc24b8b70, 0xc76c51a3, 0xd192e819, 0xd6990624, 0xf40e3585, 0x106aa070,
  0x19a4c116, 0x1e376c08, 0x2748774c, 0x34b0bcb5, 0x391c0cb3, 0x4ed8aa4a, 0x5b9cca4f, 0x682e6ff3,
  0x748f82ee, 0x78a5636f, 0x84c87814, 0x8cc70208, 0x90befffa, 0xa4506ceb, 0xbef9a3f7, 0xc67178f2]
def zkT (w : List Int) (v : H8) : H8 := zkS (fun t v => rnd (zkY.getD t 0) (w.getD t 0) v) 64 0 v
def w4 (x : Int) : List UInt8 := xH 4 x.toNat
def H8.out (v : H8) : List UInt8 := w4 v.a ++ w4 v.b ++ w4 v.c ++ w4 v.d ++ w4 v.e ++ w4 v.f ++ w4 v.g ++ w4 v.h
def H8.In (v : H8) : Prop := (0 ≤ v.a ∧ v.a < 4294967296) ∧ (0 ≤ v.b ∧ v.b < 4294967296) ∧ (0 ≤ v.c ∧ v.c < 4294967296) ∧ (0 ≤ v.d ∧ v.d < 4294967296) ∧ (0 ≤ v.e ∧ v.e < 4294967296) ∧ (0 ≤ v.f ∧ v.f < 4294967296) ∧ (0 ≤ v.g ∧ v.g < 4294967296) ∧ (0 ≤ v.h ∧ v.h < 4294967296)
end Go.AL
namespace Go.AL
open Go
section
open Go.RowKit
end
def zk1 (d : Nat) : UInt8 := if d < 10 then UInt8.ofNat (48 + d) else UInt8.ofNat (87 + d)
def zeT : Nat → Nat → List UInt8
  | 0, _ => []
  | k + 1, n => zk1 (n / 16 ^ k % 16) :: zeT k n
end Go.AL
namespace Go.AL
def ziZ (c : Nat) : Nat := c ||| 32
def hv (c : Nat) : Option Nat := if 48 ≤ c ∧ c ≤ 57 then some (c - 48) else if 97 ≤ ziZ c ∧ ziZ c ≤ 102 then some (ziZ c - 87) else none
def pgo (mx : Nat) : List UInt8 → Nat → Except Int Nat
  | [], n => .ok n
  | c :: l, n => match hv c.toNat with
    | none => .error 2
    | some d => if mx < 16 * n + d then .error 1 else pgo mx l (16 * n + d)
theorem zjv (c : Nat) (h : c < 256) : ziZ c < 256 := Nat.or_lt_two_pow (n := 8) h (by omega)
theorem zjN (s : ByteArray) : s.size = s.data.toList.length := by cases s; rfl
theorem zhz (mx : Nat) : ∀ (L : List UInt8) (n : Nat) (k : Int), pgo mx L n = .error k → k = 1 ∨ k = 2
  | [], n, k, h => by simp [pgo] at h
  | c :: L, n, k, h => by
    rw [pgo] at h
    split at h
    · cases h; exact .inr rfl
    · split at h
      · cases h; exact .inl rfl
      · exact zhz mx L _ k h
end Go.AL
namespace Go.AL
open Go
structure Vr where
  p : ByteArray
  mj : Int
  mn : Int
  fm : Int
  sz : Int
def Vr.toT (v : Vr) : T := .agg [.str v.p, .int .i64 v.mj, .int .i64 v.mn, .int .i64 v.fm, .int .i64 v.sz]
def Vr.zero : Vr := ⟨⟨#[]⟩, 0, 0, 0, 0⟩
def zkU (p : ByteArray) : Bool := decide (p.size = 4) && p.data.toList.all (fun b => decide (65 ≤ b.toNat ∧ b.toNat ≤ 90))
def Vr.valid (v : Vr) : Bool := decide (1 ≤ v.fm ∧ v.fm ≤ 3) && zkU v.p && decide (0 ≤ v.mj ∧ v.mj ≤ 15 ∧ 0 ≤ v.mn ∧ v.mn ≤ 15 ∧ 0 ≤ v.sz ∧ v.sz ≤ 16777215)
def zkI (k : Int) : List UInt8 := if k = 1 then [74, 83, 79, 78] else if k = 2 then [67, 66, 79, 82] else if k = 3 then [77, 71, 80, 75] else []
def Vr.txt (v : Vr) : List UInt8 := v.p.data.toList ++ zeT 1 v.mj.toNat ++ zeT 1 v.mn.toNat ++ zkI v.fm ++ zeT 6 v.sz.toNat ++ [95]
end Go.AL
namespace Go.AL
def Vr.text (v : Vr) : ByteArray := if v.valid then ofL v.txt else ⟨#[]⟩
end Go.AL
namespace Go.AL
open Go
end Go.AL
namespace Go.AL
open Go Go.RowKit
def zaV (s t : ByteArray) : Bool := decide (t.size ≤ s.size) && decide (s.extract 0 t.size = t)
def Rs.skip (r : Rs) (t : ByteArray) : Bool × Rs := if zaV r.s t && !r.bad then (true, ⟨r.s.extract t.size r.s.size, false⟩) else (false, r)
def Rs.expect (r : Rs) (t : ByteArray) : Rs := if (r.skip t).1 = true then (r.skip t).2 else ⟨r.s, true⟩
def pu8 (t : ByteArray) : Int × Bool :=
  if t = eS then (0, false) else
    match pgo 255 t.data.toList 0 with
    | .ok n => ((n : Int), true)
    | .error k => (if k = 2 then 0 else 255, false)
def zf4 (l : Int) : Option UInt8 := (zjX.find? fun x => decide ((x.2.toNat : Int) = l)).map (·.1)
def wQ (r : Rs) : Int × Rs :=
  if r.byte.1 = 117 then ((pu8 (r.byte.2.take 4).1).1, if (pu8 (r.byte.2.take 4).1).2 = true then (r.byte.2.take 4).2 else ⟨(r.byte.2.take 4).2.s, true⟩)
  else match zf4 r.byte.1 with
    | some c => ((c.toNat : Int), r.byte.2)
    | none => (0, ⟨r.byte.2.s, true⟩)
def xq : Nat → List UInt8 → Rs → ByteArray × Rs
  | 0, out, r => (eS, r)
  | f + 1, out, r => if r.bad = true then (eS, r)
    else if r.byte.1 = 34 then (ofL out, r.byte.2)
    else if r.byte.1 = 92 then xq f (out ++ [UInt8.ofNat (wQ r.byte.2).1.toNat]) (wQ r.byte.2).2
    else xq f (out ++ [UInt8.ofNat r.byte.1.toNat]) r.byte.2
def qS : ByteArray := ⟨#[34]⟩
def yC (r : Rs) : ByteArray × Rs := xq (r.s.size + 2) [] (r.expect qS)
def xw (b : UInt8) : Bool := decide (b = 45) || (decide (48 ≤ b.toNat) && decide (b.toNat ≤ 57))
def zac (s : ByteArray) : Nat := (s.data.toList.takeWhile xw).length
def x5 (r : Rs) : Int × Rs :=
  match Lib.atoiAll (r.take (zac r.s)).1.data.toList with
  | .ok v => (v, (r.take (zac r.s)).2)
  | .range => (Lib.atoiSat (r.take (zac r.s)).1.data.toList, ⟨(r.take (zac r.s)).2.s, true⟩)
  | _ => (0, ⟨(r.take (zac r.s)).2.s, true⟩)
def vI (first : Bool) (r : Rs) : Rs := if first then r else r.expect ⟨#[44]⟩
def zC (f : Rs → Nd × Rs) (k : Int) (e : ByteArray) : Nat → Bool → List ByteArray → List Nd → Rs → Nd × Rs
  | 0, first, ns, is, r => (.mk k false 0 eS ns is, r)
  | c + 1, first, ns, is, r =>
    if r.bad = true then (.mk k false 0 eS ns is, r)
    else if (r.skip e).1 = true then (.mk k false 0 eS ns is, (r.skip e).2)
    else if k = 5 then zC f k e c false (ns ++ [(yC (vI first r)).1]) (is ++ [(f ((yC (vI first r)).2.expect ⟨#[58]⟩)).1]) (f ((yC (vI first r)).2.expect ⟨#[58]⟩)).2
    else zC f k e c false ns (is ++ [(f (vI first r)).1]) (f (vI first r)).2
def kP : ByteArray := ofL zbO
def zaa : ByteArray := ofL qa
def vK : ByteArray := ofL x4
def zR : Nat → Rs → Nd × Rs
  | 0, r => (Nd.zero, ⟨r.s, true⟩)
  | d + 1, r =>
    if (r.skip kP).1 = true then (Nd.zero, (r.skip kP).2)
    else if (r.skip zaa).1 = true then (.mk 1 true 0 eS [] [], (r.skip zaa).2)
    else if (r.skip vK).1 = true then (.mk 1 false 0 eS [] [], (r.skip vK).2)
    else if (r.skip ⟨#[91]⟩).1 = true then zC (zR d) 4 ⟨#[93]⟩ ((r.skip ⟨#[91]⟩).2.s.size + 2) true [] [] (r.skip ⟨#[91]⟩).2
    else if (r.skip ⟨#[123]⟩).1 = true then zC (zR d) 5 ⟨#[125]⟩ ((r.skip ⟨#[123]⟩).2.s.size + 2) true [] [] (r.skip ⟨#[123]⟩).2
    else if zaV r.s qS = true then (.mk 3 false 0 (yC r).1 [] [], (yC r).2)
    else (.mk 2 false (x5 r).1 eS [] [], (x5 r).2)
theorem xe (t a : List UInt8) : (Rs.mk (ofL (t ++ a)) false).skip (ofL t) = (true, ⟨ofL a, false⟩) := by
  unfold Rs.skip zaV
  simp only [yA, vQ, List.length_append]
  rw [if_pos (by simp)]
  simp
theorem z8 {c d : UInt8} (a t : List UInt8) (h : c ≠ d) : (Rs.mk (ofL (c :: a)) false).skip (ofL (d :: t)) = (false, ⟨ofL (c :: a), false⟩) := by
  unfold Rs.skip zaV
  simp only [yA, vQ]
  rw [if_neg]
  intro hh
  simp only [Bool.and_eq_true, decide_eq_true_eq, List.drop_zero, Nat.sub_zero] at hh
  have h2 := congrArg (fun s => s.data.toList.head?) hh.1.2
  simp only [xK, List.length_cons, List.take_succ_cons, List.head?_cons, Option.some.injEq] at h2
  exact h h2
theorem wO (t a : List UInt8) : (Rs.mk (ofL (t ++ a)) false).expect (ofL t) = ⟨ofL a, false⟩ := by
  unfold Rs.expect
  rw [xe]; simp
theorem zkj (c : UInt8) (h : c.toNat < 32) : pu8 (ofL [48, 48, zcg (c.toNat / 16), zcg (c.toNat % 16)]) = ((c.toNat : Int), true) := by
  have key : ∀ n : Fin 32, pu8 (ofL [48, 48, zcg (n.val / 16), zcg (n.val % 16)]) = ((n.val : Int), true) := by decide +kernel
  exact key ⟨c.toNat, h⟩
theorem zgx {c l : UInt8} (h : zje c = some l) : l.toNat ≠ 117 ∧ zf4 (l.toNat : Int) = some c := by
  have key : ∀ x ∈ zjX, x.2.toNat ≠ 117 ∧ zf4 (x.2.toNat : Int) = some x.1 := by decide
  have hm : ∀ (L : List (UInt8 × UInt8)), L.lookup c = some l → (c, l) ∈ L := by
    intro L
    induction L with
    | nil => simp
    | cons x L ih =>
      obtain ⟨a, b⟩ := x
      intro h
      simp only [List.lookup] at h
      split at h
      · rename_i he
        have : c = a := by simpa using he
        cases h; subst this; simp
      · exact List.mem_cons_of_mem _ (ih h)
  exact key _ (hm _ h)
theorem zhv {c : UInt8} (h : zje c = none) : c ≠ 34 ∧ c ≠ 92 := by
  constructor <;> (rintro rfl; exact absurd h (by decide))
theorem zjh (c : UInt8) : UInt8.ofNat ((c.toNat : Int)).toNat = c := by simp
theorem zce {c l : UInt8} (h : zje c = some l) (a : List UInt8) : wQ ⟨ofL (l :: a), false⟩ = ((c.toNat : Int), ⟨ofL a, false⟩) := by
  obtain ⟨h1, h2⟩ := zgx h
  unfold wQ
  rw [xC]
  simp only
  rw [if_neg (by omega), h2]
theorem zhq {c : UInt8} (h : c.toNat < 32) (a : List UInt8) : wQ ⟨ofL (117 :: 48 :: 48 :: zcg (c.toNat / 16) :: zcg (c.toNat % 16) :: a), false⟩ = ((c.toNat : Int), ⟨ofL a, false⟩) := by
  have ht := wR [48, 48, zcg (c.toNat / 16), zcg (c.toNat % 16)] a
  rw [show (([48, 48, zcg (c.toNat / 16), zcg (c.toNat % 16)] : List UInt8).length : Int) = 4 from rfl] at ht
  unfold wQ
  rw [xC]
  simp only
  rw [if_pos (by decide)]
  rw [show (48 :: 48 :: zcg (c.toNat / 16) :: zcg (c.toNat % 16) :: a) = [48, 48, zcg (c.toNat / 16), zcg (c.toNat % 16)] ++ a from rfl, ht]
  simp only
  rw [zkj c h]
  simp
theorem jD : ∀ (l : List UInt8) (f : Nat) (out t : List UInt8), l.length + 1 ≤ f → xq f out ⟨ofL (xl l ++ 34 :: t), false⟩ = (ofL (out ++ l), ⟨ofL t, false⟩)
  | [], f, out, t, hf => by
    obtain ⟨f, rfl⟩ : ∃ g, f = g + 1 := ⟨f - 1, by simp at hf; omega⟩
    simp only [xl, List.nil_append, xq, xC]
    simp
  | c :: l, f, out, t, hf => by
    obtain ⟨f, rfl⟩ : ∃ g, f = g + 1 := ⟨f - 1, by simp at hf; omega⟩
    have ih := jD l f (out ++ [c]) t (by simp at hf ⊢; omega)
    rw [show out ++ c :: l = out ++ [c] ++ l by simp, ← ih]
    simp only [xl, List.append_assoc]
    rw [xq]
    unfold ziO
    cases hO : zje c with
    | some m =>
      simp only [List.cons_append, List.nil_append, xC, Bool.false_eq_true, if_false]
      rw [if_neg (by decide), if_pos (by decide), zce hO, zjh]
    | none =>
      obtain ⟨n1, n2⟩ := zhv hO
      simp only
      by_cases h32 : c.toNat < 32
      · rw [if_pos h32]
        simp only [List.cons_append, List.nil_append, xC, Bool.false_eq_true, if_false]
        rw [if_neg (by decide), if_pos (by decide), zhq h32, zjh]
      · rw [if_neg h32]
        simp only [List.cons_append, List.nil_append, xC, Bool.false_eq_true, if_false]
        have e1 : ¬ ((c.toNat : Int) = 34) := fun e => n1 (UInt8.toNat_inj.1 (by show c.toNat = 34; omega))
        have e2 : ¬ ((c.toNat : Int) = 92) := fun e => n2 (UInt8.toNat_inj.1 (by show c.toNat = 92; omega))
        rw [if_neg e1, if_neg e2, zjh]
theorem jZ (s : ByteArray) (t : List UInt8) : yC ⟨ofL (jQ s ++ t), false⟩ = (s, ⟨ofL t, false⟩) := by
  unfold yC
  have h1 : (Rs.mk (ofL (jQ s ++ t)) false).expect qS = ⟨ofL (xl s.data.toList ++ 34 :: t), false⟩ := by
    have := wO [34] (xl s.data.toList ++ 34 :: t)
    unfold jQ
    rw [show qS = ofL [34] from rfl]
    simpa using this
  rw [h1, jD _ _ _ _ ?_, List.nil_append, zaK]
  have : ∀ l : List UInt8, l.length ≤ (xl l).length := fun l => by
    induction l with
    | nil => simp
    | cons c l ih => have := zeW c; simp only [xl, List.length_append, List.length_cons]; omega
  have := this s.data.toList
  simp only [yA, jQ, List.length_cons, List.length_append]; omega
end Go.AL
namespace Go.AL
open Go Go.RowKit Go.Lib
theorem zeO (c : UInt8) : ∀ (l : List UInt8) (a u : Nat), parseUint10 a l = .ok u → parseUint10 a (l ++ [c]) = parseUint10 u [c]
  | [], a, u, h => by
    simp only [parseUint10] at h
    injection h with h
    subst h; rfl
  | b :: l, a, u, h => by
    simp only [parseUint10] at h
    simp only [List.cons_append]
    rw [parseUint10]
    split at h
    · rename_i h1
      rw [if_pos h1]
      split at h
      · cases h
      · rename_i h2
        rw [if_neg h2]
        split at h
        · cases h
        · rename_i h3
          rw [if_neg h3]
          exact zeO c l _ u h
    · cases h
theorem zdh (d : Nat) (h : d < 10) : (UInt8.ofNat (48 + d)).toNat = 48 + d := by
  rw [UInt8.toNat_ofNat_of_lt' (by simp only [UInt8.size]; omega)]
theorem zf7 (u d : Nat) (hd : d < 10) (h : u * 10 + d < 18446744073709551616) : parseUint10 u [UInt8.ofNat (48 + d)] = .ok (u * 10 + d) := by
  simp only [parseUint10, zdh d hd]
  rw [if_pos (by omega), if_neg (by omega), if_neg (by omega)]
  congr 1; omega
theorem za3 : ∀ (u : Nat), u < 18446744073709551616 → parseUint10 0 (decDigits u) = .ok u := by
  intro u
  induction u using Nat.strongRecOn with
  | ind u ih =>
    intro hu
    by_cases h : u < 10
    · rw [decDigits, dif_pos h]
      have := zf7 0 u h (by omega)
      simpa using this
    · rw [decDigits, dif_neg h, zeO _ _ _ _ (ih (u / 10) (by omega) (by omega)), zf7 _ _ (by omega) (by omega)]
      congr 1; omega
theorem zdn : ∀ (u : Nat), ∀ c ∈ decDigits u, 48 ≤ c.toNat ∧ c.toNat ≤ 57 := by
  intro u
  induction u using Nat.strongRecOn with
  | ind u ih =>
    intro c hc
    by_cases h : u < 10
    · rw [decDigits, dif_pos h] at hc
      rw [List.mem_singleton.1 hc, zdh u h]; omega
    · rw [decDigits, dif_neg h] at hc
      rcases List.mem_append.1 hc with h1 | h1
      · exact ih (u / 10) (by omega) c h1
      · rw [List.mem_singleton.1 h1, zdh _ (by omega)]; omega
theorem zew (u : Nat) : decDigits u ≠ [] := by
  rw [decDigits]; split <;> simp
theorem zgZ (n : Int) (h0 : -9223372036854775808 ≤ n) (h1 : n ≤ 9223372036854775807) : atoiAll (itoa n) = .ok n := by
  by_cases hn : n < 0
  · have e : itoa n = 45 :: decDigits n.natAbs := by unfold itoa; rw [if_pos hn]
    rw [e]
    have hp : parseMag (decDigits n.natAbs) = .ok n.natAbs := by
      unfold parseMag; rw [if_neg (zew _), za3 _ (by omega)]
    unfold atoiAll
    simp only
    rw [if_pos (.inr (by decide)), hp]
    simp only
    rw [if_neg (by simp), if_neg (by simp; omega), if_pos (by decide)]
    congr 1; omega
  · have e : itoa n = decDigits n.toNat := by unfold itoa; rw [if_neg hn]
    rw [e]
    have hp : parseMag (decDigits n.toNat) = .ok n.toNat := by
      unfold parseMag; rw [if_neg (zew _), za3 _ (by omega)]
    obtain ⟨c, l, hcl⟩ : ∃ c l, decDigits n.toNat = c :: l := by
      cases h : decDigits n.toNat with
      | nil => exact absurd h (zew _)
      | cons c l => exact ⟨c, l, rfl⟩
    have hc := zdn n.toNat c (by rw [hcl]; simp)
    rw [hcl] at hp ⊢
    unfold atoiAll
    simp only
    rw [if_neg (by omega), hp]
    simp only
    rw [if_neg (by omega), if_neg (by omega), if_neg (by omega)]
    congr 1; omega
theorem zeq (n : Int) : ∀ c ∈ itoa n, xw c = true := by
  intro c hc
  have key : ∀ u, ∀ c ∈ decDigits u, xw c = true := fun u c hc => by
    have := zdn u c hc
    unfold xw; simp [this]
  unfold itoa at hc
  split at hc
  · rcases List.mem_cons.1 hc with h | h
    · subst h; rfl
    · exact key _ c h
  · exact key _ c hc
def kn (t : List UInt8) : Prop := ∀ c, t.head? = some c → xw c = false
theorem zbS (l t : List UInt8) (h : ∀ c ∈ l, xw c = true) (ht : kn t) : (l ++ t).takeWhile xw = l := by
  induction l with
  | nil =>
    cases t with
    | nil => rfl
    | cons c t =>
      have := ht c rfl
      simp [List.takeWhile_cons, this]
  | cons c l ih =>
    rw [List.cons_append, List.takeWhile_cons, h c (by simp), if_pos rfl, ih fun c hc => h c (by simp [hc])]
theorem zff (n : Int) (t : List UInt8) (h0 : -9223372036854775808 ≤ n) (h1 : n ≤ 9223372036854775807) (ht : kn t) : x5 ⟨ofL (itoa n ++ t), false⟩ = (n, ⟨ofL t, false⟩) := by
  unfold x5
  have hr : zac (ofL (itoa n ++ t)) = (itoa n).length := by
    unfold zac; rw [xK, zbS _ _ (zeq n) ht]
  simp only [hr, wR, xK, zgZ n h0 h1]
theorem zjy {V : ByteArray → Bool} (x : Nd) (e : Int) (hv : x.validB V e = true) : ∃ c l, x.jb = c :: l ∧ c ≠ 93 ∧ c ≠ 44 := by
  obtain ⟨k, b, n, t, ns, is⟩ := x
  unfold Nd.jb
  split
  · exact ⟨110, _, rfl, by decide, by decide⟩
  split
  · cases b with
    | true => exact ⟨116, _, rfl, by decide, by decide⟩
    | false => exact ⟨102, _, rfl, by decide, by decide⟩
  split
  · have hh : ∀ u : Nat, ∃ c l, decDigits u = c :: l ∧ c ≠ 93 ∧ c ≠ 44 := fun u => by
      cases h : decDigits u with
      | nil => exact absurd h (zew _)
      | cons c l =>
        have := zdn u c (by rw [h]; simp)
        refine ⟨c, l, rfl, ?_, ?_⟩ <;> (rintro rfl; revert this; decide)
    unfold itoa
    split
    · exact ⟨45, _, rfl, by decide, by decide⟩
    · exact hh _
  split
  · exact ⟨34, _, rfl, by decide, by decide⟩
  split
  · exact ⟨91, _, rfl, by decide, by decide⟩
  · exact ⟨123, _, rfl, by decide, by decide⟩
theorem zfW (f : Bool) (xs : List Nd) (c : UInt8) (hc : xw c = false) (t : List UInt8) : kn (Nd.jbs false xs ++ c :: t) := by
  intro d hd
  cases xs with
  | nil =>
    simp only [Nd.jbs, List.nil_append, List.head?_cons, Option.some.injEq] at hd
    subst hd; exact hc
  | cons x xs =>
    simp only [Nd.jbs, Bool.false_eq_true, if_false, List.cons_append, List.nil_append, List.head?_cons, Option.some.injEq] at hd
    subst hd; rfl
theorem zdf (ns : List ByteArray) (xs : List Nd) (c : UInt8) (hc : xw c = false) (t : List UInt8) : kn (Nd.jbm false ns xs ++ c :: t) := by
  intro d hd
  have base : Nd.jbm false ns xs = [] → xw d = false := fun h => by
    rw [h] at hd
    simp only [List.nil_append, List.head?_cons, Option.some.injEq] at hd
    subst hd; exact hc
  cases ns with
  | nil => exact base (by simp [Nd.jbm])
  | cons s ns =>
    cases xs with
    | nil => exact base (by simp [Nd.jbm])
    | cons x xs =>
      simp only [Nd.jbm, Bool.false_eq_true, if_false, List.cons_append, List.nil_append, List.head?_cons, Option.some.injEq] at hd
      subst hd; rfl
theorem zbf {f : Rs → Nd × Rs} {k : Int} {e : ByteArray} {c : Nat} {first : Bool} {ns : List ByteArray} {is : List Nd} {r r' : Rs} (hb : r.bad = false) (h : r.skip e = (true, r')) : zC f k e (c + 1) first ns is r = (.mk k false 0 eS ns is, r') := by
  rw [zC, if_neg (by rw [hb]; decide), if_pos (by rw [h]), h]
theorem zin {f : Rs → Nd × Rs} {k : Int} {e : ByteArray} {c : Nat} {first : Bool} {ns : List ByteArray} {is : List Nd} {r r' : Rs} (hb : r.bad = false) (h : r.skip e = (false, r')) (hk : ¬ k = 5) : zC f k e (c + 1) first ns is r = zC f k e c false ns (is ++ [(f (vI first r)).1]) (f (vI first r)).2 := by
  rw [zC, if_neg (by rw [hb]; decide), if_neg (by rw [h]; simp), if_neg hk]
theorem zit {f : Rs → Nd × Rs} {k : Int} {e : ByteArray} {c : Nat} {first : Bool} {ns : List ByteArray} {is : List Nd} {r r' : Rs} (hb : r.bad = false) (h : r.skip e = (false, r')) (hk : k = 5) : zC f k e (c + 1) first ns is r = zC f k e c false (ns ++ [(yC (vI first r)).1]) (is ++ [(f ((yC (vI first r)).2.expect ⟨#[58]⟩)).1]) (f ((yC (vI first r)).2.expect ⟨#[58]⟩)).2 := by
  rw [zC, if_neg (by rw [hb]; decide), if_neg (by rw [h]; simp), if_pos hk]
theorem ju (f : Rs → Nd × Rs) : ∀ (xs : List Nd) (first : Bool) (ns : List ByteArray) (acc : List Nd) (t : List UInt8) (fu : Nat), xs.length + 1 ≤ fu → (∀ x ∈ xs, (∃ c l, x.jb = c :: l ∧ c ≠ 93 ∧ c ≠ 44) ∧ ∀ t : List UInt8, kn t → f ⟨ofL (x.jb ++ t), false⟩ = (x, ⟨ofL t, false⟩)) →
    zC f 4 ⟨#[93]⟩ fu first ns acc ⟨ofL (Nd.jbs first xs ++ 93 :: t), false⟩ = (.mk 4 false 0 eS ns (acc ++ xs), ⟨ofL t, false⟩)
  | [], first, ns, acc, t, fu, hf, _ => by
    obtain ⟨fu, rfl⟩ : ∃ g, fu = g + 1 := ⟨fu - 1, by simp at hf; omega⟩
    have h := xe [93] t
    have e : (Nd.jbs first [] ++ 93 :: t) = [93] ++ t := by simp [Nd.jbs]
    rw [e, show (⟨#[93]⟩ : ByteArray) = ofL [93] from rfl, zbf rfl h, List.append_nil]
  | x :: xs, first, ns, acc, t, fu, hf, h => by
    obtain ⟨fu, rfl⟩ : ∃ g, fu = g + 1 := ⟨fu - 1, by simp at hf; omega⟩
    obtain ⟨⟨c, l, hcl, hc1, hc2⟩, hx⟩ := h x (by simp)
    have ih := ju f xs false ns (acc ++ [x]) t fu (by simp at hf ⊢; omega) fun y hy => h y (by simp [hy])
    have hx := hx (Nd.jbs false xs ++ 93 :: t) (zfW true xs 93 rfl t)
    have hs : (Rs.mk (ofL (Nd.jbs first (x :: xs) ++ 93 :: t)) false).skip ⟨#[93]⟩ = (false, ⟨ofL (Nd.jbs first (x :: xs) ++ 93 :: t), false⟩) := by
      cases first with
      | true =>
        simp only [Nd.jbs, if_true, List.nil_append, hcl, List.cons_append]
        exact z8 _ [] hc1
      | false =>
        simp only [Nd.jbs, Bool.false_eq_true, if_false, List.cons_append, List.nil_append]
        exact z8 _ [] (by decide)
    have hsep : vI first ⟨ofL (Nd.jbs first (x :: xs) ++ 93 :: t), false⟩ = ⟨ofL (x.jb ++ (Nd.jbs false xs ++ 93 :: t)), false⟩ := by
      unfold vI
      cases first with
      | true => simp [Nd.jbs]
      | false =>
        have := wO [44] (x.jb ++ (Nd.jbs false xs ++ 93 :: t))
        simp only [Nd.jbs, Bool.false_eq_true, if_false, List.append_assoc]
        exact this
    rw [zin rfl hs (by decide), hsep, hx]
    simp only
    rw [ih]; simp
theorem zba (f : Rs → Nd × Rs) : ∀ (ss : List ByteArray) (xs : List Nd) (first : Bool) (ns : List ByteArray) (acc : List Nd) (t : List UInt8) (fu : Nat), ss.length = xs.length → xs.length + 1 ≤ fu → (∀ x ∈ xs, ∀ t : List UInt8, kn t → f ⟨ofL (x.jb ++ t), false⟩ = (x, ⟨ofL t, false⟩)) →
    zC f 5 ⟨#[125]⟩ fu first ns acc ⟨ofL (Nd.jbm first ss xs ++ 125 :: t), false⟩ = (.mk 5 false 0 eS (ns ++ ss) (acc ++ xs), ⟨ofL t, false⟩)
  | [], [], first, ns, acc, t, fu, _, hf, _ => by
    obtain ⟨fu, rfl⟩ : ∃ g, fu = g + 1 := ⟨fu - 1, by simp at hf; omega⟩
    have h := xe [125] t
    have e : (Nd.jbm first [] [] ++ 125 :: t) = [125] ++ t := by simp [Nd.jbm]
    rw [e, show (⟨#[125]⟩ : ByteArray) = ofL [125] from rfl, zbf rfl h, List.append_nil, List.append_nil]
  | s :: ss, x :: xs, first, ns, acc, t, fu, hl, hf, h => by
    obtain ⟨fu, rfl⟩ : ∃ g, fu = g + 1 := ⟨fu - 1, by simp at hf; omega⟩
    have ih := zba f ss xs false (ns ++ [s]) (acc ++ [x]) t fu (by simpa using hl) (by simp at hf ⊢; omega) fun y hy => h y (by simp [hy])
    have hx := h x (by simp) (Nd.jbm false ss xs ++ 125 :: t) (zdf ss xs 125 rfl t)
    have hs : (Rs.mk (ofL (Nd.jbm first (s :: ss) (x :: xs) ++ 125 :: t)) false).skip ⟨#[125]⟩ = (false, ⟨ofL (Nd.jbm first (s :: ss) (x :: xs) ++ 125 :: t), false⟩) := by
      cases first with
      | true =>
        simp only [Nd.jbm, if_true, List.nil_append, jQ, List.cons_append]
        exact z8 _ [] (by decide)
      | false =>
        simp only [Nd.jbm, Bool.false_eq_true, if_false, List.cons_append, List.nil_append]
        exact z8 _ [] (by decide)
    have hsep : vI first ⟨ofL (Nd.jbm first (s :: ss) (x :: xs) ++ 125 :: t), false⟩ = ⟨ofL (jQ s ++ (58 :: (x.jb ++ (Nd.jbm false ss xs ++ 125 :: t)))), false⟩ := by
      unfold vI
      cases first with
      | true => simp [Nd.jbm]
      | false =>
        have := wO [44] (jQ s ++ (58 :: (x.jb ++ (Nd.jbm false ss xs ++ 125 :: t))))
        simp only [Nd.jbm, Bool.false_eq_true, if_false, List.append_assoc, List.cons_append]
        exact this
    have hcol : (Rs.mk (ofL (58 :: (x.jb ++ (Nd.jbm false ss xs ++ 125 :: t)))) false).expect ⟨#[58]⟩ = ⟨ofL (x.jb ++ (Nd.jbm false ss xs ++ 125 :: t)), false⟩ := wO [58] _
    rw [zit rfl hs rfl, hsep, jZ]
    simp only
    rw [hcol, hx]
    simp only
    rw [ih]; simp
  | [], _ :: _, _, _, _, _, _, hl, _, _ => by simp at hl
  | _ :: _, [], _, _, _, _, _, hl, _, _ => by simp at hl
theorem zgm : ∀ (f : Bool) (xs : List Nd), (∀ x ∈ xs, 1 ≤ x.jb.length) → xs.length ≤ (Nd.jbs f xs).length
  | f, [], _ => by simp
  | f, x :: xs, h => by
    have := zgm false xs fun y hy => h y (by simp [hy])
    have := h x (by simp)
    simp only [Nd.jbs, List.length_append, List.length_cons]; omega
theorem zhg : ∀ (f : Bool) (ss : List ByteArray) (xs : List Nd), ss.length = xs.length → xs.length ≤ (Nd.jbm f ss xs).length
  | f, [], [], _ => by simp
  | f, s :: ss, x :: xs, h => by
    have := zhg false ss xs (by simpa using h)
    simp only [Nd.jbm, List.length_append, List.length_cons]; omega
  | _, [], _ :: _, h => by simp at h
  | _, _ :: _, [], h => by simp at h
theorem zgf (c : UInt8) (a : List UInt8) (h : c ≠ 34) : zaV (ofL (c :: a)) qS = false := by
  have := z8 (d := 34) a [] h
  unfold Rs.skip at this
  cases hp : zaV (ofL (c :: a)) qS with
  | false => rfl
  | true =>
    rw [show ofL [34] = qS from rfl] at this
    simp only [hp, Bool.not_false, Bool.and_self, if_true] at this
    exact absurd (congrArg (·.1) this) (by simp)
theorem ze5 (a : List UInt8) : zaV (ofL (34 :: a)) qS = true := by
  have := xe [34] a
  unfold Rs.skip at this
  cases hp : zaV (ofL (34 :: a)) qS with
  | true => rfl
  | false =>
    rw [show ofL [34] = qS from rfl] at this
    simp only [List.cons_append, List.nil_append, hp, Bool.false_and, Bool.false_eq_true, if_false] at this
    exact absurd (congrArg (·.1) this) (by simp)
theorem jK {d : Nat} {c : UInt8} {a : List UInt8} (h1 : c ≠ 110) (h2 : c ≠ 116) (h3 : c ≠ 102) (h4 : c ≠ 91) (h5 : c ≠ 123) : zR (d + 1) ⟨ofL (c :: a), false⟩ =
    if zaV (ofL (c :: a)) qS = true then (.mk 3 false 0 (yC ⟨ofL (c :: a), false⟩).1 [] [], (yC ⟨ofL (c :: a), false⟩).2) else (.mk 2 false (x5 ⟨ofL (c :: a), false⟩).1 eS [] [], (x5 ⟨ofL (c :: a), false⟩).2) := by
  have e1 := z8 (d := 110) a [117, 108, 108] h1
  have e2 := z8 (d := 116) a [114, 117, 101] h2
  have e3 := z8 (d := 102) a [97, 108, 115, 101] h3
  have e4 := z8 (d := 91) a [] h4
  have e5 := z8 (d := 123) a [] h5
  rw [zR]
  rw [show kP = ofL [110, 117, 108, 108] from rfl, show zaa = ofL [116, 114, 117, 101] from rfl, show vK = ofL [102, 97, 108, 115, 101] from rfl, show (⟨#[91]⟩ : ByteArray) = ofL [91] from rfl, show (⟨#[123]⟩ : ByteArray) = ofL [123] from rfl]
  rw [e1, e2, e3, e4, e5]
  simp only [Bool.false_eq_true, if_false]
theorem qW {V : ByteArray → Bool} : ∀ (x : Nd) (d : Nat), x.validB V d = true → x.In → ∀ t : List UInt8, kn t → zR d ⟨ofL (x.jb ++ t), false⟩ = (x, ⟨ofL t, false⟩)
  | .mk k b n t ns is, d, hv, hin, u, hu => by
    rw [yz] at hv
    obtain ⟨h1, h2, h3, h4, h5, h6, h7, h8⟩ := hv
    cases hin with
    | mk i1 i2 i3 =>
    obtain ⟨d, rfl⟩ : ∃ e, d = e + 1 := ⟨d - 1, by omega⟩
    have e8 : (((d + 1 : Nat) : Int) - 1) = (d : Int) := by omega
    rw [e8] at h8
    have fld := h4
    simp only [Nd.fieldsOK, Bool.and_eq_true, Bool.or_eq_true, decide_eq_true_eq, Bool.not_eq_true'] at fld
    have hb : ¬ k = 1 → b = false := fun h => by rcases fld.1.1.1.1 with q | q <;> simp_all
    have hn : ¬ k = 2 → n = 0 := fun h => by rcases fld.1.1.1.2 with q | q <;> simp_all
    have ht : ¬ k = 3 → t = eS := fun h => by
      rcases fld.1.1.2 with q | q
      · exact absurd q h
      · cases t with
        | mk a => simp_all [eS]
    have hns : ¬ k = 5 → ns = [] := fun h => by
      rcases fld.2 with q | q
      · exact absurd q h
      · exact List.eq_nil_of_length_eq_zero (by omega)
    have his : ¬ (k = 4 ∨ k = 5) → is = [] := fun h => by
      rcases fld.1.2 with q | q
      · exact absurd q h
      · exact List.eq_nil_of_length_eq_zero (by omega)
    have hk : k = 0 ∨ k = 1 ∨ k = 2 ∨ k = 3 ∨ k = 4 ∨ k = 5 := by omega
    rcases hk with rfl | rfl | rfl | rfl | rfl | rfl
    · rw [hb (by decide), hn (by decide), ht (by decide), hns (by decide), his (by decide)]
      rw [show (Nd.mk 0 false 0 eS [] []).jb = zbO by simp [Nd.jb], zR, show kP = ofL zbO from rfl, xe]
      rfl
    · rw [hn (by decide), ht (by decide), hns (by decide), his (by decide)]
      cases b with
      | true =>
        rw [show (Nd.mk 1 true 0 eS [] []).jb = qa by simp [Nd.jb], zR, show kP = ofL (110 :: [117, 108, 108]) from rfl, show qa ++ u = 116 :: ([114, 117, 101] ++ u) from rfl, z8 _ _ (by decide)]
        rw [show (116 :: ([114, 117, 101] ++ u) : List UInt8) = qa ++ u from rfl, show zaa = ofL qa from rfl, xe]
        rfl
      | false =>
        rw [show (Nd.mk 1 false 0 eS [] []).jb = x4 by simp [Nd.jb], zR, show kP = ofL (110 :: [117, 108, 108]) from rfl, show zaa = ofL (116 :: [114, 117, 101]) from rfl, show x4 ++ u = 102 :: ([97, 108, 115, 101] ++ u) from rfl, z8 _ _ (by decide), z8 _ _ (by decide)]
        rw [show (102 :: ([97, 108, 115, 101] ++ u) : List UInt8) = x4 ++ u from rfl, show vK = ofL x4 from rfl, xe]
        rfl
    · rw [hb (by decide), ht (by decide), hns (by decide), his (by decide)]
      rw [show (Nd.mk 2 false n eS [] []).jb = itoa n by simp [Nd.jb]]
      have hN := zff n u i1 i2 hu
      obtain ⟨c, l, hc⟩ : ∃ c l, itoa n = c :: l := by
        have := (k8 n i1 i2).1
        cases h : itoa n with
        | nil => rw [h] at this; simp at this
        | cons c l => exact ⟨c, l, rfl⟩
      have hnum := zeq n c (by rw [hc]; simp)
      rw [hc, List.cons_append] at hN ⊢
      have ne : ∀ a : UInt8, xw a = false → c ≠ a := fun a ha e => by subst e; rw [ha] at hnum; cases hnum
      rw [jK (ne _ rfl) (ne _ rfl) (ne _ rfl) (ne _ rfl) (ne _ rfl), zgf c _ (ne _ rfl), hN]
      rfl
    · rw [hb (by decide), hn (by decide), hns (by decide), his (by decide)]
      rw [show (Nd.mk 3 false 0 t [] []).jb = jQ t by simp [Nd.jb]]
      have hT := jZ t u
      have e : jQ t ++ u = 34 :: (xl t.data.toList ++ [34] ++ u) := by simp [jQ]
      rw [e] at hT ⊢
      rw [jK (by decide) (by decide) (by decide) (by decide) (by decide), ze5, hT]
      rfl
    · rw [hb (by decide), hn (by decide), ht (by decide), hns (by decide)]
      have e : (Nd.mk 4 false 0 eS [] is).jb ++ u = 91 :: (Nd.jbs true is ++ 93 :: u) := by simp [Nd.jb]
      rw [e, zR, show kP = ofL (110 :: [117, 108, 108]) from rfl, show zaa = ofL (116 :: [114, 117, 101]) from rfl, show vK = ofL (102 :: [97, 108, 115, 101]) from rfl, z8 _ _ (by decide), z8 _ _ (by decide), z8 _ _ (by decide)]
      rw [show (⟨#[91]⟩ : ByteArray) = ofL [91] from rfl, show (91 :: (Nd.jbs true is ++ 93 :: u)) = [91] ++ (Nd.jbs true is ++ 93 :: u) from rfl, xe]
      simp only [Bool.false_eq_true, if_false, if_true]
      have hj : ∀ x ∈ is, ∃ c l, x.jb = c :: l ∧ c ≠ 93 ∧ c ≠ 44 := fun x hx => zjy x _ (h8 x hx)
      have hl := zgm true is fun x hx => by obtain ⟨c, l, q, _⟩ := hj x hx; rw [q]; simp
      rw [ju (zR d) is true [] [] u _ (by simp only [yA, List.length_append, List.length_cons]; omega) fun x hx => ⟨hj x hx, fun t' ht' => qW x d (h8 x hx) (i3 x hx) t' ht'⟩]
      simp
    · rw [hb (by decide), hn (by decide), ht (by decide)]
      have e : (Nd.mk 5 false 0 eS ns is).jb ++ u = 123 :: (Nd.jbm true ns is ++ 125 :: u) := by simp [Nd.jb]
      have hl5 := (h7 rfl).2
      rw [e, zR, show kP = ofL (110 :: [117, 108, 108]) from rfl, show zaa = ofL (116 :: [114, 117, 101]) from rfl, show vK = ofL (102 :: [97, 108, 115, 101]) from rfl, show (⟨#[91]⟩ : ByteArray) = ofL (91 :: []) from rfl, z8 _ _ (by decide), z8 _ _ (by decide), z8 _ _ (by decide), z8 _ _ (by decide)]
      rw [show (⟨#[123]⟩ : ByteArray) = ofL [123] from rfl, show (123 :: (Nd.jbm true ns is ++ 125 :: u)) = [123] ++ (Nd.jbm true ns is ++ 125 :: u) from rfl, xe]
      simp only [Bool.false_eq_true, if_false, if_true]
      have hl := zhg true ns is hl5
      rw [zba (zR d) ns is true [] [] u _ hl5 (by simp only [yA, List.length_append, List.length_cons]; omega) fun x hx t' ht' => qW x d (h8 x hx) (i3 x hx) t' ht']
      simp
termination_by x => SizeOf.sizeOf x
decreasing_by
  all_goals
    have := List.sizeOf_lt_of_mem hx
    simp only [Nd.mk.sizeOf_spec]
    omega
end Go.AL
namespace Go.AL
open Go Go.RowKit
theorem xo {r : Rs} {t : ByteArray} (h : (r.skip t).1 = true) : r.bad = false ∧ (r.skip t).2.bad = false ∧ (r.skip t).2.s.size + t.size = r.s.size := by
  unfold Rs.skip at h ⊢
  split at h
  · rename_i hc
    rw [if_pos hc]
    simp only [Bool.and_eq_true, Bool.not_eq_true', zaV, decide_eq_true_eq] at hc
    refine ⟨hc.2, rfl, ?_⟩
    have := hc.1.1
    simp only [ByteArray.size_extract]; omega
  · cases h
theorem zb5 {r : Rs} {t : ByteArray} (h : ¬ (r.skip t).1 = true) : (r.skip t).2 = r := by
  unfold Rs.skip at h ⊢
  split
  · rename_i hc; rw [if_pos hc] at h; exact absurd rfl h
  · rfl
theorem va (r : Rs) (t : ByteArray) : (r.skip t).2.s.size ≤ r.s.size := by
  by_cases h : (r.skip t).1 = true
  · have := (xo h).2.2; omega
  · rw [zb5 h]; exact Nat.le_refl _
theorem wZ {r : Rs} {t : ByteArray} (h : (r.expect t).bad = false) : r.bad = false ∧ (r.expect t).s.size + t.size = r.s.size := by
  unfold Rs.expect at h ⊢
  split at h
  · rename_i hc; rw [if_pos hc]; exact ⟨(xo hc).1, (xo hc).2.2⟩
  · cases h
theorem vd (r : Rs) (t : ByteArray) : (r.expect t).s.size ≤ r.s.size := by
  unfold Rs.expect
  split
  · exact va r t
  · exact Nat.le_refl _
theorem ziU (mx : Nat) : ∀ (l : List UInt8) (a n : Nat), a ≤ mx → pgo mx l a = .ok n → n ≤ mx
  | [], a, n, ha, h => by simp only [pgo] at h; cases h; exact ha
  | c :: l, a, n, ha, h => by
    simp only [pgo] at h
    split at h
    · cases h
    · split at h
      · cases h
      · exact ziU mx l _ n (by omega) h
theorem zc9 (t : ByteArray) : 0 ≤ (pu8 t).1 ∧ (pu8 t).1 < 256 := by
  unfold pu8
  split
  · simp
  · split
    · rename_i n h
      have := ziU 255 _ 0 n (by omega) h
      simp only; omega
    · simp only; split <;> omega
theorem zdN (r : Rs) : 0 ≤ (wQ r).1 ∧ (wQ r).1 < 256 := by
  unfold wQ
  split
  · exact zc9 _
  · split
    · rename_i c _; have := c.toNat_lt; simp only; omega
    · simp
theorem zeV (r : Rs) : (wQ r).2.s.size ≤ r.s.size := by
  have h1 := xy r
  have h2 := vS r.byte.2 4
  unfold wQ
  split
  · simp only
    split
    · exact Nat.le_trans h2 h1
    · exact Nat.le_trans h2 h1
  · split
    · exact h1
    · exact h1
theorem zat {r : Rs} (h : (wQ r).2.bad = false) : r.bad = false ∧ (wQ r).2.s.size + 1 ≤ r.s.size := by
  have hb := xy r
  unfold wQ at h ⊢
  split at h
  · rename_i h1
    rw [if_pos h1]
    simp only at h ⊢
    split at h
    · rename_i h2
      rw [if_pos h2]
      have q := xh h
      have q2 := yU q.1
      exact ⟨q2.1, by omega⟩
    · cases h
  · rename_i h1
    rw [if_neg h1]
    split at h
    · rename_i c hc
      have q2 := yU h
      exact ⟨q2.1, by simp only; omega⟩
    · cases h
theorem jq : ∀ (f : Nat) (out : List UInt8) (r : Rs), (xq f out r).2.s.size ≤ r.s.size
  | 0, out, r => Nat.le_refl _
  | f + 1, out, r => by
    have h1 := xy r
    have h2 := zeV r.byte.2
    rw [xq]
    split
    · exact Nat.le_refl _
    split
    · exact h1
    split
    · exact Nat.le_trans (jq f _ _) (Nat.le_trans h2 h1)
    · exact Nat.le_trans (jq f _ _) h1
theorem vO : ∀ (f : Nat) (out : List UInt8) (r : Rs), (xq f out r).2.bad = false → r.bad = false ∧ (xq f out r).2.s.size + (xq f out r).1.size ≤ r.s.size + out.length
  | 0, out, r, h => by
    have h : r.bad = false := h
    exact ⟨h, by show r.s.size + 0 ≤ _; omega⟩
  | f + 1, out, r, h => by
    rw [xq] at h ⊢
    split at h
    · rename_i h1; have h : r.bad = false := h; rw [h1] at h; cases h
    rename_i h1
    rw [if_neg h1]
    have hb : r.bad = false := by simpa using h1
    split at h
    · rename_i h2
      rw [if_pos h2]
      have := yU h
      exact ⟨hb, by simp only [yA]; omega⟩
    rename_i h2
    rw [if_neg h2]
    split at h
    · rename_i h3
      rw [if_pos h3]
      have ih := vO f _ _ h
      have q := zat ih.1
      have q2 := yU q.1
      refine ⟨hb, ?_⟩
      have := ih.2
      simp only [List.length_append, List.length_singleton] at this; omega
    · rename_i h3
      rw [if_neg h3]
      have ih := vO f _ _ h
      have q2 := yU ih.1
      refine ⟨hb, ?_⟩
      have := ih.2
      simp only [List.length_append, List.length_singleton] at this; omega
theorem jl (r : Rs) : (yC r).2.s.size ≤ r.s.size := Nat.le_trans (jq _ _ _) (vd _ _)
theorem j0 {r : Rs} (h : (yC r).2.bad = false) : r.bad = false ∧ (yC r).2.s.size + (yC r).1.size + 1 ≤ r.s.size := by
  have q := vO _ _ _ h
  have q2 := wZ q.1
  refine ⟨q2.1, ?_⟩
  have h1 : qS.size = 1 := rfl
  have := q.2
  simp only [List.length_nil] at this
  show (xq _ _ _).2.s.size + (xq _ _ _).1.size + 1 ≤ _
  omega
theorem zhU (r : Rs) : (x5 r).2.s.size ≤ r.s.size := by
  have := vS r (zac r.s)
  unfold x5
  split <;> exact this
theorem ze4 {r : Rs} (h : (x5 r).2.bad = false) : r.bad = false ∧ (x5 r).2.s.size + 1 ≤ r.s.size ∧ -9223372036854775808 ≤ (x5 r).1 ∧ (x5 r).1 ≤ 9223372036854775807 := by
  unfold x5 at h ⊢
  split at h
  · rename_i v hv
    have q := xh h
    have hb := Lib.atoiAll_bounds hv
    simp only
    refine ⟨q.1, ?_, hb.1, hb.2⟩
    rcases Nat.lt_or_ge 0 (zac r.s) with h0 | h0
    · have := q.2.2.2.2
      simp only [Int.toNat_natCast] at this; omega
    · exfalso
      have e : (r.take (zac r.s)).1 = eS := by
        have := q.2.2.2.1
        simp only [Int.toNat_natCast] at this
        have h2 : (r.take (zac r.s)).1.size = 0 := by omega
        cases hh : (r.take (zac r.s)).1 with
        | mk a =>
          rw [hh] at h2
          have h3 : a.size = 0 := by
            have h4 : (ByteArray.mk a).size = a.size := rfl
            have h5 := q.2.2.2.1
            omega
          have h6 : a = #[] := by simpa using h3
          rw [h6]; rfl
      rw [e] at hv
      cases hv
  · cases h
  · cases h
def zjl (f : Rs → Nd × Rs) : Prop := ∀ r, (f r).2.bad = false → r.bad = false ∧ (f r).1.jb.length + 21 * (f r).2.s.size ≤ 21 * r.s.size ∧ (f r).1.In
theorem zcJ {first : Bool} {r : Rs} (h : (vI first r).bad = false) : r.bad = false ∧ (vI first r).s.size + (if first then 0 else 1) = r.s.size := by
  unfold vI at h ⊢
  cases first with
  | true => exact ⟨h, rfl⟩
  | false => exact wZ h
theorem zgu (first : Bool) (r : Rs) : (vI first r).s.size ≤ r.s.size := by
  unfold vI
  split
  · exact Nat.le_refl _
  · exact vd _ _
theorem kF (f : Rs → Nd × Rs) (hf : zjl f) (e : ByteArray) : ∀ (c : Nat) (first : Bool) (ns : List ByteArray) (is : List Nd) (r : Rs), (first = true → is = []) → (∀ x ∈ is, x.In) → (zC f 4 e c first ns is r).2.bad = false →
    ∃ is', (zC f 4 e c first ns is r).1 = .mk 4 false 0 eS ns is' ∧ r.bad = false ∧ (Nd.jbs true is').length + 21 * (zC f 4 e c first ns is r).2.s.size ≤ (Nd.jbs true is).length + 21 * r.s.size ∧ ∀ x ∈ is', x.In
  | 0, first, ns, is, r, h1, h2, h => ⟨is, rfl, h, Nat.le_refl _, h2⟩
  | c + 1, first, ns, is, r, h1, h2, h => by
    by_cases hb : r.bad = true
    · rw [zC, if_pos hb] at h
      have h : r.bad = false := h
      rw [hb] at h; cases h
    have hb' : r.bad = false := by simpa using hb
    by_cases hs : (r.skip e).1 = true
    · rw [zC, if_neg hb, if_pos hs] at h ⊢
      have := (xo hs).2.2
      exact ⟨is, rfl, hb', by simp only; omega, h2⟩
    rw [zC, if_neg hb, if_neg hs, if_neg (by decide)] at h ⊢
    have hin : ∀ x ∈ is ++ [(f (vI first r)).1], (f (vI first r)).1.In → x.In := fun x hx hi => by
      rcases List.mem_append.1 hx with q | q
      · exact h2 x q
      · rw [List.mem_singleton.1 q]; exact hi
    have key : ∀ (hfi : (f (vI first r)).1.In), _ := fun hfi => kF f hf e c false ns (is ++ [(f (vI first r)).1]) (f (vI first r)).2 (fun h => by cases h) (fun x hx => hin x hx hfi) h
    have hbad : (f (vI first r)).2.bad = false := by
      have mono : ∀ (c : Nat) (first : Bool) (ns : List ByteArray) (is : List Nd) (r : Rs), (zC f 4 e c first ns is r).2.bad = false → r.bad = false := by
        intro c
        induction c with
        | zero => intro first ns is r h; exact h
        | succ c ih =>
          intro first ns is r h
          rw [zC] at h
          split at h
          · exact h
          · rename_i q; simpa using q
      exact mono _ _ _ _ _ h
    obtain ⟨q1, q2, q3⟩ := hf _ hbad
    obtain ⟨is', e1, e2, e3, e4⟩ := key q3
    have hsep := zcJ q1
    refine ⟨is', e1, hb', ?_, e4⟩
    rw [zbR] at e3
    simp only [List.length_append, Bool.true_and] at e3
    have hcom : ((if is.isEmpty then [] else [44] : List UInt8)).length ≤ 21 * (if first then 0 else 1) := by
      cases first with
      | true => rw [h1 rfl]; simp
      | false => split <;> simp
    have := hsep.2
    omega
theorem kH (f : Rs → Nd × Rs) (hf : zjl f) (e : ByteArray) : ∀ (c : Nat) (first : Bool) (ns : List ByteArray) (is : List Nd) (r : Rs), ns.length = is.length → (first = true → is = []) → (∀ x ∈ is, x.In) → (zC f 5 e c first ns is r).2.bad = false →
    ∃ ns' is', (zC f 5 e c first ns is r).1 = .mk 5 false 0 eS ns' is' ∧ r.bad = false ∧ (Nd.jbm true ns' is').length + 21 * (zC f 5 e c first ns is r).2.s.size ≤ (Nd.jbm true ns is).length + 21 * r.s.size ∧ ∀ x ∈ is', x.In
  | 0, first, ns, is, r, hl, h1, h2, h => ⟨ns, is, rfl, h, Nat.le_refl _, h2⟩
  | c + 1, first, ns, is, r, hl, h1, h2, h => by
    by_cases hb : r.bad = true
    · rw [zC, if_pos hb] at h
      have h : r.bad = false := h
      rw [hb] at h; cases h
    have hb' : r.bad = false := by simpa using hb
    by_cases hs : (r.skip e).1 = true
    · rw [zC, if_neg hb, if_pos hs] at h ⊢
      have := (xo hs).2.2
      exact ⟨ns, is, rfl, hb', by simp only; omega, h2⟩
    rw [zC, if_neg hb, if_neg hs, if_pos rfl] at h ⊢
    generalize hT : yC (vI first r) = T at *
    obtain ⟨s, q⟩ := T
    simp only at h ⊢
    generalize hF : f (q.expect ⟨#[58]⟩) = F at *
    obtain ⟨x, p⟩ := F
    simp only at h ⊢
    have mono : ∀ (c : Nat) (first : Bool) (ns : List ByteArray) (is : List Nd) (r : Rs), (zC f 5 e c first ns is r).2.bad = false → r.bad = false := by
      intro c
      induction c with
      | zero => intro first ns is r h; exact h
      | succ c ih =>
        intro first ns is r h
        rw [zC] at h
        split at h
        · exact h
        · rename_i q; simpa using q
    have hbad : p.bad = false := mono _ _ _ _ _ h
    have hf1 := hf (q.expect ⟨#[58]⟩)
    rw [hF] at hf1
    obtain ⟨q1, q2, q3⟩ := hf1 hbad
    have hcol := wZ q1
    have htx := j0 (r := vI first r)
    rw [hT] at htx
    have htx := htx hcol.1
    have hsep := zcJ htx.1
    obtain ⟨ns', is', e1, e2, e3, e4⟩ := kH f hf e c false (ns ++ [s]) (is ++ [x]) p (by simp [hl]) (fun h => by cases h) (fun y hy => by
      rcases List.mem_append.1 hy with q | q
      · exact h2 y q
      · rw [List.mem_singleton.1 q]; exact q3) h
    refine ⟨ns', is', e1, hb', ?_, e4⟩
    rw [zbQ true ns is s x hl] at e3
    simp only [List.length_append, List.length_cons, Bool.true_and] at e3
    have hcom : ((if is.isEmpty then [] else [44] : List UInt8)).length ≤ 21 * (if first then 0 else 1) := by
      cases first with
      | true => rw [h1 rfl]; simp
      | false => split <;> simp
    have hq := (zcS s).2
    have c58 : (⟨#[58]⟩ : ByteArray).size = 1 := rfl
    have h4 := hcol.2
    have h5 := htx.2
    have h6 := hsep.2
    simp only at q2 h5
    omega
theorem xI : ∀ d : Nat, zjl (zR d)
  | 0 => fun r h => by cases h
  | d + 1 => fun r h => by
    rw [zR] at h ⊢
    split at h
    · rename_i h1
      rw [if_pos h1]
      have q := xo h1
      have : kP.size = 4 := rfl
      refine ⟨q.1, ?_, .mk (by decide) (by decide) (by simp)⟩
      show Nd.zero.jb.length + _ ≤ _
      rw [show Nd.zero.jb = zbO by simp [Nd.zero, Nd.jb]]
      simp only [zbO, List.length_cons, List.length_nil]; omega
    rename_i h1
    rw [if_neg h1]
    split at h
    · rename_i h2
      rw [if_pos h2]
      have q := xo h2
      have : zaa.size = 4 := rfl
      refine ⟨q.1, ?_, .mk (by decide) (by decide) (by simp)⟩
      simp only
      rw [show (Nd.mk 1 true 0 eS [] []).jb = qa by simp [Nd.jb]]
      simp only [qa, List.length_cons, List.length_nil]; omega
    rename_i h2
    rw [if_neg h2]
    split at h
    · rename_i h3
      rw [if_pos h3]
      have q := xo h3
      have : vK.size = 5 := rfl
      refine ⟨q.1, ?_, .mk (by decide) (by decide) (by simp)⟩
      simp only
      rw [show (Nd.mk 1 false 0 eS [] []).jb = x4 by simp [Nd.jb]]
      simp only [x4, List.length_cons, List.length_nil]; omega
    rename_i h3
    rw [if_neg h3]
    split at h
    · rename_i h4
      rw [if_pos h4]
      have q := xo h4
      have c1 : (⟨#[91]⟩ : ByteArray).size = 1 := rfl
      obtain ⟨is', e1, e2, e3, e4⟩ := kF (zR d) (xI d) ⟨#[93]⟩ _ true [] [] _ (fun _ => rfl) (by simp) h
      refine ⟨q.1, ?_, ?_⟩
      · rw [e1, show (Nd.mk 4 false 0 eS [] is').jb = 91 :: (Nd.jbs true is' ++ [93]) by simp [Nd.jb]]
        simp only [Nd.jbs, List.length_nil] at e3
        simp only [List.length_cons, List.length_append, List.length_nil]; omega
      · rw [e1]; exact .mk (by decide) (by decide) e4
    rename_i h4
    rw [if_neg h4]
    split at h
    · rename_i h5
      rw [if_pos h5]
      have q := xo h5
      have c1 : (⟨#[123]⟩ : ByteArray).size = 1 := rfl
      obtain ⟨ns', is', e1, e2, e3, e4⟩ := kH (zR d) (xI d) ⟨#[125]⟩ _ true [] [] _ rfl (fun _ => rfl) (by simp) h
      refine ⟨q.1, ?_, ?_⟩
      · rw [e1, show (Nd.mk 5 false 0 eS ns' is').jb = 123 :: (Nd.jbm true ns' is' ++ [125]) by simp [Nd.jb]]
        simp only [Nd.jbm, List.length_nil] at e3
        simp only [List.length_cons, List.length_append, List.length_nil]; omega
      · rw [e1]; exact .mk (by decide) (by decide) e4
    rename_i h5
    rw [if_neg h5]
    split at h
    · rename_i h6
      rw [if_pos h6]
      have q := j0 h
      have hq := (zcS (yC r).1).2
      refine ⟨q.1, ?_, .mk (by decide) (by decide) (by simp)⟩
      simp only
      rw [show (Nd.mk 3 false 0 (yC r).1 [] []).jb = jQ (yC r).1 by simp [Nd.jb]]
      have := q.2; omega
    · rename_i h6
      rw [if_neg h6]
      have q := ze4 h
      have hq := (k8 (x5 r).1 q.2.2.1 q.2.2.2).2
      refine ⟨q.1, ?_, .mk q.2.2.1 q.2.2.2 (by simp)⟩
      simp only
      rw [show (Nd.mk 2 false (x5 r).1 eS [] []).jb = Lib.itoa (x5 r).1 by simp [Nd.jb]]
      have := q.2.1; omega
def jsC : Codec where
  E := Nd.jb
  R s := zR 8 ⟨s, false⟩
  back := fun {V x} hv hin => by
    have := qW x 8 hv hin [] (by simp [kn])
    rw [List.append_nil] at this
    exact this
  good := fun {s} h => (xI 8 ⟨s, false⟩ h).2.2
theorem zg1 (V : ByteArray → Bool) (x : Nd) : ziN V x = zb7 jsC V x := rfl
theorem zj1 {V : ByteArray → Bool} (x : Nd) (h0 : -9223372036854775808 ≤ x.num) (h1 : x.num ≤ 9223372036854775807) : 1 ≤ x.jb.length := by
  cases x with
  | mk k b n t ns is =>
  simp only [Nd.num] at h0 h1
  unfold Nd.jb
  repeat' split
  all_goals first | (simp [zbO, qa, x4, jQ]; done) | exact (k8 n h0 h1).1
theorem ziC {x : Nd} (h : x.In) : -9223372036854775808 ≤ x.num ∧ x.num ≤ 9223372036854775807 := by
  cases h with
  | mk a b c => exact ⟨a, b⟩
theorem zfU (d : Nat) (r : Rs) (h : (zR d r).2.bad = false) : r.bad = false ∧ (zR d r).2.s.size + 1 ≤ r.s.size := by
  obtain ⟨h1, h2, h3⟩ := xI d r h
  have := zj1 (V := fun _ => true) (zR d r).1 (ziC h3).1 (ziC h3).2
  exact ⟨h1, by omega⟩
theorem qj (f : Rs → Nd × Rs) (k : Int) (e : ByteArray) (B : Nat) (hf : ∀ r : Rs, r.s.size ≤ B → (f r).2.s.size ≤ B ∧ (f r).1.Ok) : ∀ (c : Nat) (first : Bool) (ns : List ByteArray) (is : List Nd) (r : Rs), r.s.size ≤ B → ns.length + c ≤ 1000000000 → is.length + c ≤ 1000000000 → (∀ x ∈ is, x.Ok) → (zC f k e c first ns is r).2.s.size ≤ B ∧ (zC f k e c first ns is r).1.Ok
  | 0, first, ns, is, r, hr, h1, h2, h3 => ⟨hr, .mk (by omega) (by omega) h3⟩
  | c + 1, first, ns, is, r, hr, h1, h2, h3 => by
    unfold zC
    have key : ∀ (y : Nd), y.Ok → ∀ x ∈ is ++ [y], x.Ok := fun y hy x hx => by
      rcases List.mem_append.1 hx with h | h
      · exact h3 x h
      · rw [List.mem_singleton.1 h]; exact hy
    split
    · exact ⟨hr, .mk (by omega) (by omega) h3⟩
    split
    · exact ⟨Nat.le_trans (va r e) hr, .mk (by omega) (by omega) h3⟩
    have hs := Nat.le_trans (zgu first r) hr
    split
    · have h := hf ((yC (vI first r)).2.expect ⟨#[58]⟩) (Nat.le_trans (vd _ _) (Nat.le_trans (jl _) hs))
      exact qj f k e B hf c _ _ _ _ h.1 (by simp; omega) (by simp; omega) (key _ h.2)
    · have h := hf (vI first r) hs
      exact qj f k e B hf c _ _ _ _ h.1 (by omega) (by simp; omega) (key _ h.2)
theorem kZ (B : Nat) (hB : B ≤ 500000000) : ∀ (d : Nat) (r : Rs), r.s.size ≤ B → (zR d r).2.s.size ≤ B ∧ (zR d r).1.Ok
  | 0, r, hr => ⟨hr, vR⟩
  | d + 1, r, hr => by
    have hs := fun t => Nat.le_trans (va r t) hr
    rw [zR]
    split
    · exact ⟨hs _, vR⟩
    split
    · exact ⟨hs _, .mk (by simp) (by simp) (by simp)⟩
    split
    · exact ⟨hs _, .mk (by simp) (by simp) (by simp)⟩
    split
    · have := hs ⟨#[91]⟩
      exact qj (zR d) 4 _ B (kZ B hB d) _ _ _ _ _ this (by simp; omega) (by simp; omega) (by simp)
    split
    · have := hs ⟨#[123]⟩
      exact qj (zR d) 5 _ B (kZ B hB d) _ _ _ _ _ this (by simp; omega) (by simp; omega) (by simp)
    split
    · exact ⟨Nat.le_trans (jl r) hr, .mk (by simp) (by simp) (by simp)⟩
    · exact ⟨Nat.le_trans (zhU r) hr, .mk (by simp) (by simp) (by simp)⟩
end Go.AL
namespace Go.AL
open Go Go.Proofs Go.RowKit
structure EOk (oS oR : Obj) : Prop where
  s : w5 oS = true
  r : w5 oR = true
theorem kW {ob : Obj} {h : Heap} {m : zx} {w : World} {S : StL} {b : Nat} {id : Id} (he : w5 ob = true) (hs : Sim h m (StL.get S) w) (hS : StL.get S id = some (.dat (.fix b ob))) : ∃ ev, w.cell? ⟨b, 0, none⟩ = some ev ∧ (ev = .nilIface ∨ ∃ te pe, ev = .iface te pe) := by
  obtain ⟨t, u, h1⟩ := zbp he (zgV hs hS)
  exact ⟨_, h1, .inr ⟨t, u, rfl⟩⟩
theorem Spec.of_belowS {P : Program} {f : FuncId} {args : List AV} {r : AV} {S : StL} (H : ∀ h m (vs : Array Value) w, Sim h m (StL.get S) w → vs.size = args.length → RepAs h m (fun j => vs[j]?) 0 args → Calls P f vs w fun e w' => ∃ v, e = .returned v ∧ (∀ h' m', RepA h' m' v r) ∧ Below w.heap.size w w') : Spec P f args S r S where
  run h m vs w hs hv hr := (H h m vs w hs hv hr).mono fun e w' ⟨v, he, hv', hb⟩ => by
    have := zcq hs hb
    exact ⟨v, h, m, he, hv' h m, this.1, this.2⟩
theorem zki {vs : Array Value} {a b c d e : Value} (hn : vs.size = 5) (h0 : vs[0]? = some a) (h1 : vs[1]? = some b) (h2 : vs[2]? = some c) (h3 : vs[3]? = some d) (h4 : vs[4]? = some e) : vs = #[a, b, c, d, e] := by
  apply Array.ext_getElem?
  intro i
  match i with
  | 0 => simpa using h0
  | 1 => simpa using h1
  | 2 => simpa using h2
  | 3 => simpa using h3
  | 4 => simpa using h4
  | i + 5 => simp [hn]
theorem zdS {oS oR : Obj} (G : EOk oS oR) (f s : ByteArray) (hs : s.size ≤ 281474976710656) (b c : Int) : Spec Tryz.prog 195 [.t (.str f), .t (.str s), .t (.int .i64 b), .t (.int .i64 c), .t (.ifi 269 .i64 2)] [(.par 103, .dat (.fix 3 oS)), (.par 104, .dat (.fix 4 oR))] (.t .iface) [(.par 103, .dat (.fix 3 oS)), (.par 104, .dat (.fix 4 oR))] :=
  Spec.of_belowS fun h m vs w hS hv hr => by
    simp only [RepAs, RepA, RepT, and_true] at hr
    obtain ⟨⟨u0, h0, rfl⟩, ⟨u1, h1, rfl⟩, ⟨u2, h2, rfl⟩, ⟨u3, h3, rfl⟩, u4, h4, rfl⟩ := hr
    obtain rfl := zki hv h0 h1 h2 h3 h4
    obtain ⟨ev, e1, e2⟩ := kW G.s hS (id := .par 103) rfl
    exact (Any.strconv_toError_syntax { vp with } f s b c ev w hs e1 e2).mono fun e w' ⟨N, he, _, _, hb⟩ => ⟨_, he, fun h' m' => by simp [RepA, RepT], hb⟩
theorem zeh {oS oR : Obj} (G : EOk oS oR) (f s : ByteArray) (hs : s.size ≤ 281474976710656) (b c : Int) : Spec Tryz.prog 195 [.t (.str f), .t (.str s), .t (.int .i64 b), .t (.int .i64 c), .t (.ifi 269 .i64 1)] [(.par 103, .dat (.fix 3 oS)), (.par 104, .dat (.fix 4 oR))] (.t .iface) [(.par 103, .dat (.fix 3 oS)), (.par 104, .dat (.fix 4 oR))] :=
  Spec.of_belowS fun h m vs w hS hv hr => by
    simp only [RepAs, RepA, RepT, and_true] at hr
    obtain ⟨⟨u0, h0, rfl⟩, ⟨u1, h1, rfl⟩, ⟨u2, h2, rfl⟩, ⟨u3, h3, rfl⟩, u4, h4, rfl⟩ := hr
    obtain rfl := zki hv h0 h1 h2 h3 h4
    obtain ⟨ev, e1, e2⟩ := kW G.r hS (id := .par 104) rfl
    exact (Any.strconv_toError_range { vp with } f s b c ev w hs e1 e2).mono fun e w' ⟨N, he, _, _, hb⟩ => ⟨_, he, fun h' m' => by simp [RepA, RepT], hb⟩
def eT (ok : Bool) : T := if ok then .nili else .iface
def zd0 (l : List UInt8) : Int × Bool :=
  match Lib.atoiAll l with
  | .ok v => (v, true)
  | .range => (Lib.atoiSat l, false)
  | _ => (0, false)
theorem zf8 {oS oR : Obj} (G : EOk oS oR) (s : ByteArray) (hs : s.size ≤ 281474976710656) : Spec Tryz.prog 263 [.t (.str s)] [(.par 103, .dat (.fix 3 oS)), (.par 104, .dat (.fix 4 oR))] (.tup [.t (.int .i64 (zd0 s.data.toList).1), .t (eT (zd0 s.data.toList).2)]) [(.par 103, .dat (.fix 3 oS)), (.par 104, .dat (.fix 4 oR))] :=
  Spec.of_belowS fun h m vs w hS hv hr => by
    obtain rfl := zdM hv hr (u := .string s) fun v hv => by simpa [RepT] using hv
    obtain ⟨ev, e1, e2⟩ := kW G.s hS (id := .par 103) rfl
    obtain ⟨ev', e1', e2'⟩ := kW G.r hS (id := .par 104) rfl
    unfold zd0
    cases hA : Lib.atoiAll s.data.toList with
    | ok v =>
      refine (Any.strconv_Atoi_ok vp s (by omega) v hA w).mono fun e w' ⟨he, hw⟩ => ⟨_, he, fun h' m' => by simp [RepA, RepAs, RepT, eT], ?_⟩
      rcases hw with rfl | ⟨t, rfl⟩
      · exact Below.refl _ _
      · exact Lib.bytesWorld_below _ _ _
    | range => exact (Any.strconv_Atoi_range vp s hs hA ev' w e1' e2').mono fun e w' ⟨N, he, _, _, hb⟩ => ⟨_, he, fun h' m' => by simp [RepA, RepAs, RepT, eT], hb⟩
    | _ => exact (Any.strconv_Atoi_syntax vp s hs hA ev w e1 e2).mono fun e w' ⟨N, he, _, _, hb⟩ => ⟨_, he, fun h' m' => by simp [RepA, RepAs, RepT, eT], hb⟩
def zgJ (c : Int) : Int := IntKind.u8.wrap ((BitVec.ofInt IntKind.u8.bits c ||| BitVec.ofInt IntKind.u8.bits 32).toNat : Int)
set_option maxHeartbeats 1000000 in
theorem zfB (c : Int) : Spec Tryz.prog 286 [.t (.int .u8 c)] [] (.t (.int .u8 (zgJ c))) [] := by
  refine wI Tryz.func286 ?_
  repeat' (first | refine wC ?_ | refine wK ?_ | fail)
  exact zm (zj rfl rfl rfl) (by simp)
theorem zfR : ∀ c : Fin 256, zgJ (c.val : Int) = ((ziZ c.val : Nat) : Int) := by decide +kernel
def zkM (mx : Nat) (k : Int) : Int := if k = 2 then 0 else mx
def pAV (mx : Nat) : Except Int Nat → AV
  | .ok n => .tup [.t (.int .u64 (n : Int)), .t .nili]
  | .error k => .tup [.t (.int .u64 (zkM mx k)), .t (.ifi 269 .i64 k)]
theorem zgg (mx : Nat) : zkM mx 1 = mx := rfl
theorem zhd (mx : Nat) : zkM mx 2 = 0 := rfl
instance : CmpT Tryz.prog 269 := .of (by kernel_rfl)
set_option maxHeartbeats 8000000 in
theorem jB (s : ByteArray) (hs : s.size ≤ 1000000000) (h0 : s ≠ ⟨#[]⟩) (bits : Int) (mx : Nat) (hb : 1 ≤ bits ∧ bits ≤ 64) (hmx : mx ≤ 4294967295)
    (hm : IntKind.u64.wrap (IntKind.u64.wrap (1 * 2 ^ min bits.toNat IntKind.u64.bits) - 1) = (mx : Int)) :
    Spec Tryz.prog 257 [.t (.str s), .t (.int .i64 16), .t (.int .i64 bits)] [] (pAV mx (pgo mx s.data.toList 0)) [] := by
  have hw : IntKind.u64.wrap bits = bits := yX (by omega) (by omega)
  obtain ⟨R, hR⟩ : ∃ R, R = pgo mx s.data.toList 0 := ⟨_, rfl⟩
  rw [← hR]
  obtain ⟨X, hX⟩ : ∃ X, X = pAV mx R := ⟨_, rfl⟩
  rw [← hX]
  obtain ⟨L, hL⟩ : ∃ L, L = s.data.toList := ⟨_, rfl⟩
  have hLs : s.size = L.length := by rw [hL]; exact zjN s
  rw [← hL] at hR
  refine wI Tryz.func257 ?_
  repeat' (first | refine wC ?_ | (exfalso; omega) | exact absurd ‹_› h0 | refine wK ?_ | ((with_reducible refine zO ?_); refine xB rfl rfl rfl rfl rfl rfl ?_ ?_) | ((with_reducible refine yP ?_); refine za0 rfl rfl rfl rfl rfl rfl ?_ ?_) | refine zh rfl ?_ ?_ <;> intro hc | refine zq rfl ?_ ?_ <;> intro hc)
  all_goals try omega
  rw [show yo s = L.map u8T from by rw [hL]; rfl, ← hL, hw, hm]
  refine zi (za [1, 8, 9, 10, 11, 12, 13, 99, 100, 101] [.loc 99] rfl rfl) ?_
  refine zw (fun p env st => ∃ (j n : Nat), j ≤ L.length ∧ p = L.length - j ∧ n ≤ mx ∧ pgo mx (L.drop j) n = R ∧
      env = EnvL.get [(1, .t (.int .i64 16)), (8, .t (.bool false)), (9, .t (.str s)), (10, .t (.int .u64 1152921504606846976)), (11, .t (.int .u64 (mx : Int))), (12, .t (.bool false)), (13, .t (.int .u64 (n : Int))), (99, .row (.loc 99)), (100, .t (.int .i64 (L.length : Int))), (101, .t (.int .i64 (j : Int)))] ∧ st = StO.get [(.loc 99, some (.slt 5 1 (L.map u8T)))])
    ?_ (n := L.length) ⟨0, 0, by omega, rfl, by omega, hR.symm, rfl, rfl⟩
  rintro p env st ⟨j, n, hj, rfl, hn, hG, rfl, rfl⟩
  by_cases hlt : j < L.length
  · rw [vu L j hlt, pgo] at hG
    obtain ⟨b, hbb⟩ : ∃ b, b = L.getD (j : Int).toNat default := ⟨_, rfl⟩
    rw [show L.getD j default = b from hbb.symm] at hG
    obtain ⟨c, hcc⟩ : ∃ c, c = b.toNat := ⟨_, rfl⟩
    have hc256 : c < 256 := by rw [hcc]; exact b.toNat_lt
    rw [← hcc] at hG
    have hCC : ((L.getD (j : Int).toNat default).toNat : Int) = (c : Int) := by rw [← hbb, hcc]
    have hlow := zfB ((L.getD (j : Int).toNat default).toNat : Int)
    rw [show zgJ ((L.getD (j : Int).toNat default).toNat : Int) = ((ziZ c : Nat) : Int) from by rw [hCC]; exact zfR ⟨c, hc256⟩] at hlow
    have hlw := zjv c hc256
    unfold hv at hG
    generalize ziZ c = lw at *
    have hmul : IntKind.u64.wrap ((n : Int) * IntKind.u64.wrap 16) = ((16 * n : Nat) : Int) := by
      rw [show IntKind.u64.wrap 16 = 16 by decide, yX (by omega) (by omega)]; omega
    have w16 : IntKind.u8.wrap 16 = 16 := by decide
    have wj : IntKind.i64.wrap ((j : Int) + 1) = ((j + 1 : Nat) : Int) := by rw [zy (by omega) (by omega)]; omega
    by_cases hA : 48 ≤ c ∧ c ≤ 57
    · rw [if_pos hA] at hG
      simp only at hG
      obtain ⟨dd, hdd⟩ : ∃ dd, dd = c - 48 := ⟨_, rfl⟩
      rw [← hdd] at hG
      have e1 : IntKind.u8.wrap (((L.getD (j : Int).toNat default).toNat : Int) - 48) = (dd : Int) := by rw [hCC, xx (by omega) (by omega)]; omega
      have eN : IntKind.u64.wrap (IntKind.u64.wrap ((n : Int) * IntKind.u64.wrap 16) + IntKind.u64.wrap (IntKind.u8.wrap (((L.getD (j : Int).toNat default).toNat : Int) - 48))) = ((16 * n + dd : Nat) : Int) := by
        rw [hmul, e1, yX (n := (dd : Int)) (by omega) (by omega), yX (by omega) (by omega)]; omega
      by_cases hov : mx < 16 * n + dd
      · rw [if_pos hov] at hG
        repeat' (first | refine wC ?_ | (exfalso; omega) | refine wK ?_ | ((with_reducible refine kK ?_); refine yv rfl rfl rfl rfl rfl rfl rfl rfl ?_ ?_) | ((with_reducible refine zu ?_); refine zL rfl rfl rfl rfl rfl rfl rfl ?_ ?_ ?_) | ((with_reducible refine yN ?_); refine zcZ rfl rfl rfl rfl rfl ?_) | refine zh rfl ?_ ?_ <;> intro hc | refine zq rfl ?_ ?_ <;> intro hc)
        all_goals try omega
        all_goals try (simp only [List.length_map, Int.toNat_natCast]; omega)
        all_goals exact zm (by rw [hX, ← hG]; simp only [pAV, zgg, zhd]; exact zI rfl rfl rfl rfl rfl) (by simp)
      · rw [if_neg hov] at hG
        repeat' (first | refine wC ?_ | (exfalso; omega) | refine wK ?_ | ((with_reducible refine kK ?_); refine yv rfl rfl rfl rfl rfl rfl rfl rfl ?_ ?_) | ((with_reducible refine zu ?_); refine zL rfl rfl rfl rfl rfl rfl rfl ?_ ?_ ?_) | refine zh rfl ?_ ?_ <;> intro hc | refine zq rfl ?_ ?_ <;> intro hc)
        all_goals try omega
        all_goals try (simp only [List.length_map, Int.toNat_natCast]; omega)
        all_goals exact zM (n' := L.length - (j + 1)) (by omega) (za [1, 8, 9, 10, 11, 12, 13, 99, 100, 101] [.loc 99] rfl rfl) ⟨j + 1, 16 * n + dd, by omega, rfl, by omega, hG, by rw [eN, wj]; rfl, rfl⟩
    · rw [if_neg hA] at hG
      by_cases hB : 97 ≤ lw ∧ lw ≤ 102
      · rw [if_pos hB] at hG
        simp only at hG
        obtain ⟨dd, hdd⟩ : ∃ dd, dd = lw - 87 := ⟨_, rfl⟩
        rw [← hdd] at hG
        have e1 : IntKind.u8.wrap (IntKind.u8.wrap ((lw : Int) - 97) + 10) = (dd : Int) := by rw [xx (n := (lw : Int) - 97) (by omega) (by omega), xx (by omega) (by omega)]; omega
        have eN : IntKind.u64.wrap (IntKind.u64.wrap ((n : Int) * IntKind.u64.wrap 16) + IntKind.u64.wrap (IntKind.u8.wrap (IntKind.u8.wrap ((lw : Int) - 97) + 10))) = ((16 * n + dd : Nat) : Int) := by
          rw [hmul, e1, yX (n := (dd : Int)) (by omega) (by omega), yX (by omega) (by omega)]; omega
        by_cases hov : mx < 16 * n + dd
        · rw [if_pos hov] at hG
          repeat' (first | refine wC ?_ | (exfalso; omega) | refine wK ?_ | ((with_reducible refine kK ?_); refine yv rfl rfl rfl rfl rfl rfl rfl rfl ?_ ?_) | ((with_reducible refine zu ?_); refine zL rfl rfl rfl rfl rfl rfl rfl ?_ ?_ ?_) | ((with_reducible refine ze ?_); refine wL hlow ?_) | ((with_reducible refine yN ?_); refine zcZ rfl rfl rfl rfl rfl ?_) | refine zh rfl ?_ ?_ <;> intro hc | refine zq rfl ?_ ?_ <;> intro hc)
          all_goals try omega
          all_goals try (simp only [List.length_map, Int.toNat_natCast]; omega)
          all_goals exact zm (by rw [hX, ← hG]; simp only [pAV, zgg, zhd]; exact zI rfl rfl rfl rfl rfl) (by simp)
        · rw [if_neg hov] at hG
          repeat' (first | refine wC ?_ | (exfalso; omega) | refine wK ?_ | ((with_reducible refine kK ?_); refine yv rfl rfl rfl rfl rfl rfl rfl rfl ?_ ?_) | ((with_reducible refine zu ?_); refine zL rfl rfl rfl rfl rfl rfl rfl ?_ ?_ ?_) | ((with_reducible refine ze ?_); refine wL hlow ?_) | refine zh rfl ?_ ?_ <;> intro hc | refine zq rfl ?_ ?_ <;> intro hc)
          all_goals try omega
          all_goals try (simp only [List.length_map, Int.toNat_natCast]; omega)
          all_goals exact zM (n' := L.length - (j + 1)) (by omega) (za [1, 8, 9, 10, 11, 12, 13, 99, 100, 101] [.loc 99] rfl rfl) ⟨j + 1, 16 * n + dd, by omega, rfl, by omega, hG, by rw [eN, wj]; rfl, rfl⟩
      · rw [if_neg hB] at hG
        simp only at hG
        by_cases hC : 97 ≤ lw ∧ lw ≤ 122
        · have e1 : IntKind.u8.wrap (IntKind.u8.wrap ((lw : Int) - 97) + 10) = ((lw - 87 : Nat) : Int) := by rw [xx (n := (lw : Int) - 97) (by omega) (by omega), xx (by omega) (by omega)]; omega
          repeat' (first | refine wC ?_ | (exfalso; omega) | refine wK ?_ | ((with_reducible refine kK ?_); refine yv rfl rfl rfl rfl rfl rfl rfl rfl ?_ ?_) | ((with_reducible refine zu ?_); refine zL rfl rfl rfl rfl rfl rfl rfl ?_ ?_ ?_) | ((with_reducible refine ze ?_); refine wL hlow ?_) | ((with_reducible refine yN ?_); refine zcZ rfl rfl rfl rfl rfl ?_) | refine zh rfl ?_ ?_ <;> intro hc | refine zq rfl ?_ ?_ <;> intro hc)
          all_goals try omega
          all_goals try (simp only [List.length_map, Int.toNat_natCast]; omega)
          all_goals exact zm (by rw [hX, ← hG]; simp only [pAV, zgg, zhd]; exact zI rfl rfl rfl rfl rfl) (by simp)
        · repeat' (first | refine wC ?_ | (exfalso; omega) | refine wK ?_ | ((with_reducible refine kK ?_); refine yv rfl rfl rfl rfl rfl rfl rfl rfl ?_ ?_) | ((with_reducible refine zu ?_); refine zL rfl rfl rfl rfl rfl rfl rfl ?_ ?_ ?_) | ((with_reducible refine ze ?_); refine wL hlow ?_) | ((with_reducible refine yN ?_); refine zcZ rfl rfl rfl rfl rfl ?_) | refine zh rfl ?_ ?_ <;> intro hc | refine zq rfl ?_ ?_ <;> intro hc)
          all_goals try omega
          all_goals try (simp only [List.length_map, Int.toNat_natCast]; omega)
          all_goals exact zm (by rw [hX, ← hG]; simp only [pAV, zgg, zhd]; exact zI rfl rfl rfl rfl rfl) (by simp)
  · obtain rfl : j = L.length := by omega
    rw [List.drop_length, pgo] at hG
    repeat' (first | refine wC ?_ | (exfalso; omega) | refine wK ?_ | refine zh rfl ?_ ?_ <;> intro hc)
    all_goals try omega
    all_goals exact zm (by rw [hX, ← hG]; exact qc rfl (AVLE.refl _) (AVLE.refl _)) (by simp)
set_option maxHeartbeats 2000000 in
theorem zaq (bits : Int) : Spec Tryz.prog 257 [.t (.str eS), .t (.int .i64 16), .t (.int .i64 bits)] [] (.tup [.t (.int .u64 0), .t (.ifi 269 .i64 2)]) [] := by
  refine wI Tryz.func257 ?_
  repeat' (first | refine wC ?_ | refine wK ?_ | ((with_reducible refine yN ?_); refine zcZ rfl rfl rfl rfl rfl ?_))
  all_goals exact zm (zI rfl rfl rfl rfl rfl) (by simp)
set_option maxHeartbeats 2000000 in
theorem zai {oS oR : Obj} (G : EOk oS oR) (s : ByteArray) (hs : s.size ≤ 1000000000) :
    Spec Tryz.prog 212 [.t (.str s), .t (.int .i64 16), .t (.int .i64 8)] [(.par 103, .dat (.fix 3 oS)), (.par 104, .dat (.fix 4 oR))] (.tup [.t (.int .u64 (pu8 s).1), .t (eT (pu8 s).2)]) [(.par 103, .dat (.fix 3 oS)), (.par 104, .dat (.fix 4 oR))] := by
  unfold pu8
  have hE2 := zdS G ⟨#[80, 97, 114, 115, 101, 85, 105, 110, 116]⟩ s (by omega) 16 8
  have hE1 := zeh G ⟨#[80, 97, 114, 115, 101, 85, 105, 110, 116]⟩ s (by omega) 16 8
  by_cases h0 : s = eS
  · subst h0
    rw [if_pos rfl]
    have h := zaq 8
    refine wI Tryz.func212 ?_
    repeat' (first | refine wC ?_ | refine wK ?_ | ((with_reducible refine ze ?_); first | refine wL h ?_ | refine wN ((.t .iface)) [] hE2 ?_) | ((with_reducible refine zO ?_); refine yO rfl rfl rfl rfl rfl rfl ?_))
    exact zm (zI rfl rfl rfl rfl rfl) (zc ⟨rfl, rfl, trivial⟩)
  rw [if_neg h0]
  have h := jB s hs h0 8 255 (by omega) (by omega) (by decide)
  have hk := zhz 255 s.data.toList 0
  generalize pgo 255 s.data.toList 0 = R at *
  cases R with
  | ok n =>
    simp only [pAV] at h
    refine wI Tryz.func212 ?_
    repeat' (first | refine wC ?_ | refine wK ?_ | ((with_reducible refine ze ?_); refine wL h ?_) | ((with_reducible refine zO ?_); refine yO rfl rfl rfl rfl rfl rfl ?_))
    exact zm (zI rfl rfl rfl rfl rfl) (zc ⟨rfl, rfl, trivial⟩)
  | error k =>
    simp only [pAV] at h
    rcases hk k rfl with rfl | rfl
    · rw [zgg] at h
      refine wI Tryz.func212 ?_
      repeat' (first | refine wC ?_ | refine wK ?_ | ((with_reducible refine ze ?_); first | refine wL h ?_ | refine wN ((.t .iface)) [] hE1 ?_) | ((with_reducible refine zO ?_); refine yO rfl rfl rfl rfl rfl rfl ?_))
      exact zm (zI rfl rfl rfl rfl rfl) (zc ⟨rfl, rfl, trivial⟩)
    · rw [zhd] at h
      refine wI Tryz.func212 ?_
      repeat' (first | refine wC ?_ | refine wK ?_ | ((with_reducible refine ze ?_); first | refine wL h ?_ | refine wN ((.t .iface)) [] hE2 ?_) | ((with_reducible refine zO ?_); refine yO rfl rfl rfl rfl rfl rfl ?_))
      exact zm (zI rfl rfl rfl rfl rfl) (zc ⟨rfl, rfl, trivial⟩)
structure Enc1 (V : ByteArray → Bool) (x : Nd) : Prop where
  ok : x.Ok
  inn : x.In
  sz : x.validB V 8 = true → x.cb.length ≤ 49999999
set_option maxHeartbeats 2000000 in
theorem vt (s t : ByteArray) : Spec Tryz.prog 215 [.t (.str s), .t (.str t)] [] (.t (.bool (zaV s t))) [] := by
  unfold zaV
  by_cases h : t.size ≤ s.size
  · rw [decide_eq_true h, Bool.true_and]
    refine wI Tryz.func215 ?_
    repeat' (first | refine wC ?_ | (exfalso; omega) | refine wK ?_ | ((with_reducible refine zbm ?_); refine y3 rfl rfl rfl ⟨_, rfl⟩ rfl rfl rfl ?_ ?_ ?_ ?_) | refine zq rfl ?_ ?_ <;> intro hc)
    all_goals try omega
    all_goals exact zm (zj rfl rfl (by simp_all)) (by simp)
  · rw [decide_eq_false h, Bool.false_and]
    refine wI Tryz.func215 ?_
    repeat' (first | refine wC ?_ | (exfalso; omega) | refine wK ?_ | refine zq rfl ?_ ?_ <;> intro hc)
    all_goals try omega
    all_goals exact zm (zj rfl rfl (by simp_all)) (by simp)
set_option maxHeartbeats 2000000 in
theorem zaf (s t : ByteArray) : Spec Tryz.prog 141 [.t (.str s), .t (.str t)] [] (.t (.bool (zaV s t))) [] := by
  have h := vt s t
  refine wI Tryz.func141 ?_
  repeat' (first | refine wC ?_ | refine wK ?_ | ((with_reducible refine ze ?_); refine wL h ?_))
  exact zm (zj rfl rfl rfl) (by simp)
def zkA (s t : ByteArray) : ByteArray := if zaV s t = true then s.extract t.size s.size else s
set_option maxHeartbeats 2000000 in
theorem jV (s t : ByteArray) (hs : s.size ≤ 1000000000) : Spec Tryz.prog 295 [.t (.str s), .t (.str t)] [] (.tup [.t (.str (zkA s t)), .t (.bool (zaV s t))]) [] := by
  have h := vt s t
  unfold zkA
  cases hp : zaV s t with
  | true =>
    rw [hp] at h
    have hsz : t.size ≤ s.size := by
      unfold zaV at hp
      simp only [Bool.and_eq_true, decide_eq_true_eq] at hp
      exact hp.1
    rw [if_pos rfl]
    refine wI Tryz.func295 ?_
    repeat' (first | refine wC ?_ | refine wK ?_ | ((with_reducible refine zbm ?_); refine y3 rfl rfl ⟨_, rfl⟩ rfl rfl rfl rfl ?_ ?_ ?_ ?_) | ((with_reducible refine ze ?_); refine wL h ?_))
    all_goals try omega
    exact zm (zI rfl rfl rfl rfl rfl) (by simp)
  | false =>
    rw [hp] at h
    rw [if_neg (by simp)]
    refine wI Tryz.func295 ?_
    repeat' (first | refine wC ?_ | refine wK ?_ | ((with_reducible refine ze ?_); refine wL h ?_))
    all_goals try omega
    exact zm (zI rfl rfl rfl rfl rfl) (by simp)
set_option maxHeartbeats 2000000 in
theorem zan (s t : ByteArray) (hs : s.size ≤ 1000000000) : Spec Tryz.prog 278 [.t (.str s), .t (.str t)] [] (.tup [.t (.str (zkA s t)), .t (.bool (zaV s t))]) [] := by
  have h := jV s t hs
  refine wI Tryz.func278 ?_
  repeat' (first | refine wC ?_ | refine wK ?_ | ((with_reducible refine ze ?_); refine wL h ?_))
  exact zm (zI rfl rfl rfl rfl rfl) (by simp)
set_option maxHeartbeats 4000000 in
theorem vE (r : Rs) (t : ByteArray) (hs : r.s.size ≤ 1000000000) : Spec Tryz.prog 234 [.ref (.par 0) 0 0 0, .t (.str t)] [(.par 0, r.row 190)] (.t (.bool (r.skip t).1)) [(.par 0, (r.skip t).2.row 190)] := by
  have h := zan r.s t hs
  obtain ⟨s, bad⟩ := r
  simp only at h hs
  unfold Rs.skip zkA Rs.row at *
  simp only
  generalize zaV s t = hp at *
  cases hp <;> cases bad
  all_goals simp only [Bool.not_true, Bool.not_false, Bool.and_true, Bool.and_false, Bool.true_and, Bool.false_and, if_true, Bool.false_eq_true, if_false] at h ⊢
  · refine wI Tryz.func234 ?_
    repeat' (first | refine wC ?_ | refine wK ?_ | ((with_reducible refine ze ?_); refine wL h ?_))
    exact zm (zj rfl rfl rfl) (zc ⟨rfl, trivial⟩)
  · refine wI Tryz.func234 ?_
    repeat' (first | refine wC ?_ | refine wK ?_ | ((with_reducible refine ze ?_); refine wL h ?_))
    exact zm (zj rfl rfl rfl) (zc ⟨rfl, trivial⟩)
  · refine wI Tryz.func234 ?_
    repeat' (first | refine wC ?_ | refine wK ?_ | ((with_reducible refine ze ?_); refine wL h ?_))
    exact zm (zj rfl rfl rfl) (zc ⟨rfl, trivial⟩)
  · refine wI Tryz.func234 ?_
    repeat' (first | refine wC ?_ | refine wK ?_ | ((with_reducible refine ze ?_); refine wL h ?_))
    exact zm (zj rfl rfl rfl) (zc ⟨rfl, trivial⟩)
set_option maxHeartbeats 4000000 in
theorem ve (r : Rs) (t : ByteArray) (hs : r.s.size ≤ 1000000000) : Spec Tryz.prog 279 [.ref (.par 0) 0 0 0, .t (.str t)] [(.par 0, r.row 190)] (.tup []) [(.par 0, (r.expect t).row 190)] := by
  have h := vE r t hs
  unfold Rs.expect
  have hn : ¬ (r.skip t).1 = true → (r.skip t).2 = r := zb5
  generalize r.skip t = q at *
  obtain ⟨b, q, qb⟩ := q
  obtain ⟨s, bad⟩ := r
  unfold Rs.row at *
  simp only at h hn ⊢
  cases b with
  | true =>
    rw [if_pos rfl]
    refine wI Tryz.func279 ?_
    repeat' (first | refine wC ?_ | refine wK ?_ | ((with_reducible refine ze ?_); refine wN (.t (.bool true)) [] h ?_))
    exact zi7 (je rfl) (zc ⟨rfl, trivial⟩)
  | false =>
    have := hn (by simp)
    cases this
    rw [if_neg (by simp)]
    refine wI Tryz.func279 ?_
    repeat' (first | refine wC ?_ | refine wK ?_ | ((with_reducible refine ze ?_); refine wN (.t (.bool false)) [] h ?_))
    exact zi7 (je rfl) (zc ⟨rfl, trivial⟩)
theorem zgK {e : T × T} (he : e ∈ zh2) : ∃ c l : UInt8, e = (.int .u8 (c.toNat : Int), .int .u8 (l.toNat : Int)) ∧ zf4 (l.toNat : Int) = some c := by
  have key : ∀ x ∈ zjX, zf4 (x.2.toNat : Int) = some x.1 := by decide
  obtain ⟨x, hx, rfl⟩ := List.mem_map.1 he
  exact ⟨x.1, x.2, rfl, key x hx⟩
theorem zhW {l : Int} {c : UInt8} (h : zf4 l = some c) : (T.int .u8 (c.toNat : Int), T.int .u8 l) ∈ zh2 := by
  unfold zf4 at h
  rw [Option.map_eq_some_iff] at h
  obtain ⟨x, hx, rfl⟩ := h
  have h1 := List.find?_some hx
  simp only [decide_eq_true_eq] at h1
  refine List.mem_map.2 ⟨x, List.mem_of_find?_eq_some hx, ?_⟩
  rw [h1]
def zke (q : Rs) : Option UInt8 → Int × Rs
  | some c => ((c.toNat : Int), q)
  | none => (0, ⟨q.s, true⟩)
theorem zii (r : Rs) : wQ r = if r.byte.1 = 117 then ((pu8 (r.byte.2.take 4).1).1, if (pu8 (r.byte.2.take 4).1).2 = true then (r.byte.2.take 4).2 else ⟨(r.byte.2.take 4).2.s, true⟩) else zke r.byte.2 (zf4 r.byte.1) := by
  unfold wQ zke
  split
  · rfl
  · cases zf4 r.byte.1 <;> rfl
set_option maxHeartbeats 8000000 in
theorem zcr {oS oR : Obj} (G : EOk oS oR) (r : Rs) (hs : r.s.size ≤ 1000000000) : Spec Tryz.prog 280 [.ref (.par 0) 0 0 0] [(.par 0, r.row 190), (.par 103, .dat (.fix 3 oS)), (.par 104, .dat (.fix 4 oR))] (.t (.int .u8 (wQ r).1)) [(.par 0, (wQ r).2.row 190), (.par 103, .dat (.fix 3 oS)), (.par 104, .dat (.fix 4 oR))] := by
  have hB := wy 190 r hs
  have hbl := xy r
  have hbr := y4 r
  have hE := kv
  rw [zii]
  generalize r.byte = b at *
  obtain ⟨l, q⟩ := b
  simp only at hB hbl hbr ⊢
  have hT := xu 190 q 4 (by omega)
  have hts := jG q 4
  generalize q.take 4 = t at *
  obtain ⟨t, z⟩ := t
  simp only at hT hts ⊢
  have hP := zai G t (by omega)
  have hpr := zc9 t
  generalize pu8 t = n at *
  obtain ⟨n, ok⟩ := n
  simp only at hP hpr ⊢
  have hw : IntKind.u8.wrap n = n := xx (by omega) (by omega)
  obtain ⟨s, bad⟩ := r
  obtain ⟨qs, qb⟩ := q
  obtain ⟨zs, zb⟩ := z
  unfold Rs.row at *
  simp only at hB hT ⊢
  by_cases h117 : l = 117
  · subst h117
    rw [if_pos rfl]
    cases ok with
    | true =>
      unfold eT at hP
      rw [if_pos rfl] at hP ⊢
      refine wI Tryz.func280 ?_
      repeat' (first | refine wC ?_ | refine wK ?_ | ((with_reducible refine ze ?_); first | refine wN (.t (.int .u8 117)) [] hB ?_ | refine wN (.t (.str t)) [] hT ?_ | refine wN ((.tup [.t (.int .u64 n), .t .nili])) [] hP ?_) | ((with_reducible refine zO ?_); refine yO rfl rfl rfl rfl rfl rfl ?_))
      all_goals try omega
      exact zm (zj rfl rfl (congrArg (T.int .u8) hw)) (zc ⟨rfl, rfl, rfl, trivial⟩)
    | false =>
      unfold eT at hP
      rw [if_neg (by simp)] at hP ⊢
      refine wI Tryz.func280 ?_
      repeat' (first | refine wC ?_ | refine wK ?_ | ((with_reducible refine ze ?_); first | refine wN (.t (.int .u8 117)) [] hB ?_ | refine wN (.t (.str t)) [] hT ?_ | refine wN ((.tup [.t (.int .u64 n), .t .iface])) [] hP ?_) | ((with_reducible refine zO ?_); refine yO rfl rfl rfl rfl rfl rfl ?_))
      all_goals try omega
      exact zm (zj rfl rfl (congrArg (T.int .u8) hw)) (zc ⟨rfl, rfl, rfl, trivial⟩)
  · rw [if_neg h117]
    clear hT hP
    obtain ⟨R, hR⟩ : ∃ R, R = zke ⟨qs, qb⟩ (zf4 l) := ⟨_, rfl⟩
    rw [← hR]
    refine wI Tryz.func280 ?_
    repeat' (first | refine wC ?_ | (exfalso; omega) | refine wK ?_ | ((with_reducible refine ze ?_); first | refine wN (.t (.int .u8 l)) [] hB ?_ | refine wN (.row (.loc 900)) [(.res 0, .loc 900)] hE ?_) | ((with_reducible refine zjI ?_); refine zcU rfl rfl rfl rfl rfl rfl rfl ?_) | refine zh rfl ?_ ?_ <;> intro hc)
    refine zi (za [0, 3, 31] [.par 0, .loc 31, .par 103, .par 104] rfl rfl) ?_
    refine zw (fun k env st => ∃ (left : List (T × T)) (last : Option (T × T)), k = left.length ∧ (∀ e ∈ left, e ∈ zh2) ∧ (∀ e ∈ zh2, e.2 = .int .u8 l → e ∈ left) ∧
        env = EnvL.get [(0, .ref (.par 0) 0 0 0), (3, .t (.int .u8 l)), (31, .ref (.loc 31) 0 0 0)] ∧
        st = StO.get [(.par 0, some (.var 190 [.t (.str qs), .t (.bool qb)])), (.loc 31, some (.dat (.miter last left))), (.par 103, some (.dat (.fix 3 oS))), (.par 104, some (.dat (.fix 4 oR)))])
      ?_ (n := 7) ⟨zh2, none, rfl, fun e he => he, fun e he _ => he, rfl, rfl⟩
    rintro k env st ⟨left, last, rfl, hsub, hall, rfl, rfl⟩
    refine zc3 ?_
    refine zap rfl rfl rfl rfl rfl rfl (fun h0 => ?_) (fun k v l1 l2 hl => ?_)
    · have hN : zf4 l = none := by
        cases h : zf4 l with
        | none => rfl
        | some c =>
          have := hall _ (zhW h) rfl
          rw [h0] at this; cases this
      rw [hN, zke] at hR
      repeat' (first | refine wC ?_ | refine wK ?_ | fail)
      rw [hR]
      exact zm (zj rfl rfl rfl) (zc ⟨rfl, rfl, rfl, trivial⟩)
    · obtain ⟨c, x, hkv, hx⟩ := zgK (hsub (k, v) (by rw [hl]; simp))
      cases hkv
      by_cases hxl : (x.toNat : Int) = l
      · rw [← hxl, hx, zke] at hR
        repeat' (first | refine wC ?_ | (exfalso; omega) | refine wK ?_ | ((with_reducible refine zgj ?_); refine zey rfl rfl rfl rfl rfl rfl ?_) | refine zh rfl ?_ ?_ <;> intro hc)
        rw [hR]
        exact zm (zj rfl rfl rfl) (zc ⟨rfl, rfl, rfl, trivial⟩)
      · repeat' (first | refine wC ?_ | (exfalso; omega) | refine wK ?_ | ((with_reducible refine zgj ?_); refine zey rfl rfl rfl rfl rfl rfl ?_) | refine zh rfl ?_ ?_ <;> intro hc)
        exact zM (n' := (l1 ++ l2).length) (by rw [hl]; simp) (za [0, 3, 31] [.par 0, .loc 31, .par 103, .par 104] rfl rfl) ⟨l1 ++ l2, _, rfl, fun e he => hsub e (by rw [hl]; simp at he ⊢; rcases he with h | h <;> simp [h]), fun e he h => by
          have h2 := hall e he h
          rw [hl] at h2
          simp only [List.mem_append, List.mem_cons] at h2 ⊢
          rcases h2 with h3 | rfl | h3
          · exact .inl h3
          · simp only [T.int.injEq, true_and] at h
            exact absurd h hxl
          · exact .inr h3, rfl, rfl⟩
theorem zcB (l : List UInt8) (c : Int) (h0 : 0 ≤ c) (h1 : c < 256) : u8L l ++ [T.int .u8 c] = u8L (l ++ [UInt8.ofNat c.toNat]) := by
  rw [zz]
  congr 1
  show [T.int .u8 c] = [T.int .u8 ((UInt8.ofNat c.toNat).toNat : Int)]
  rw [UInt8.toNat_ofNat', Nat.mod_eq_of_lt (by omega), Int.toNat_of_nonneg h0]
set_option maxHeartbeats 8000000 in
theorem zaH {oS oR : Obj} (G : EOk oS oR) (r : Rs) (hs : r.s.size ≤ 1000000) : Spec Tryz.prog 236 [.ref (.par 0) 0 0 0] [(.par 0, r.row 190), (.par 103, .dat (.fix 3 oS)), (.par 104, .dat (.fix 4 oR))] (.t (.str (yC r).1)) [(.par 0, (yC r).2.row 190), (.par 103, .dat (.fix 3 oS)), (.par 104, .dat (.fix 4 oR))] := by
  have hX := ve r qS (by omega)
  have hXl := vd r qS
  obtain ⟨res, hres⟩ : ∃ res, res = yC r := ⟨_, rfl⟩
  rw [← hres]
  unfold yC at hres
  generalize r.expect qS = q0 at *
  obtain ⟨s, bad⟩ := r
  obtain ⟨q0s, q0b⟩ := q0
  unfold Rs.row at *
  simp only at hX hXl hres hs ⊢
  refine wIG Tryz.func236 ?_
  repeat' (first | refine wC ?_ | refine wK ?_ | ((with_reducible refine ze ?_); refine wN (.tup []) [] hX ?_))
  refine zi (zf1 3 (.loc 1000) 5 1 rfl rfl rfl) ?_
  refine zi (za [0, 3] [.par 0, .loc 1000, .par 103, .par 104] rfl rfl) ?_
  refine zw (fun m env st => ∃ (out : List UInt8) (q : Rs), q.s.size ≤ 1000000 ∧ (q.bad = false → q.s.size + 1 ≤ m) ∧ out.length + m ≤ 1000002 ∧ res = xq m out q ∧
      env = EnvL.get [(0, .ref (.par 0) 0 0 0), (3, .row (.loc 1000))] ∧
      st = StO.get [(.par 0, some (.var 190 [.t (.str q.s), .t (.bool q.bad)])), (.loc 1000, some (.slt 5 1 (u8L out))), (.par 103, some (.dat (.fix 3 oS))), (.par 104, some (.dat (.fix 4 oR)))])
    ?_ (n := s.size + 2) ⟨[], ⟨q0s, q0b⟩, by simp only; omega, fun _ => by simp only; omega, by simp only [List.length_nil]; omega, hres, rfl, rfl⟩
  rintro m env st ⟨out, ⟨qs, qb⟩, hq, hm, hol, hi, rfl, rfl⟩
  simp only at hq hm ⊢
  clear hX hres
  cases qb with
  | true =>
    have hi2 : res = (eS, ⟨qs, true⟩) := by
      rw [hi]
      cases m with
      | zero => rfl
      | succ m => rw [xq, if_pos rfl]
    rw [hi2]
    repeat' (first | refine wC ?_ | refine wK ?_ | fail)
    exact zE (zm (zj rfl rfl rfl) (zc ⟨rfl, rfl, rfl, trivial⟩))
  | false =>
    have hm1 := hm rfl
    obtain ⟨m, rfl⟩ : ∃ k, m = k + 1 := ⟨m - 1, by omega⟩
    rw [xq, if_neg (by simp)] at hi
    have hB := wy 190 ⟨qs, false⟩ (by simp only; omega)
    have hbl := xy ⟨qs, false⟩
    have hbr := y4 ⟨qs, false⟩
    have hbg : (Rs.byte ⟨qs, false⟩).2.bad = false → (Rs.byte ⟨qs, false⟩).2.s.size + 1 = qs.size := fun h => (yU h).2
    generalize Rs.byte ⟨qs, false⟩ = b at *
    obtain ⟨c, z⟩ := b
    simp only at hB hbl hbr hbg hi
    have hE := zcr G z (by omega)
    have hEl := zeV z
    have hEr := zdN z
    have hEg := @zat z
    generalize wQ z = e at *
    obtain ⟨v, y⟩ := e
    obtain ⟨zs, zb⟩ := z
    obtain ⟨ys, yb⟩ := y
    unfold Rs.row at *
    simp only at hB hbl hbr hbg hE hEl hEr hEg hi
    by_cases h34 : c = 34
    · rw [if_pos h34] at hi
      rw [hi]
      repeat' (first | refine wC ?_ | (exfalso; omega) | refine wK ?_ | ((with_reducible refine yP ?_); refine yf rfl rfl rfl rfl rfl rfl ?_ ?_) | ((with_reducible refine ze ?_); refine wN (.t (.int .u8 c)) [] hB ?_) | refine zh rfl ?_ ?_ <;> intro hc)
      all_goals try exact k7 _
      exact zE (zm (zj rfl rfl (congrArg T.str (by rw [kT]))) (zc ⟨rfl, rfl, rfl, trivial⟩))
    rw [if_neg h34] at hi
    by_cases h92 : c = 92
    · rw [if_pos h92] at hi
      repeat' (first | refine wC ?_ | (exfalso; omega) | refine wK ?_ | ((with_reducible refine zo ?_); refine zf rfl rfl rfl rfl rfl rfl rfl rfl rfl rfl ?_ ?_ ?_) | ((with_reducible refine ze ?_); first | refine wN (.t (.int .u8 c)) [] hB ?_ | refine wN (.t (.int .u8 v)) [] hE ?_) | refine zh rfl ?_ ?_ <;> intro hc)
      all_goals try (simp only [zK, List.length_singleton]; omega)
      exact zM (n' := m) (by omega) ((za [0, 3] [.par 0, .loc 32, .par 103, .par 104] rfl rfl).trans (zd (.loc 32) (.loc 1000) rfl rfl rfl rfl)) ⟨out ++ [UInt8.ofNat v.toNat], ⟨ys, yb⟩, by simp only; omega, fun h => by
        have h1 := hEg h
        have h2 := hbg h1.1
        have h3 := h1.2
        simp only at h3 ⊢; omega, by simp only [List.length_append, List.length_singleton]; omega, hi, rfl, by rw [← zcB out v hEr.1 hEr.2]; rfl⟩
    · rw [if_neg h92] at hi
      repeat' (first | refine wC ?_ | (exfalso; omega) | refine wK ?_ | ((with_reducible refine zo ?_); refine zf rfl rfl rfl rfl rfl rfl rfl rfl rfl rfl ?_ ?_ ?_) | ((with_reducible refine ze ?_); refine wN (.t (.int .u8 c)) [] hB ?_) | refine zh rfl ?_ ?_ <;> intro hc)
      all_goals try (simp only [zK, List.length_singleton]; omega)
      exact zM (n' := m) (by omega) ((za [0, 3] [.par 0, .loc 21, .par 103, .par 104] rfl rfl).trans (zd (.loc 21) (.loc 1000) rfl rfl rfl rfl)) ⟨out ++ [UInt8.ofNat c.toNat], ⟨zs, zb⟩, by simp only; omega, fun h => by
        have h2 := hbg h
        simp only at h2 ⊢; omega, by simp only [List.length_append, List.length_singleton]; omega, hi, rfl, by rw [← zcB out c hbr.1 hbr.2]; rfl⟩
theorem zj8 (p : UInt8 → Bool) : ∀ (l : List UInt8) (j : Nat), j < (l.takeWhile p).length → j < l.length ∧ p (l.getD j default) = true
  | [], j, h => by simp at h
  | c :: l, j, h => by
    rw [List.takeWhile_cons] at h
    cases hp : p c with
    | false => rw [hp] at h; simp at h
    | true =>
      rw [hp] at h
      cases j with
      | zero => exact ⟨by simp, by simpa using hp⟩
      | succ j =>
        have := zj8 p l j (by simpa using h)
        exact ⟨by simpa using this.1, by simpa using this.2⟩
theorem ziR (p : UInt8 → Bool) : ∀ (l : List UInt8), (l.takeWhile p).length < l.length → p (l.getD (l.takeWhile p).length default) = false
  | [], h => by simp at h
  | c :: l, h => by
    rw [List.takeWhile_cons] at h ⊢
    cases hp : p c with
    | false => rw [if_neg (by simp)]; simpa using hp
    | true =>
      rw [hp] at h
      rw [if_pos rfl]
      have := ziR p l (by simpa using h)
      simpa using this
theorem zj7 (p : UInt8 → Bool) : ∀ (l : List UInt8), (l.takeWhile p).length ≤ l.length
  | [] => by simp
  | c :: l => by
    rw [List.takeWhile_cons]
    have := zj7 p l
    split <;> simp <;> omega
theorem zbh (b : UInt8) : xw b = true ↔ ((b.toNat : Int) = 45 ∨ (48 ≤ (b.toNat : Int) ∧ (b.toNat : Int) ≤ 57)) := by
  have h : b = 45 ↔ (b.toNat : Int) = 45 := by
    constructor
    · rintro rfl; rfl
    · intro h; exact UInt8.toNat_inj.1 (by show b.toNat = 45; omega)
  unfold xw
  simp only [Bool.or_eq_true, Bool.and_eq_true, decide_eq_true_eq, h]
  omega
theorem zh7 (r : Rs) : x5 r = ((zd0 (r.take (zac r.s)).1.data.toList).1, if (zd0 (r.take (zac r.s)).1.data.toList).2 = true then (r.take (zac r.s)).2 else ⟨(r.take (zac r.s)).2.s, true⟩) := by
  unfold x5 zd0
  cases Lib.atoiAll (r.take (zac r.s)).1.data.toList <;> simp
set_option maxHeartbeats 8000000 in
theorem zgz {oS oR : Obj} (G : EOk oS oR) (r : Rs) (hs : r.s.size ≤ 1000000) : Spec Tryz.prog 237 [.ref (.par 0) 0 0 0] [(.par 0, r.row 190), (.par 103, .dat (.fix 3 oS)), (.par 104, .dat (.fix 4 oR))] (.t (.int .i64 (x5 r).1)) [(.par 0, (x5 r).2.row 190), (.par 103, .dat (.fix 3 oS)), (.par 104, .dat (.fix 4 oR))] := by
  have hT := xu 190 r (zac r.s) (by omega)
  have hts := jG r (zac r.s)
  rw [zh7]
  generalize r.take (zac r.s) = t at *
  obtain ⟨t, z⟩ := t
  simp only at hT hts ⊢
  have hA := zf8 G t (by omega)
  generalize zd0 t.data.toList = n at *
  obtain ⟨n, ok⟩ := n
  obtain ⟨s, bad⟩ := r
  obtain ⟨zs, zb⟩ := z
  unfold Rs.row at *
  simp only at hT hts hA hs ⊢
  have hlen : s.data.toList.length = s.size := by rw [Array.length_toList]; rfl
  have hlt := zj8 xw s.data.toList
  have hend := ziR xw s.data.toList
  have hle := zj7 xw s.data.toList
  rw [show (s.data.toList.takeWhile xw).length = zac s from rfl] at hlt hend hle
  generalize zac s = k at *
  refine wI Tryz.func237 ?_
  repeat' (first | refine wC ?_ | refine wK ?_ | fail)
  refine zi (za [0, 3] [.par 0, .par 103, .par 104] rfl rfl) ?_
  refine zw (fun p env st => ∃ (j : Nat), j ≤ k ∧ p = k - j ∧
      env = EnvL.get [(0, .ref (.par 0) 0 0 0), (3, .t (.int .i64 (j : Int)))] ∧
      st = StO.get [(.par 0, some (.var 190 [.t (.str s), .t (.bool bad)])), (.par 103, some (.dat (.fix 3 oS))), (.par 104, some (.dat (.fix 4 oR)))])
    ?_ (n := k) ⟨0, by omega, rfl, rfl, rfl⟩
  rintro p env st ⟨j, hj, rfl, rfl, rfl⟩
  have hbt : bAt s (j : Int) = ((s.data.toList.getD j default).toNat : Int) := rfl
  by_cases hlk : j < k
  · have hc := hlt j hlk
    have hb := (zbh _).1 hc.2
    rw [← hbt] at hb
    have hjs : j < s.size := by rw [← hlen]; exact hc.1
    clear hlt hend hT hA hc
    have wj : IntKind.i64.wrap ((j : Int) + 1) = ((j + 1 : Nat) : Int) := by rw [zy (by omega) (by omega)]; omega
    repeat' (first | refine wC ?_ | (exfalso; omega) | refine wK ?_ | ((with_reducible refine xM ?_); refine zZ rfl rfl rfl rfl rfl rfl ?_ ?_ ?_) | refine zh rfl ?_ ?_ <;> intro hc | refine zq rfl ?_ ?_ <;> intro hc)
    all_goals try omega
    all_goals exact zM (n' := k - (j + 1)) (by omega) (za [0, 3] [.par 0, .par 103, .par 104] rfl rfl) ⟨j + 1, by omega, rfl, by rw [wj]; rfl, rfl⟩
  · obtain rfl : j = k := by omega
    have hb : (j : Int) < s.size → ¬ (bAt s (j : Int) = 45 ∨ (48 ≤ bAt s (j : Int) ∧ bAt s (j : Int) ≤ 57)) := fun h h2 => by
      have := hend (by omega)
      rw [hbt] at h2
      rw [(zbh _).2 h2] at this
      cases this
    clear hlt hend
    cases ok with
    | true =>
      unfold eT at hA
      rw [if_pos rfl] at hA ⊢
      repeat' (first | refine wC ?_ | (exfalso; omega) | refine wK ?_ | ((with_reducible refine xM ?_); refine zZ rfl rfl rfl rfl rfl rfl ?_ ?_ ?_) | ((with_reducible refine ze ?_); first | refine wN (.t (.str t)) [] hT ?_ | refine wN ((.tup [.t (.int .i64 n), .t .nili])) [] hA ?_) | ((with_reducible refine zO ?_); refine yO rfl rfl rfl rfl rfl rfl ?_) | refine zh rfl ?_ ?_ <;> intro hc | refine zq rfl ?_ ?_ <;> intro hc)
      all_goals try omega
      all_goals exact zm (zj rfl rfl rfl) (zc ⟨rfl, rfl, rfl, trivial⟩)
    | false =>
      unfold eT at hA
      rw [if_neg (by simp)] at hA ⊢
      repeat' (first | refine wC ?_ | (exfalso; omega) | refine wK ?_ | ((with_reducible refine xM ?_); refine zZ rfl rfl rfl rfl rfl rfl ?_ ?_ ?_) | ((with_reducible refine ze ?_); first | refine wN (.t (.str t)) [] hT ?_ | refine wN ((.tup [.t (.int .i64 n), .t .iface])) [] hA ?_) | ((with_reducible refine zO ?_); refine yO rfl rfl rfl rfl rfl rfl ?_) | refine zh rfl ?_ ?_ <;> intro hc | refine zq rfl ?_ ?_ <;> intro hc)
      all_goals try omega
      all_goals exact zm (zj rfl rfl rfl) (zc ⟨rfl, rfl, rfl, trivial⟩)
theorem zd1 (f : Rs → Nd × Rs) (k : Int) (e : ByteArray) (c : Nat) (first : Bool) (ns : List ByteArray) (is : List Nd) (s : ByteArray) : zC f k e c first ns is ⟨s, true⟩ = (.mk k false 0 eS ns is, ⟨s, true⟩) := by
  cases c with
  | zero => rfl
  | succ c => rw [zC, if_pos rfl]
set_option maxHeartbeats 16000000 in
theorem j7 {oS oR : Obj} (G : EOk oS oR) (d : Nat) (hd : d ≤ 1000) (B : Nat) (hB : B ≤ 1000000)
    (IH : ∀ q : Rs, q.s.size ≤ B → Spec Tryz.prog 165 [.ref (.par 0) 0 0 0, .t (.int .i64 (d : Int))] [(.par 0, q.row 190), (.par 103, .dat (.fix 3 oS)), (.par 104, .dat (.fix 4 oR))] (.t (zR d q).1.toT) [(.par 0, (zR d q).2.row 190), (.par 103, .dat (.fix 3 oS)), (.par 104, .dat (.fix 4 oR))])
    (k : Int) (hk : k = 4 ∨ k = 5) (e : ByteArray) (r : Rs) (hr : r.s.size ≤ B) :
    Spec Tryz.prog 235 [.ref (.par 0) 0 0 0, .t (.agg [.int .i64 k, .bool false, .int .i64 0, .str ⟨#[]⟩, .nilsl, .nilsl]), .t (.str e), .t (.int .i64 ((d + 1 : Nat) : Int))] [(.par 0, r.row 190), (.par 103, .dat (.fix 3 oS)), (.par 104, .dat (.fix 4 oR))] (.t (zC (zR d) k e (r.s.size + 2) true [] [] r).1.toT) [(.par 0, (zC (zR d) k e (r.s.size + 2) true [] [] r).2.row 190), (.par 103, .dat (.fix 3 oS)), (.par 104, .dat (.fix 4 oR))] := by
  generalize hres : zC (zR d) k e (r.s.size + 2) true [] [] r = res
  have hNB := kZ B (by omega) d
  have hLs := zfU d
  generalize zR d = f at *
  unfold Rs.row
  refine wIG Tryz.func235 ?_
  repeat' (first | refine wC ?_ | refine wK ?_ | fail)
  refine zi (zJ (r := .loc 5) 5 (.loc 900) 30 6 rfl rfl rfl rfl rfl) ?_
  refine zi (zJ (r := .loc 5) 4 (.loc 901) 9 1 rfl rfl rfl rfl rfl) ?_
  refine zi (za [0, 2, 3, 5, 8, 9] [.par 0, .loc 5, .loc 8, .loc 900, .loc 901, .par 103, .par 104] rfl rfl) ?_
  refine zw (fun m env st => ∃ (first : Bool) (ns : List ByteArray) (is : List Nd) (q : Rs), m ≤ 1000002 ∧ ns.length + m ≤ 1000002 ∧ is.length + m ≤ 1000002 ∧ q.s.size ≤ B ∧ (q.bad = false → q.s.size + 1 ≤ m) ∧ zC f k e m first ns is q = res ∧
      env = EnvL.get [(0, .ref (.par 0) 0 0 0), (2, .t (.str e)), (3, .t (.int .i64 ((d + 1 : Nat) : Int))), (5, .ref (.loc 5) 0 0 0), (8, .ref (.loc 8) 0 0 0), (9, .t (.bool first))] ∧
      st = StO.get [(.par 0, some (.var 190 [.t (.str q.s), .t (.bool q.bad)])), (.loc 5, some (.var 30 [.t (.int .i64 k), .t (.bool false), .t (.int .i64 0), .t (.str ⟨#[]⟩), .row (.loc 901), .row (.loc 900)])), (.loc 8, some (.var 30 [.t (.int .i64 0), .t (.bool false), .t (.int .i64 0), .t (.str ⟨#[]⟩), .t .nilsl, .t .nilsl])), (.loc 900, some (.slt 30 6 (is.map Nd.toT))), (.loc 901, some (.slt 9 1 (ns.map .str))), (.par 103, some (.dat (.fix 3 oS))), (.par 104, some (.dat (.fix 4 oR)))])
    ?_ (n := r.s.size + 2) ⟨true, [], [], r, by omega, by simp; omega, by simp; omega, hr, fun _ => by omega, hres, rfl, rfl⟩
  rintro m env st ⟨first, ns, is, ⟨qs, qb⟩, hm, hns, his, hq, hfu, hi, rfl, rfl⟩
  have hN : ∀ (v : Int) (q : Rs), v = (d : Int) → q.s.size ≤ B → Spec Tryz.prog 165 [.ref (.par 0) 0 0 0, .t (.int .i64 v)] [(.par 0, .var 190 [.t (.str q.s), .t (.bool q.bad)]), (.par 103, .dat (.fix 3 oS)), (.par 104, .dat (.fix 4 oR))] (.t (f q).1.toT) [(.par 0, .var 190 [.t (.str (f q).2.s), .t (.bool (f q).2.bad)]), (.par 103, .dat (.fix 3 oS)), (.par 104, .dat (.fix 4 oR))] := fun v q hv hq => by subst hv; exact IH q hq
  clear hres IH hr
  simp only at hq hfu ⊢
  cases qb with
  | true =>
    rw [zd1] at hi
    repeat' (first | refine wC ?_ | refine wK ?_ | fail)
    all_goals try (exfalso; omega)
    rw [← hi]
    simp only
    rw [Nd.toT_eq]
    refine zk (za [8] [.par 0, .loc 8, .loc 900, .loc 901, .par 103, .par 104] rfl rfl) ?_
    refine zk (zv (id := .loc 900) rfl rfl rfl) ?_; refine zk (zv (id := .loc 901) rfl rfl rfl) ?_
    exact wB
  | false =>
    have hm1 := hfu rfl
    obtain ⟨m, rfl⟩ : ∃ k, m = k + 1 := ⟨m - 1, by omega⟩
    have hS := vE ⟨qs, false⟩ e (by simp only; omega)
    have hSn := @zb5 ⟨qs, false⟩ e
    rw [zC, if_neg (by simp)] at hi
    generalize Rs.skip ⟨qs, false⟩ e = S at hS hSn hi
    obtain ⟨sb, ⟨ss, sbad⟩⟩ := S
    unfold Rs.row at hS
    simp only at hS hSn hi
    cases sb with
    | true =>
      rw [if_pos rfl] at hi
      repeat' (first | refine wC ?_ | refine wK ?_ | ((with_reducible refine ze ?_); refine wN (.t (.bool true)) [] hS ?_))
      all_goals try (exfalso; omega)
      rw [← hi]
      simp only
      rw [Nd.toT_eq]
      refine zk (za [8] [.par 0, .loc 8, .loc 900, .loc 901, .par 103, .par 104] rfl rfl) ?_
      refine zk (zv (id := .loc 900) rfl rfl rfl) ?_; refine zk (zv (id := .loc 901) rfl rfl rfl) ?_
      exact wB
    | false =>
      have := hSn (by simp)
      cases this
      clear hSn
      rw [if_neg (by simp)] at hi
      have hJl := zgu first ⟨qs, false⟩
      have hJ : first = false → Spec Tryz.prog 279 [.ref (.par 0) 0 0 0, .t (.str ⟨#[44]⟩)] [(.par 0, .var 190 [.t (.str qs), .t (.bool false)])] (.tup []) [(.par 0, .var 190 [.t (.str (vI first ⟨qs, false⟩).s), .t (.bool (vI first ⟨qs, false⟩).bad)])] := fun h => by
        subst h
        exact ve ⟨qs, false⟩ ⟨#[44]⟩ (by simp only; omega)
      have hJt : first = true → vI first ⟨qs, false⟩ = ⟨qs, false⟩ := fun h => by subst h; rfl
      generalize vI first ⟨qs, false⟩ = J at *
      obtain ⟨js, jb⟩ := J
      simp only at hJl hJ hJt
      rcases hk with rfl | rfl
      · rw [if_neg (by decide)] at hi
        replace hN := hN (IntKind.i64.wrap (((d + 1 : Nat) : Int) - 1)) ⟨js, jb⟩ (by rw [zy (by omega) (by omega)]; omega) (by simp only; omega)
        have hb := hNB ⟨js, jb⟩ (by simp only; omega)
        have hl := hLs ⟨js, jb⟩
        generalize f ⟨js, jb⟩ = y at hi hN hb hl
        obtain ⟨x, us, ub⟩ := y
        have hT := x.toT_full
        simp only at hN hi hb hl
        rw [hT] at hN
        cases first with
        | true =>
          cases hJt rfl
          clear hJ hJt
          repeat' (first | refine wC ?_ | refine wK ?_ | ((with_reducible refine zo ?_); refine zf rfl rfl rfl rfl rfl rfl rfl rfl rfl rfl ?_ ?_ ?_) | ((with_reducible refine ze ?_); first | refine wN (.t (.bool false)) [] hS ?_ | refine wN (.t (.agg [.int .i64 x.kind, .bool x.bool, .int .i64 x.num, .str x.text, .sl 1 (x.names.map .str), .sl 6 (x.items.map Nd.toT)])) [] hN ?_))
          all_goals try (exfalso; omega)
          all_goals try (simp only [List.length_map, List.length_cons, List.length_nil]; omega)
          refine zM (n' := m) (by omega) ((za [0, 2, 3, 5, 8, 9] [.par 0, .loc 5, .loc 8, .loc 45, .loc 901, .par 103, .par 104] rfl rfl).trans (zd (.loc 45) (.loc 900) rfl rfl rfl rfl)) ⟨false, ns, is ++ [x], ⟨us, ub⟩, by omega, by omega, by simp only [List.length_append, List.length_cons, List.length_nil]; omega, hb.1, fun h => by have := (hl h).2; simp only at this ⊢; omega, hi, rfl, ?_⟩
          rw [List.map_append, List.map_singleton, hT]; rfl
        | false =>
          replace hJ := hJ rfl
          clear hJt
          repeat' (first | refine wC ?_ | refine wK ?_ | ((with_reducible refine zo ?_); refine zf rfl rfl rfl rfl rfl rfl rfl rfl rfl rfl ?_ ?_ ?_) | ((with_reducible refine ze ?_); first | refine wN (.t (.bool false)) [] hS ?_ | refine wN (.tup []) [] hJ ?_ | refine wN (.t (.agg [.int .i64 x.kind, .bool x.bool, .int .i64 x.num, .str x.text, .sl 1 (x.names.map .str), .sl 6 (x.items.map Nd.toT)])) [] hN ?_))
          all_goals try (exfalso; omega)
          all_goals try (simp only [List.length_map, List.length_cons, List.length_nil]; omega)
          refine zM (n' := m) (by omega) ((za [0, 2, 3, 5, 8, 9] [.par 0, .loc 5, .loc 8, .loc 45, .loc 901, .par 103, .par 104] rfl rfl).trans (zd (.loc 45) (.loc 900) rfl rfl rfl rfl)) ⟨false, ns, is ++ [x], ⟨us, ub⟩, by omega, by omega, by simp only [List.length_append, List.length_cons, List.length_nil]; omega, hb.1, fun h => by have := (hl h).2; simp only at this ⊢; omega, hi, rfl, ?_⟩
          rw [List.map_append, List.map_singleton, hT]; rfl
      · rw [if_pos rfl] at hi
        have hM := zaH G ⟨js, jb⟩ (by simp only; omega)
        have hMl := jl ⟨js, jb⟩
        generalize yC ⟨js, jb⟩ = T at hi hM hMl
        obtain ⟨nm, ⟨ts, tb⟩⟩ := T
        simp only at hi hMl
        have hC := ve ⟨ts, tb⟩ ⟨#[58]⟩ (by simp only; omega)
        have hCl := vd ⟨ts, tb⟩ ⟨#[58]⟩
        have hCg := @wZ ⟨ts, tb⟩ ⟨#[58]⟩
        generalize Rs.expect ⟨ts, tb⟩ ⟨#[58]⟩ = C at hi hC hCl hCg
        obtain ⟨cs, cb⟩ := C
        simp only at hCl hCg
        replace hN := hN (IntKind.i64.wrap (((d + 1 : Nat) : Int) - 1)) ⟨cs, cb⟩ (by rw [zy (by omega) (by omega)]; omega) (by simp only; omega)
        have hb := hNB ⟨cs, cb⟩ (by simp only; omega)
        have hl := hLs ⟨cs, cb⟩
        generalize f ⟨cs, cb⟩ = y at hi hN hb hl
        unfold Rs.row at hM hC
        obtain ⟨x, us, ub⟩ := y
        have hT := x.toT_full
        simp only at hN hi hb hl hM hC
        rw [hT] at hN
        cases first with
        | true =>
          cases hJt rfl
          clear hJ hJt
          repeat' (first | refine wC ?_ | refine wK ?_ | ((with_reducible refine zo ?_); refine zf rfl rfl rfl rfl rfl rfl rfl rfl rfl rfl ?_ ?_ ?_) | ((with_reducible refine ze ?_); first | refine wN (.t (.bool false)) [] hS ?_ | refine wN (.t (.str nm)) [] hM ?_ | refine wN (.tup []) [] hC ?_ | refine wN (.t (.agg [.int .i64 x.kind, .bool x.bool, .int .i64 x.num, .str x.text, .sl 1 (x.names.map .str), .sl 6 (x.items.map Nd.toT)])) [] hN ?_))
          all_goals try (exfalso; omega)
          all_goals try (simp only [List.length_map, List.length_cons, List.length_nil]; omega)
          refine zM (n' := m) (by omega) ((za [0, 2, 3, 5, 8, 9] [.par 0, .loc 5, .loc 8, .loc 45, .loc 34, .par 103, .par 104] rfl rfl).trans ((zd (.loc 45) (.loc 900) rfl rfl rfl rfl).trans (zd (.loc 34) (.loc 901) rfl rfl rfl rfl))) ⟨false, ns ++ [nm], is ++ [x], ⟨us, ub⟩, by omega, by simp only [List.length_append, List.length_cons, List.length_nil]; omega, by simp only [List.length_append, List.length_cons, List.length_nil]; omega, hb.1, fun h => by have := (hl h).2; simp only at this ⊢; omega, hi, rfl, ?_⟩
          rw [List.map_append, List.map_append, List.map_singleton, List.map_singleton, hT]; rfl
        | false =>
          replace hJ := hJ rfl
          clear hJt
          repeat' (first | refine wC ?_ | refine wK ?_ | ((with_reducible refine zo ?_); refine zf rfl rfl rfl rfl rfl rfl rfl rfl rfl rfl ?_ ?_ ?_) | ((with_reducible refine ze ?_); first | refine wN (.t (.bool false)) [] hS ?_ | refine wN (.tup []) [] hJ ?_ | refine wN (.t (.str nm)) [] hM ?_ | refine wN (.tup []) [] hC ?_ | refine wN (.t (.agg [.int .i64 x.kind, .bool x.bool, .int .i64 x.num, .str x.text, .sl 1 (x.names.map .str), .sl 6 (x.items.map Nd.toT)])) [] hN ?_))
          all_goals try (exfalso; omega)
          all_goals try (simp only [List.length_map, List.length_cons, List.length_nil]; omega)
          refine zM (n' := m) (by omega) ((za [0, 2, 3, 5, 8, 9] [.par 0, .loc 5, .loc 8, .loc 45, .loc 34, .par 103, .par 104] rfl rfl).trans ((zd (.loc 45) (.loc 900) rfl rfl rfl rfl).trans (zd (.loc 34) (.loc 901) rfl rfl rfl rfl))) ⟨false, ns ++ [nm], is ++ [x], ⟨us, ub⟩, by omega, by simp only [List.length_append, List.length_cons, List.length_nil]; omega, by simp only [List.length_append, List.length_cons, List.length_nil]; omega, hb.1, fun h => by have := (hl h).2; simp only at this ⊢; omega, hi, rfl, ?_⟩
          rw [List.map_append, List.map_append, List.map_singleton, List.map_singleton, hT]; rfl
theorem qt {s : ByteArray} {bad : Bool} {t : ByteArray} (hs : s.size ≤ 1000000000) (h : ¬ (Rs.skip ⟨s, bad⟩ t).1 = true) : Spec Tryz.prog 234 [.ref (.par 0) 0 0 0, .t (.str t)] [(.par 0, .var 190 [.t (.str s), .t (.bool bad)])] (.t (.bool false)) [(.par 0, .var 190 [.t (.str s), .t (.bool bad)])] := by
  have h1 := vE ⟨s, bad⟩ t hs
  rw [zb5 h] at h1
  have h2 : (Rs.skip ⟨s, bad⟩ t).1 = false := by simpa using h
  rw [h2] at h1
  exact h1
theorem vf {s : ByteArray} {bad : Bool} {t : ByteArray} (hs : s.size ≤ 1000000000) (h : (Rs.skip ⟨s, bad⟩ t).1 = true) : Spec Tryz.prog 234 [.ref (.par 0) 0 0 0, .t (.str t)] [(.par 0, .var 190 [.t (.str s), .t (.bool bad)])] (.t (.bool true)) [(.par 0, .var 190 [.t (.str (Rs.skip ⟨s, bad⟩ t).2.s), .t (.bool (Rs.skip ⟨s, bad⟩ t).2.bad)])] := by
  have h1 := vE ⟨s, bad⟩ t hs
  rw [h] at h1
  exact h1
set_option maxHeartbeats 16000000 in
theorem zau {oS oR : Obj} (G : EOk oS oR) : ∀ (d : Nat), d ≤ 1000 → ∀ r : Rs, r.s.size ≤ 1000000 → Spec Tryz.prog 165 [.ref (.par 0) 0 0 0, .t (.int .i64 (d : Int))] [(.par 0, r.row 190), (.par 103, .dat (.fix 3 oS)), (.par 104, .dat (.fix 4 oR))] (.t (zR d r).1.toT) [(.par 0, (zR d r).2.row 190), (.par 103, .dat (.fix 3 oS)), (.par 104, .dat (.fix 4 oR))]
  | 0, hd, r, hr => by
    obtain ⟨s, bad⟩ := r
    rw [zR]
    unfold Rs.row
    simp only
    rw [yR]
    refine wI Tryz.func165 ?_
    repeat' (first | refine wC ?_ | refine wK ?_ | fail)
    all_goals try (exfalso; omega)
    exact wD
  | d + 1, hd, r, hr => by
    have IH := zau G d (by omega)
    obtain ⟨s, bad⟩ := r
    simp only at hr
    have hs : s.size ≤ 1000000000 := by omega
    rw [zR]
    by_cases h0 : (Rs.skip ⟨s, bad⟩ kP).1 = true
    · rw [if_pos h0]
      have y := vf hs h0
      have yl := va ⟨s, bad⟩ kP
      generalize Rs.skip ⟨s, bad⟩ kP = S at *
      obtain ⟨sb, ⟨qs, qb⟩⟩ := S
      simp only at y yl h0
      subst h0
      clear IH
      unfold Rs.row
      simp only
      rw [yR]
      replace y : Spec _ _ [_, .t (.str ⟨#[110, 117, 108, 108]⟩)] _ _ _ := y
      refine wI Tryz.func165 ?_
      repeat' (first | refine wC ?_ | refine wK ?_ | ((with_reducible refine ze ?_); refine wN (.t (.bool true)) [] y ?_))
      all_goals try (exfalso; omega)
      exact wD
    rw [if_neg h0]
    have n0 : Spec Tryz.prog 234 [.ref (.par 0) 0 0 0, .t (.str ⟨#[110, 117, 108, 108]⟩)] [(.par 0, .var 190 [.t (.str s), .t (.bool bad)])] (.t (.bool false)) [(.par 0, .var 190 [.t (.str s), .t (.bool bad)])] := qt hs h0
    clear h0
    by_cases h1 : (Rs.skip ⟨s, bad⟩ zaa).1 = true
    · rw [if_pos h1]
      have y := vf hs h1
      have yl := va ⟨s, bad⟩ zaa
      generalize Rs.skip ⟨s, bad⟩ zaa = S at *
      obtain ⟨sb, ⟨qs, qb⟩⟩ := S
      simp only at y yl h1
      subst h1
      clear IH
      unfold Rs.row
      simp only
      rw [Nd.toT_eq]
      replace y : Spec _ _ [_, .t (.str ⟨#[116, 114, 117, 101]⟩)] _ _ _ := y
      refine wI Tryz.func165 ?_
      repeat' (first | refine wC ?_ | refine wK ?_ | ((with_reducible refine ze ?_); first | refine wN (.t (.bool false)) [] n0 ?_ | refine wN (.t (.bool true)) [] y ?_))
      all_goals try (exfalso; omega)
      exact wD
    rw [if_neg h1]
    have n1 : Spec Tryz.prog 234 [.ref (.par 0) 0 0 0, .t (.str ⟨#[116, 114, 117, 101]⟩)] [(.par 0, .var 190 [.t (.str s), .t (.bool bad)])] (.t (.bool false)) [(.par 0, .var 190 [.t (.str s), .t (.bool bad)])] := qt hs h1
    clear h1
    by_cases h2 : (Rs.skip ⟨s, bad⟩ vK).1 = true
    · rw [if_pos h2]
      have y := vf hs h2
      have yl := va ⟨s, bad⟩ vK
      generalize Rs.skip ⟨s, bad⟩ vK = S at *
      obtain ⟨sb, ⟨qs, qb⟩⟩ := S
      simp only at y yl h2
      subst h2
      clear IH
      unfold Rs.row
      simp only
      rw [Nd.toT_eq]
      replace y : Spec _ _ [_, .t (.str ⟨#[102, 97, 108, 115, 101]⟩)] _ _ _ := y
      refine wI Tryz.func165 ?_
      repeat' (first | refine wC ?_ | refine wK ?_ | ((with_reducible refine ze ?_); first | refine wN (.t (.bool false)) [] n0 ?_ | refine wN (.t (.bool false)) [] n1 ?_ | refine wN (.t (.bool true)) [] y ?_))
      all_goals try (exfalso; omega)
      exact wD
    rw [if_neg h2]
    have n2 : Spec Tryz.prog 234 [.ref (.par 0) 0 0 0, .t (.str ⟨#[102, 97, 108, 115, 101]⟩)] [(.par 0, .var 190 [.t (.str s), .t (.bool bad)])] (.t (.bool false)) [(.par 0, .var 190 [.t (.str s), .t (.bool bad)])] := qt hs h2
    clear h2
    by_cases h3 : (Rs.skip ⟨s, bad⟩ ⟨#[91]⟩).1 = true
    · rw [if_pos h3]
      have y := vf hs h3
      have yl := va ⟨s, bad⟩ ⟨#[91]⟩
      generalize Rs.skip ⟨s, bad⟩ ⟨#[91]⟩ = S at *
      obtain ⟨sb, ⟨qs, qb⟩⟩ := S
      simp only at y yl h3
      subst h3
      have hI := j7 G d (by omega) 1000000 (by omega) (fun q hq => IH q hq) 4 (by omega) ⟨#[93]⟩ ⟨qs, qb⟩ (by simp only; omega)
      clear IH
      simp only at hI ⊢
      generalize zC (zR d) 4 ⟨#[93]⟩ (qs.size + 2) true [] [] ⟨qs, qb⟩ = z at hI ⊢
      obtain ⟨x, us, ub⟩ := z
      have hx := x.toT_full
      unfold Rs.row at *
      simp only at hI ⊢
      rw [hx] at hI ⊢
      refine wI Tryz.func165 ?_
      repeat' (first | refine wC ?_ | refine wK ?_ | ((with_reducible refine ze ?_); first | refine wN (.t (.bool false)) [] n0 ?_ | refine wN (.t (.bool false)) [] n1 ?_ | refine wN (.t (.bool false)) [] n2 ?_ | refine wN (.t (.bool true)) [] y ?_ | refine wN (.t (.agg [.int .i64 x.kind, .bool x.bool, .int .i64 x.num, .str x.text, .sl 1 (x.names.map .str), .sl 6 (x.items.map Nd.toT)])) [] hI ?_))
      all_goals try (exfalso; omega)
      exact wD
    rw [if_neg h3]
    have n3 : Spec Tryz.prog 234 [.ref (.par 0) 0 0 0, .t (.str ⟨#[91]⟩)] [(.par 0, .var 190 [.t (.str s), .t (.bool bad)])] (.t (.bool false)) [(.par 0, .var 190 [.t (.str s), .t (.bool bad)])] := qt hs h3
    clear h3
    by_cases h4 : (Rs.skip ⟨s, bad⟩ ⟨#[123]⟩).1 = true
    · rw [if_pos h4]
      have y := vf hs h4
      have yl := va ⟨s, bad⟩ ⟨#[123]⟩
      generalize Rs.skip ⟨s, bad⟩ ⟨#[123]⟩ = S at *
      obtain ⟨sb, ⟨qs, qb⟩⟩ := S
      simp only at y yl h4
      subst h4
      have hI := j7 G d (by omega) 1000000 (by omega) (fun q hq => IH q hq) 5 (by omega) ⟨#[125]⟩ ⟨qs, qb⟩ (by simp only; omega)
      clear IH
      simp only at hI ⊢
      generalize zC (zR d) 5 ⟨#[125]⟩ (qs.size + 2) true [] [] ⟨qs, qb⟩ = z at hI ⊢
      obtain ⟨x, us, ub⟩ := z
      have hx := x.toT_full
      unfold Rs.row at *
      simp only at hI ⊢
      rw [hx] at hI ⊢
      refine wI Tryz.func165 ?_
      repeat' (first | refine wC ?_ | refine wK ?_ | ((with_reducible refine ze ?_); first | refine wN (.t (.bool false)) [] n0 ?_ | refine wN (.t (.bool false)) [] n1 ?_ | refine wN (.t (.bool false)) [] n2 ?_ | refine wN (.t (.bool false)) [] n3 ?_ | refine wN (.t (.bool true)) [] y ?_ | refine wN (.t (.agg [.int .i64 x.kind, .bool x.bool, .int .i64 x.num, .str x.text, .sl 1 (x.names.map .str), .sl 6 (x.items.map Nd.toT)])) [] hI ?_))
      all_goals try (exfalso; omega)
      exact wD
    rw [if_neg h4]
    have n4 : Spec Tryz.prog 234 [.ref (.par 0) 0 0 0, .t (.str ⟨#[123]⟩)] [(.par 0, .var 190 [.t (.str s), .t (.bool bad)])] (.t (.bool false)) [(.par 0, .var 190 [.t (.str s), .t (.bool bad)])] := qt hs h4
    clear h4
    clear IH
    have hP := zaf s qS
    simp only
    cases hq : zaV s qS with
    | true =>
      rw [hq] at hP
      rw [if_pos rfl]
      have hT := zaH G ⟨s, bad⟩ hr
      generalize yC ⟨s, bad⟩ = z at hT ⊢
      obtain ⟨t, us, ub⟩ := z
      unfold Rs.row at *
      simp only at hT ⊢
      rw [Nd.toT_eq]
      refine wI Tryz.func165 ?_
      repeat' (first | refine wC ?_ | refine wK ?_ | ((with_reducible refine ze ?_); first | refine wN (.t (.bool false)) [] n0 ?_ | refine wN (.t (.bool false)) [] n1 ?_ | refine wN (.t (.bool false)) [] n2 ?_ | refine wN (.t (.bool false)) [] n3 ?_ | refine wN (.t (.bool false)) [] n4 ?_ | refine wL hP ?_ | refine wN (.t (.str t)) [] hT ?_))
      all_goals try (exfalso; omega)
      exact wD
    | false =>
      rw [hq] at hP
      rw [if_neg (by simp)]
      have hT := zgz G ⟨s, bad⟩ hr
      generalize x5 ⟨s, bad⟩ = z at hT ⊢
      obtain ⟨t, us, ub⟩ := z
      unfold Rs.row at *
      simp only at hT ⊢
      rw [Nd.toT_eq]
      refine wI Tryz.func165 ?_
      repeat' (first | refine wC ?_ | refine wK ?_ | ((with_reducible refine ze ?_); first | refine wN (.t (.bool false)) [] n0 ?_ | refine wN (.t (.bool false)) [] n1 ?_ | refine wN (.t (.bool false)) [] n2 ?_ | refine wN (.t (.bool false)) [] n3 ?_ | refine wN (.t (.bool false)) [] n4 ?_ | refine wL hP ?_ | refine wN (.t (.int .i64 t)) [] hT ?_))
      all_goals try (exfalso; omega)
      exact wD
theorem zaN (l : List UInt8) : yo (ofL l) = u8L l := by simp [yo, u8L, ofL]
theorem zif (l : List UInt8) : ∀ e ∈ u8L l, e.isAgg = false := fun e he => by
  obtain ⟨b, _, rfl⟩ := List.mem_map.1 he
  rfl
def zcN : List UInt8 := List.replicate 24 0
set_option maxHeartbeats 8000000 in
theorem vo {oP : Obj} (hP : xk .u64 Lib.pow10Tab oP) (es : List T) (hb : es.length ≤ 100000000) (u : Nat) (hu : u < 18446744073709551616) : Spec Tryz.prog 294 [.row (.par 0), .t (.int .u64 (u : Int)), .t (.int .i64 10)] [(.par 0, .slt 5 1 es), (.par 102, .dat (.fix 2 oP))] (.row (.res 0)) [(.res 0, .slt 5 1 (es ++ u8L (Lib.decDigits u))), (.par 102, .dat (.fix 2 oP))] := by
  have hl := zdC u hu
  by_cases h : u < 100
  · have ws : IntKind.i64.wrap (u : Int) = (u : Int) := zy (by omega) (by omega)
    have hS := zfE u h
    rw [← ws] at hS
    have hbl : (yo (ofL (Lib.decDigits u))).length ≤ 20 := by rw [zaN, zK]; omega
    rw [← zaN]
    generalize ofL (Lib.decDigits u) = D at hS hbl ⊢
    refine wIG Tryz.func294 ?_
    repeat' (first | refine wC ?_ | (exfalso; omega) | refine wK ?_ | ((with_reducible refine zo ?_); refine zX rfl rfl rfl rfl rfl rfl rfl rfl rfl ?_ ?_ ?_) | ((with_reducible refine ze ?_); refine wL hS ?_) | refine zh rfl ?_ ?_ <;> intro hc)
    all_goals try omega
    refine zk ((za [6] [.par 102, .loc 17] rfl rfl).trans (zd (.loc 17) (.res 0) rfl rfl rfl rfl)) ?_
    exact zE (zm (zt rfl (AVLE.of_eq rfl)) (zc ⟨rfl, rfl, trivial⟩))
  · have hD := zal hP u (by omega) hu
    have hn : Lib.nDigits u ≤ 20 := by rw [Lib.decDigits_length] at hl; omega
    have hF := zfs (aty := 227) zcN u hu (by show _ ≤ 24; omega) (by decide)
    have hfin : (u8L (Lib.decDigits u ++ zcN.drop (Lib.nDigits u))).take (Lib.nDigits u) = u8L (Lib.decDigits u) := by
      rw [zz, List.take_append_of_le_length (by rw [zK, Lib.decDigits_length]; omega), List.take_of_length_le (by rw [zK, Lib.decDigits_length]; omega)]
    have hfl : Lib.nDigits u ≤ (u8L (Lib.decDigits u ++ zcN.drop (Lib.nDigits u))).length := by rw [zK, List.length_append, Lib.decDigits_length]; omega
    rw [← hfin]
    generalize u8L (Lib.decDigits u ++ zcN.drop (Lib.nDigits u)) = W at hF hfl ⊢
    clear hfin
    generalize Lib.nDigits u = nd at *
    refine wIG Tryz.func294 ?_
    repeat' (first | refine zi (x := Code.seq (Code.region 5 _ _) _) (qO (id := .loc 7) rfl (RowLE.arr (es := u8L zcN) rfl (zif _)) rfl) ?_ | refine wC ?_ | (exfalso; omega) | refine zbt rfl rfl rfl rfl rfl rfl rfl ?_ ?_ ?_ | refine zah rfl rfl rfl rfl rfl rfl rfl rfl rfl rfl ?_ ?_ ?_ ?_ | refine wK ?_ | ((with_reducible refine ze ?_); first | refine wN (.t (.int .i64 (nd : Int))) [] hD ?_ | refine wN (.tup []) [(.par 0, .loc 7)] hF ?_) | refine zh rfl ?_ ?_ <;> intro hc)
    all_goals try omega
    all_goals try (show _ ≤ (24 : Int); omega)
    all_goals try exact hfl
    refine zk ((za [6] [.par 102, .loc 27] rfl rfl).trans (zd (.loc 27) (.res 0) rfl rfl rfl rfl)) ?_
    exact zE (zm (zt rfl (AVLE.of_eq rfl)) (zc ⟨rfl, rfl, trivial⟩))
set_option maxHeartbeats 4000000 in
theorem zar {oP : Obj} (hP : xk .u64 Lib.pow10Tab oP) (es : List T) (hb : es.length ≤ 99999999) (n : Int) (h0 : -9223372036854775808 ≤ n) (h1 : n ≤ 9223372036854775807) : Spec Tryz.prog 232 [.row (.par 0), .t (.int .i64 n), .t (.int .i64 10)] [(.par 0, .slt 5 1 es), (.par 102, .dat (.fix 2 oP))] (.row (.res 0)) [(.res 0, .slt 5 1 (es ++ u8L (Lib.itoa n))), (.par 102, .dat (.fix 2 oP))] := by
  have hI : Spec Tryz.prog 276 [.row (.par 0), .t (.int .i64 n), .t (.int .i64 10)] [(.par 0, .slt 5 1 es), (.par 102, .dat (.fix 2 oP))] (.row (.res 0)) [(.res 0, .slt 5 1 (es ++ u8L (Lib.itoa n))), (.par 102, .dat (.fix 2 oP))] := by
    by_cases hn : n < 0
    · have hU := vo hP (es ++ [T.int .u8 45]) (by simp; omega) n.natAbs (by omega)
      have hw : IntKind.u64.wrap (0 - IntKind.u64.wrap n) = ((n.natAbs : Nat) : Int) := by
        have e1 : ∀ x : Int, IntKind.u64.wrap x = x % 18446744073709551616 := fun x => rfl
        rw [e1, e1]; omega
      have hr : es ++ u8L (Lib.itoa n) = es ++ [T.int .u8 45] ++ u8L (Lib.decDigits n.natAbs) := by
        unfold Lib.itoa
        rw [if_pos hn, List.append_assoc]; rfl
      rw [hr]
      rw [← hw] at hU
      generalize u8L (Lib.decDigits n.natAbs) = D at hU ⊢
      refine wIG Tryz.func276 ?_
      repeat' (first | refine wC ?_ | (exfalso; omega) | refine wK ?_ | ((with_reducible refine zo ?_); refine zf rfl rfl rfl rfl rfl rfl rfl rfl rfl rfl ?_ ?_ ?_) | ((with_reducible refine ze ?_); refine wN (.row (.loc 903)) [(.par 0, .loc 14), (.res 0, .loc 903)] hU ?_) | refine zh rfl ?_ ?_ <;> intro hc)
      all_goals try (simp only [List.length_singleton]; omega)
      refine zk ((za [6] [.par 102, .loc 903] rfl rfl).trans (zd (.loc 903) (.res 0) rfl rfl rfl rfl)) ?_
      exact zE (zm (zt rfl (AVLE.of_eq rfl)) (zc ⟨rfl, rfl, trivial⟩))
    · have hU := vo hP es (by omega) n.toNat (by omega)
      have hw : IntKind.u64.wrap n = ((n.toNat : Nat) : Int) := by
        have e1 : ∀ x : Int, IntKind.u64.wrap x = x % 18446744073709551616 := fun x => rfl
        rw [e1]; omega
      have hr : Lib.itoa n = Lib.decDigits n.toNat := by unfold Lib.itoa; rw [if_neg hn]
      rw [hr]
      rw [← hw] at hU
      generalize u8L (Lib.decDigits n.toNat) = D at hU ⊢
      refine wIG Tryz.func276 ?_
      repeat' (first | refine wC ?_ | (exfalso; omega) | refine wK ?_ | ((with_reducible refine ze ?_); refine wN (.row (.loc 903)) [(.res 0, .loc 903)] hU ?_) | refine zh rfl ?_ ?_ <;> intro hc)
      refine zk ((za [6] [.par 102, .loc 903] rfl rfl).trans (zd (.loc 903) (.res 0) rfl rfl rfl rfl)) ?_
      exact zE (zm (zt rfl (AVLE.of_eq rfl)) (zc ⟨rfl, rfl, trivial⟩))
  generalize u8L (Lib.itoa n) = D at hI ⊢
  refine wIG Tryz.func232 ?_
  repeat' (first | refine wC ?_ | refine wK ?_ | ((with_reducible refine ze ?_); refine wN (.row (.loc 903)) [(.res 0, .loc 903)] hI ?_))
  refine zk ((za [6] [.par 102, .loc 903] rfl rfl).trans (zd (.loc 903) (.res 0) rfl rfl rfl rfl)) ?_
  exact zE (zm (zt rfl (AVLE.of_eq rfl)) (zc ⟨rfl, rfl, trivial⟩))
end Go.AL
