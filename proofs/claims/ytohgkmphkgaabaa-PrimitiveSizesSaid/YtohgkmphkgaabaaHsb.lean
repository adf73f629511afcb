/- What the methods of strings.Builder answer. -/
import Derived.Test.YtohgkmphkgaabaaTy
import Derived.Test.YtohgkmphkgaabaaAl3
import Derived.Test.YtohgkmphkgaabaaPur
import Derived.Shelf.Strings.Repeat
import Derived.Test.YtohgkmphkgaabaaHsa
set_option linter.unusedVariables false
namespace Go.AL
open Go Go.Proofs Go.RowKit

instance : Lies Try.prog 102 2 102 := ⟨by kernel_rfl⟩
instance : CellsOf Try.prog 5 1 := ⟨by kernel_rfl⟩
instance : NoEsc Try.prog 114 := .of Try.func114 (by kernel_rfl) (by kernel_rfl) (by kernel_rfl) (by kernel_rfl)
/-- A builder that nothing was written to; one with bytes. -/
def bldN : StL := [(.par 0, .var 102 [.t .nilp, .t .nilsl])]
def bldU (es : List T) : StL := [(.par 0, .var 102 [.ref (.par 0) 0 0 0, .row (.par 1)]), (.par 1, .slt 5 1 es)]
def bldR (es : List T) : StL := [(.par 0, .var 102 [.ref (.par 0) 0 0 0, .row (.res 0)]), (.res 0, .slt 5 1 es)]
end Go.AL
/- A library function lies in this program as the shelf of the kit has it; no condition. -/
set_option linter.unusedVariables false
namespace Go.AL
open Go Go.Proofs Go.RowKit Go.Shelf

theorem rp_a {P : Program} (t : TypeId) {d : TypeDesc} [tu : TyU P t d] (w : World) : (isAgg t).run P w = .ok (isAggD d) w := run_isAgg tu
theorem rp_z {P : Program} (t : TypeId) {s b : Nat} {z : Value} [ti : TyI P t s b z] (w : World) : (Go.sizeOf t).run P w = .ok s w := run_sizeOf ti
theorem rp_v {P : Program} (t : TypeId) {s b : Nat} {z : Value} [ti : TyI P t s b z] (w : World) : (zeroValue t).run P w = .ok z w := run_zeroValue ti

def rp_ren : Ren := ⟨fun | 99 => 110 | 105 => 93 | 165 => 111 | 166 => 72 | 169 => 73 | 170 => 112 | 206 => 123 | 212 => 109 | 240 => 98 | 241 => 124 | 263 => 121 | 264 => 122 | 276 => 114 | 277 => 132 | x => x, fun | 0 => 0 | 3 => 3 | 4 => 4 | 5 => 5 | 9 => 9 | 20 => 20 | 37 => 27 | 46 => 37 | 51 => 87 | 53 => 123 | 70 => 100 | 72 => 102 | 75 => 104 | 76 => 105 | 80 => 107 | 109 => 136 | 127 => 127 | 146 => 144 | 148 => 146 | 164 => 139 | x => x, fun x => x⟩

set_option maxRecDepth 100000 in
theorem rp_lays : Lays.n105 Try.prog rp_ren where
  mixed := by kernel_rfl
  f99 := by kernel_rfl
  f105 := by kernel_rfl
  f165 := by kernel_rfl
  f166 := by kernel_rfl
  f169 := by kernel_rfl
  f170 := by kernel_rfl
  f206 := by kernel_rfl
  f212 := by kernel_rfl
  f240 := by kernel_rfl
  f241 := by kernel_rfl
  f263 := by kernel_rfl
  f264 := by kernel_rfl
  f276 := by kernel_rfl
  f277 := by kernel_rfl
  t0 := Try.underlying0
  a0 := fun w => rp_a (P := Try.prog) (d := (TypeDesc.tuple #[])) 0 w
  z0 := fun w => rp_z 0 w
  v0 := fun w => rp_v 0 w
  t3 := Try.underlying3
  a3 := fun w => rp_a (P := Try.prog) (d := (TypeDesc.int IntKind.i64)) 3 w
  z3 := fun w => rp_z 3 w
  v3 := fun w => rp_v 3 w
  t4 := Try.underlying4
  a4 := fun w => rp_a (P := Try.prog) (d := TypeDesc.bool) 4 w
  z4 := fun w => rp_z 4 w
  v4 := fun w => rp_v 4 w
  t5 := Try.underlying5
  a5 := fun w => rp_a (P := Try.prog) (d := (TypeDesc.int IntKind.u8)) 5 w
  z5 := fun w => rp_z 5 w
  v5 := fun w => rp_v 5 w
  t9 := Try.underlying9
  a9 := fun w => rp_a (P := Try.prog) (d := TypeDesc.string) 9 w
  z9 := fun w => rp_z 9 w
  v9 := fun w => rp_v 9 w
  t20 := Try.underlying20
  a20 := fun w => rp_a (P := Try.prog) (d := (TypeDesc.interface #[])) 20 w
  z20 := fun w => rp_z 20 w
  v20 := fun w => rp_v 20 w
  t37 := Try.underlying27
  a37 := fun w => rp_a (P := Try.prog) (d := (TypeDesc.slice 5)) 27 w
  z37 := fun w => rp_z 27 w
  v37 := fun w => rp_v 27 w
  t46 := Try.underlying37
  a46 := fun w => rp_a (P := Try.prog) (d := (TypeDesc.int IntKind.u64)) 37 w
  z46 := fun w => rp_z 37 w
  v46 := fun w => rp_v 37 w
  t51 := Try.underlying87
  a51 := fun w => rp_a (P := Try.prog) (d := (TypeDesc.int IntKind.u32)) 87 w
  z51 := fun w => rp_z 87 w
  v51 := fun w => rp_v 87 w
  t53 := Try.underlying123
  a53 := fun w => rp_a (P := Try.prog) (d := (TypeDesc.int IntKind.u64)) 123 w
  z53 := fun w => rp_z 123 w
  v53 := fun w => rp_v 123 w
  t70 := Try.underlying100
  a70 := fun w => rp_a (P := Try.prog) (d := (TypeDesc.pointer 102)) 100 w
  z70 := fun w => rp_z 100 w
  v70 := fun w => rp_v 100 w
  t72 := Try.underlying102
  a72 := fun w => rp_a (P := Try.prog) (d := (TypeDesc.struct #[{ name := "addr", type := 100, offset := 0, embedded := false, tag := "", pkgPath := "strings", byteOffset := 0 }, { name := "buf", type := 27, offset := 1, embedded := false, tag := "", pkgPath := "strings", byteOffset := 8 }])) 102 w
  z72 := fun w => rp_z 102 w
  v72 := fun w => rp_v 102 w
  t75 := Try.underlying104
  a75 := fun w => rp_a (P := Try.prog) (d := (TypeDesc.interface #[("Error", 107)])) 104 w
  z75 := fun w => rp_z 104 w
  v75 := fun w => rp_v 104 w
  t76 := Try.underlying105
  a76 := fun w => rp_a (P := Try.prog) (d := (TypeDesc.tuple #[3, 104])) 105 w
  z76 := fun w => rp_z 105 w
  v76 := fun w => rp_v 105 w
  t109 := Try.underlying136
  a109 := fun w => rp_a (P := Try.prog) (d := (TypeDesc.tuple #[37, 37])) 136 w
  z109 := fun w => rp_z 136 w
  v109 := fun w => rp_v 136 w
  t127 := Try.underlying127
  a127 := fun w => rp_a (P := Try.prog) (d := (TypeDesc.pointer 5)) 127 w
  z127 := fun w => rp_z 127 w
  v127 := fun w => rp_v 127 w
  t146 := Try.underlying144
  a146 := fun w => rp_a (P := Try.prog) (d := (TypeDesc.tuple #[87, 87])) 144 w
  z146 := fun w => rp_z 144 w
  v146 := fun w => rp_v 144 w
  t148 := Try.underlying146
  a148 := fun w => rp_a (P := Try.prog) (d := (TypeDesc.tuple #[123, 123])) 146 w
  z148 := fun w => rp_z 146 w
  v148 := fun w => rp_v 146 w
  t164 := Try.underlying139
  a164 := fun w => rp_a (P := Try.prog) (d := TypeDesc.unsafePointer) 139 w
  z164 := fun w => rp_z 139 w
  v164 := fun w => rp_v 139 w
end Go.AL
/- What strings.Repeat answers. -/
set_option linter.unusedVariables false
namespace Go.AL
open Go Go.Proofs Go.RowKit Go.Shelf

theorem rp_extra : Builder.Extra Try.prog rp_ren where
  sizeBuilder := by kernel_rfl
  liesBuilder := by kernel_rfl
  t5 := Try.underlying5
  a5 := fun w => rp_a (P := Try.prog) (d := .int .u8) 5 w
  z5 := fun w => rp_z 5 w
  v5 := fun w => rp_v 5 w
  infoByte := by kernel_rfl
  cellsByte := by kernel_rfl
  sizeByte := by kernel_rfl
  neB5 := by decide
/-- A call that changes nothing of what was there. -/
theorem Spec.of_below {P : Program} {f : FuncId} {args : List AV} {r : AV} (H : ∀ h m (vs : Array Value) w, vs.size = args.length → RepAs h m (fun j => vs[j]?) 0 args → Calls P f vs w fun e w' => ∃ v, e = .returned v ∧ (∀ h' m', RepA h' m' v r) ∧ Below w.heap.size w w') : Spec P f args [] r [] where
  run h m vs w hs hv hr := (H h m vs w hv hr).mono fun e w' ⟨v, he, hv', hb⟩ => by
    refine ⟨v, h, m, he, hv' h m, ⟨fun b o hb' => ?_, fun _ _ hx => by simp [StL.get] at hx, fun _ _ _ hx => by simp [StL.get] at hx, fun _ _ _ _ _ hx => by simp [StL.get] at hx⟩, ?_⟩
    · have h1 := hs.imm b o hb'
      have hlt : b < w.heap.size := by
        rcases Nat.lt_or_ge b w.heap.size with h2 | h2
        · exact h2
        · rw [Array.getElem?_eq_none h2] at h1; cases h1
      rw [hb.block b hlt]; exact h1
    · exact ⟨⟨hb.os, hb.tape, hb.output, hb.size, fun b hb' _ => ⟨hb.block b hb', rfl⟩, fun _ _ hu => hu, fun _ _ _ hx => by simp [StL.get] at hx⟩, fun _ => rfl⟩
theorem Repeat_spec (s : ByteArray) (c : Nat) (hc : c ≤ 9223372036854775807) (hl : s.size * c ≤ 140737488355328) : Spec Try.prog 93 [.t (.str s), .t (.int .i64 (c : Int))] [] (.t (.str ⟨(Lib.repeatL s.data.toList c).toArray⟩)) [] :=
  Spec.of_below fun h m vs w hv hr => by
    simp only [RepAs, RepA, RepT, and_true] at hr
    obtain ⟨⟨u0, h0, rfl⟩, u1, h1, rfl⟩ := hr
    have hv2 : vs.size = 2 := hv
    have e : vs = #[.string s, .int .i64 c] := by
      apply Array.ext
      · simpa using hv2
      · intro i h1' h2'
        have : i = 0 ∨ i = 1 := by omega
        rcases this with rfl | rfl
        · rw [Array.getElem?_eq_getElem h1'] at h0; simpa using h0
        · rw [Array.getElem?_eq_getElem h1'] at h1; simpa using h1
    subst e
    exact (Any.strings_Repeat rp_lays rp_extra s c w hc hl).mono fun e w' ⟨he, hb⟩ => ⟨_, he, fun h' m' => by simp [RepA, RepT], hb⟩
end Go.AL
/- What the padding of strings answers, in the program and in the document. -/
set_option linter.unusedVariables false
namespace Go.AL
open Go Go.Proofs Go.RowKit

def padR (s : ByteArray) : ByteArray × Int := if 1048576 < s.size then (⟨#[]⟩, 3) else (ofL (padL s.data.toList), 0)
end Go.AL
