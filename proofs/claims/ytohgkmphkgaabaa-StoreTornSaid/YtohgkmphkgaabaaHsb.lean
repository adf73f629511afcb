/- What the methods of strings.Builder answer. -/
import Derived.Test.YtohgkmphkgaabaaTy
import Derived.Test.YtohgkmphkgaabaaAl3
import Derived.Test.YtohgkmphkgaabaaPur
import Derived.Shelf.Strings.Repeat
import Derived.Test.YtohgkmphkgaabaaHsa
set_option linter.unusedVariables false
namespace Go.AL
open Go Go.Proofs Go.RowKit

instance : Lies Try.prog 102 2 102 := ⟨by kernel_rfl⟩
instance : CellsOf Try.prog 5 1 := ⟨by kernel_rfl⟩
instance : NoEsc Try.prog 114 := .of Try.func114 (by kernel_rfl) (by kernel_rfl) (by kernel_rfl) (by kernel_rfl)
theorem bytesT_len (s : ByteArray) : (bytesT s).length = s.size := by simp [bytesT]
/-- A builder that nothing was written to; one with bytes. -/
def bldN : StL := [(.par 0, .var 102 [.t .nilp, .t .nilsl])]
def bldU (es : List T) : StL := [(.par 0, .var 102 [.ref (.par 0) 0 0 0, .row (.par 1)]), (.par 1, .slt 5 1 es)]
def bldR (es : List T) : StL := [(.par 0, .var 102 [.ref (.par 0) 0 0 0, .row (.res 0)]), (.res 0, .slt 5 1 es)]
set_option maxHeartbeats 1000000 in
theorem ccN_spec : Spec Try.prog 98 [.ref (.par 0) 0 0 0] bldN (.tup []) [(.par 0, .var 102 [.ref (.par 0) 0 0 0, .t .nilsl])] := by
  unfold bldN
  refine spec_intro (env0 := [(0, _)]) (st0 := [(_, some _)]) Try.func98 rfl rfl rfl rfl ?_
  repeat' (first | (with_reducible refine codeT_seq ?_) | (with_reducible refine codeT_regionL ?_) | (with_reducible refine lx_nil ?_) | (with_reducible refine q_then ?_) | refine c_condT rfl ?_ | ((with_reducible refine g_move ?_); first | refine lx_move (r := (.ref _ _ _ _)) rfl rfl rfl rfl rfl ?_) | ((with_reducible refine g_load ?_); first | refine lx_load_var rfl rfl rfl rfl rfl rfl rfl rfl ?_) | ((with_reducible refine g_fieldAddr ?_); first | refine lx_fieldAddr rfl rfl rfl rfl rfl rfl rfl ?_) | ((with_reducible refine g_store ?_); first | refine lx_store_var (r := (.ref _ _ _ _)) rfl rfl rfl rfl rfl rfl rfl rfl rfl rfl ?_) | ((with_reducible refine g_nilCheck ?_); first | refine lx_nilCheck (r := (.ref _ _ _ _)) rfl rfl rfl rfl rfl rfl ?_) | ((with_reducible refine g_binOp ?_); first | refine lx_ptrnil_eq rfl rfl rfl rfl rfl rfl rfl ?_) | ((with_reducible refine g_convert ?_); first | refine lx_toUnsafe rfl rfl rfl rfl rfl rfl rfl rfl ?_ | refine lx_fromUnsafe rfl rfl rfl rfl rfl rfl rfl ?_) | ((with_reducible refine g_call ?_); first | refine lx_noEsc rfl rfl rfl rfl rfl rfl ?_))
  exact q_end (resT_none rfl) (stHas_spec ⟨rfl, trivial⟩)
set_option maxHeartbeats 1000000 in
theorem ccU_spec (l : List T) : Spec Try.prog 98 [.ref (.par 0) 0 0 0] (bldU l) (.tup []) (bldU l) := by
  unfold bldU
  refine spec_intro (env0 := [(0, _)]) (st0 := [(_, some _), (_, some _)]) Try.func98 rfl rfl rfl rfl ?_
  repeat' (first | (with_reducible refine codeT_seq ?_) | (with_reducible refine codeT_skip ?_) | (with_reducible refine codeT_regionL ?_) | (with_reducible refine lx_nil ?_) | (with_reducible refine q_then ?_) | refine c_condF rfl ?_ | ((with_reducible refine g_move ?_); first | refine lx_move (r := (.ref _ _ _ _)) rfl rfl rfl rfl rfl ?_) | ((with_reducible refine g_load ?_); first | refine lx_load_var rfl rfl rfl rfl rfl rfl rfl rfl ?_) | ((with_reducible refine g_fieldAddr ?_); first | refine lx_fieldAddr rfl rfl rfl rfl rfl rfl rfl ?_) | ((with_reducible refine g_nilCheck ?_); first | refine lx_nilCheck (r := (.ref _ _ _ _)) rfl rfl rfl rfl rfl rfl ?_) | ((with_reducible refine g_binOp ?_); first | refine lx_ptrnil_eq rfl rfl rfl rfl rfl rfl rfl ?_ | refine lx_ptrsame_ne rfl rfl rfl rfl rfl rfl ?_))
  exact q_end (resT_none rfl) (stHas_spec ⟨rfl, rfl, trivial⟩)
set_option maxHeartbeats 1000000 in
theorem wsN_spec (s : ByteArray) (hs : s.size ≤ 100000000) : Spec Try.prog 72 [.ref (.par 0) 0 0 0, .t (.str s)] bldN (.tup [.t (.int .i64 s.size), .junk]) (bldR (bytesT s)) := by
  have hC := ccN_spec
  unfold bldN at hC ⊢
  unfold bldR
  refine spec_introG (env0 := [(0, _), (1, _)]) (st0 := [(_, some _)]) Try.func72 rfl rfl rfl rfl ?_
  repeat' (first | (with_reducible refine codeT_seq ?_) | (with_reducible refine codeT_ret ?_) | (with_reducible refine codeT_regionL ?_) | (with_reducible refine lx_nil ?_) | (with_reducible refine q_then ?_) | ((with_reducible refine g_move ?_); first | refine lx_move (r := (.t _)) rfl rfl rfl rfl rfl ?_ | refine lx_move (r := (.ref _ _ _ _)) rfl rfl rfl rfl rfl ?_) | ((with_reducible refine g_load ?_); first | refine lx_load_var rfl rfl rfl rfl rfl rfl rfl rfl ?_) | ((with_reducible refine g_fieldAddr ?_); first | refine lx_fieldAddr rfl rfl rfl rfl rfl rfl rfl ?_) | ((with_reducible refine g_assign ?_); first | refine lx_assign (r := (.t _)) rfl rfl rfl rfl rfl ?_ | refine lx_assign (r := .junk) rfl rfl rfl rfl rfl ?_) | ((with_reducible refine g_store ?_); first | refine lx_store_var (r := (.row _)) rfl rfl rfl rfl rfl rfl rfl rfl rfl rfl ?_) | ((with_reducible refine g_nilCheck ?_); first | refine lx_nilCheck (r := (.ref _ _ _ _)) rfl rfl rfl rfl rfl rfl ?_) | ((with_reducible refine g_len ?_); first | refine lx_len_str rfl rfl rfl rfl rfl ?_) | ((with_reducible refine g_append ?_); first | refine lx_append_nil_str rfl rfl rfl rfl rfl rfl rfl rfl ?_ ?_ ?_) | ((with_reducible refine g_call ?_); first | refine lx_call (r' := .tup []) [] rfl rfl hC (ArgsLE.refl _) rfl ⟨rfl, trivial⟩ rfl rfl rfl rfl rfl rfl rfl rfl rfl rfl ?_))
  · simp [bytesT_len]; omega
  · simp [bytesT_len]; omega
  · refine q_ghost ((ghost_keep2 [4, 5] [.par 0, .loc 14] rfl rfl).trans (ghost_renL2 (.loc 14) (.res 0) rfl rfl rfl rfl)) ?_
    exact q_done (q_ret (resT_two rfl (AVLE.refl _) (AVLE.refl _)) (stHas_spec ⟨rfl, rfl, trivial⟩))
set_option maxHeartbeats 1000000 in
theorem wsU_spec (l : List T) (s : ByteArray) (hs : l.length + s.size ≤ 100000000) : Spec Try.prog 72 [.ref (.par 0) 0 0 0, .t (.str s)] (bldU l) (.tup [.t (.int .i64 s.size), .junk]) (bldR (l ++ bytesT s)) := by
  have hC := ccU_spec l
  unfold bldU at hC ⊢
  unfold bldR
  refine spec_introG (env0 := [(0, _), (1, _)]) (st0 := [(_, some _), (_, some _)]) Try.func72 rfl rfl rfl rfl ?_
  repeat' (first | (with_reducible refine codeT_seq ?_) | (with_reducible refine codeT_ret ?_) | (with_reducible refine codeT_regionL ?_) | (with_reducible refine lx_nil ?_) | (with_reducible refine q_then ?_) | ((with_reducible refine g_move ?_); first | refine lx_move (r := (.t _)) rfl rfl rfl rfl rfl ?_ | refine lx_move (r := (.ref _ _ _ _)) rfl rfl rfl rfl rfl ?_) | ((with_reducible refine g_load ?_); first | refine lx_load_var rfl rfl rfl rfl rfl rfl rfl rfl ?_) | ((with_reducible refine g_fieldAddr ?_); first | refine lx_fieldAddr rfl rfl rfl rfl rfl rfl rfl ?_) | ((with_reducible refine g_assign ?_); first | refine lx_assign (r := (.t _)) rfl rfl rfl rfl rfl ?_ | refine lx_assign (r := .junk) rfl rfl rfl rfl rfl ?_) | ((with_reducible refine g_store ?_); first | refine lx_store_var (r := (.row _)) rfl rfl rfl rfl rfl rfl rfl rfl rfl rfl ?_) | ((with_reducible refine g_nilCheck ?_); first | refine lx_nilCheck (r := (.ref _ _ _ _)) rfl rfl rfl rfl rfl rfl ?_) | ((with_reducible refine g_len ?_); first | refine lx_len_str rfl rfl rfl rfl rfl ?_) | ((with_reducible refine g_append ?_); first | refine lx_append_str rfl rfl rfl rfl rfl rfl rfl rfl rfl ?_ ?_ ?_) | ((with_reducible refine g_call ?_); first | refine lx_call (r' := .tup []) [] rfl rfl hC (ArgsLE.refl _) rfl ⟨rfl, rfl, trivial⟩ rfl rfl rfl rfl rfl rfl rfl rfl rfl rfl ?_))
  · simp [bytesT_len]; omega
  · simp [bytesT_len]; omega
  · refine q_ghost ((ghost_keep2 [4, 5] [.par 0, .loc 14] rfl rfl).trans (ghost_renL2 (.loc 14) (.res 0) rfl rfl rfl rfl)) ?_
    exact q_done (q_ret (resT_two rfl (AVLE.refl _) (AVLE.refl _)) (stHas_spec ⟨rfl, rfl, trivial⟩))
set_option maxHeartbeats 1000000 in
theorem wbU_spec (l : List T) (c : Int) (hs : l.length ≤ 100000000) : Spec Try.prog 94 [.ref (.par 0) 0 0 0, .t (.int .u8 c)] (bldU l) .junk (bldR (l ++ [.int .u8 c])) := by
  have hC := ccU_spec l
  unfold bldU at hC ⊢
  unfold bldR
  refine spec_introG (env0 := [(0, _), (1, _)]) (st0 := [(_, some _), (_, some _)]) Try.func94 rfl rfl rfl rfl ?_
  repeat' (first | (with_reducible refine codeT_seq ?_) | (with_reducible refine codeT_ret ?_) | (with_reducible refine codeT_regionL ?_) | (with_reducible refine lx_nil ?_) | (with_reducible refine q_then ?_) | ((with_reducible refine g_move ?_); first | refine lx_move (r := (.t _)) rfl rfl rfl rfl rfl ?_ | refine lx_move (r := (.ref _ _ _ _)) rfl rfl rfl rfl rfl ?_) | ((with_reducible refine g_load ?_); first | refine lx_load_var rfl rfl rfl rfl rfl rfl rfl rfl ?_) | ((with_reducible refine g_fieldAddr ?_); first | refine lx_fieldAddr rfl rfl rfl rfl rfl rfl rfl ?_) | ((with_reducible refine g_assign ?_); first | refine lx_assign (r := .junk) rfl rfl rfl rfl rfl ?_) | ((with_reducible refine g_store ?_); first | refine lx_store_var (r := (.row _)) rfl rfl rfl rfl rfl rfl rfl rfl rfl rfl ?_) | ((with_reducible refine g_nilCheck ?_); first | refine lx_nilCheck (r := (.ref _ _ _ _)) rfl rfl rfl rfl rfl rfl ?_) | ((with_reducible refine g_buildSlice ?_); first | refine lx_buildSlice rfl rfl rfl rfl rfl rfl rfl ?_) | ((with_reducible refine g_append ?_); first | refine lx_append_row rfl rfl rfl rfl rfl rfl rfl rfl rfl rfl ?_ ?_ ?_) | ((with_reducible refine g_call ?_); first | refine lx_call (r' := .tup []) [] rfl rfl hC (ArgsLE.refl _) rfl ⟨rfl, rfl, trivial⟩ rfl rfl rfl rfl rfl rfl rfl rfl rfl rfl ?_))
  · simp; omega
  · simp; omega
  · refine q_ghost ((ghost_keep2 [4] [.par 0, .loc 14] rfl rfl).trans (ghost_renL2 (.loc 14) (.res 0) rfl rfl rfl rfl)) ?_
    exact q_done (q_ret (resT_one rfl (AVLE.refl _)) (stHas_spec ⟨rfl, rfl, trivial⟩))
set_option maxHeartbeats 1000000 in
theorem strU_spec (l : List UInt8) (hs : l.length ≤ 100000000) (hne : l ≠ []) : Spec Try.prog 73 [.ref (.par 0) 0 0 0] (bldU (l.map u8T)) (.t (.str (ofL l))) [] := by
  unfold bldU
  refine spec_intro (env0 := [(0, _)]) (st0 := [(_, some _), (_, some _)]) Try.func73 rfl rfl rfl rfl ?_
  repeat' (first | (with_reducible refine codeT_seq ?_) | (with_reducible refine codeT_ret ?_) | (with_reducible refine codeT_regionL ?_) | ((with_reducible refine codeT_region_drawL ?_ ?_); · rfl) | (with_reducible refine lx_nil ?_) | (with_reducible refine q_then ?_) | ((with_reducible refine q_region_draw ?_ ?_); · rfl) | ((with_reducible refine g_move ?_); first | refine lx_move (r := (.ref _ _ _ _)) rfl rfl rfl rfl rfl ?_) | ((with_reducible refine g_load ?_); first | refine lx_load_var rfl rfl rfl rfl rfl rfl rfl rfl ?_) | ((with_reducible refine g_fieldAddr ?_); first | refine lx_fieldAddr rfl rfl rfl rfl rfl rfl rfl ?_) | ((with_reducible refine g_assign ?_); first | refine lx_assign (r := (.t _)) rfl rfl rfl rfl rfl ?_) | ((with_reducible refine g_nilCheck ?_); first | refine lx_nilCheck (r := (.ref _ _ _ _)) rfl rfl rfl rfl rfl rfl ?_) | ((with_reducible refine g_len ?_); first | refine lx_len_rowmap rfl rfl rfl rfl rfl rfl ?_) | ((with_reducible refine g_sliceData ?_); first | refine lx_sliceData rfl rfl rfl rfl rfl rfl ?_ ?_) | ((with_reducible refine g_unsafeString ?_); first | refine lx_unsafeString rfl rfl rfl rfl rfl rfl rfl rfl ?_ ?_ ?_ ?_))
  · simpa using hne
  · rfl
  · exact hne
  · omega
  · exact q_ret (resT_oneE rfl rfl rfl) (by simp)
end Go.AL
/- A library function lies in this program as the shelf of the kit has it; no condition. -/
set_option linter.unusedVariables false
namespace Go.AL
open Go Go.Proofs Go.RowKit Go.Shelf

theorem rp_a {P : Program} (t : TypeId) {d : TypeDesc} [tu : TyU P t d] (w : World) : (isAgg t).run P w = .ok (isAggD d) w := run_isAgg tu
theorem rp_z {P : Program} (t : TypeId) {s b : Nat} {z : Value} [ti : TyI P t s b z] (w : World) : (Go.sizeOf t).run P w = .ok s w := run_sizeOf ti
theorem rp_v {P : Program} (t : TypeId) {s b : Nat} {z : Value} [ti : TyI P t s b z] (w : World) : (zeroValue t).run P w = .ok z w := run_zeroValue ti

def rp_ren : Ren := ⟨fun | 99 => 110 | 105 => 93 | 165 => 111 | 166 => 72 | 169 => 73 | 170 => 112 | 206 => 123 | 212 => 109 | 240 => 98 | 241 => 124 | 263 => 121 | 264 => 122 | 276 => 114 | 277 => 132 | x => x, fun | 0 => 0 | 3 => 3 | 4 => 4 | 5 => 5 | 9 => 9 | 20 => 20 | 37 => 27 | 46 => 37 | 51 => 87 | 53 => 123 | 70 => 100 | 72 => 102 | 75 => 104 | 76 => 105 | 80 => 107 | 109 => 136 | 127 => 127 | 146 => 144 | 148 => 146 | 164 => 139 | x => x, fun x => x⟩

set_option maxRecDepth 100000 in
theorem rp_lays : Lays.n105 Try.prog rp_ren where
  mixed := by kernel_rfl
  f99 := by kernel_rfl
  f105 := by kernel_rfl
  f165 := by kernel_rfl
  f166 := by kernel_rfl
  f169 := by kernel_rfl
  f170 := by kernel_rfl
  f206 := by kernel_rfl
  f212 := by kernel_rfl
  f240 := by kernel_rfl
  f241 := by kernel_rfl
  f263 := by kernel_rfl
  f264 := by kernel_rfl
  f276 := by kernel_rfl
  f277 := by kernel_rfl
  t0 := Try.underlying0
  a0 := fun w => rp_a (P := Try.prog) (d := (TypeDesc.tuple #[])) 0 w
  z0 := fun w => rp_z 0 w
  v0 := fun w => rp_v 0 w
  t3 := Try.underlying3
  a3 := fun w => rp_a (P := Try.prog) (d := (TypeDesc.int IntKind.i64)) 3 w
  z3 := fun w => rp_z 3 w
  v3 := fun w => rp_v 3 w
  t4 := Try.underlying4
  a4 := fun w => rp_a (P := Try.prog) (d := TypeDesc.bool) 4 w
  z4 := fun w => rp_z 4 w
  v4 := fun w => rp_v 4 w
  t5 := Try.underlying5
  a5 := fun w => rp_a (P := Try.prog) (d := (TypeDesc.int IntKind.u8)) 5 w
  z5 := fun w => rp_z 5 w
  v5 := fun w => rp_v 5 w
  t9 := Try.underlying9
  a9 := fun w => rp_a (P := Try.prog) (d := TypeDesc.string) 9 w
  z9 := fun w => rp_z 9 w
  v9 := fun w => rp_v 9 w
  t20 := Try.underlying20
  a20 := fun w => rp_a (P := Try.prog) (d := (TypeDesc.interface #[])) 20 w
  z20 := fun w => rp_z 20 w
  v20 := fun w => rp_v 20 w
  t37 := Try.underlying27
  a37 := fun w => rp_a (P := Try.prog) (d := (TypeDesc.slice 5)) 27 w
  z37 := fun w => rp_z 27 w
  v37 := fun w => rp_v 27 w
  t46 := Try.underlying37
  a46 := fun w => rp_a (P := Try.prog) (d := (TypeDesc.int IntKind.u64)) 37 w
  z46 := fun w => rp_z 37 w
  v46 := fun w => rp_v 37 w
  t51 := Try.underlying87
  a51 := fun w => rp_a (P := Try.prog) (d := (TypeDesc.int IntKind.u32)) 87 w
  z51 := fun w => rp_z 87 w
  v51 := fun w => rp_v 87 w
  t53 := Try.underlying123
  a53 := fun w => rp_a (P := Try.prog) (d := (TypeDesc.int IntKind.u64)) 123 w
  z53 := fun w => rp_z 123 w
  v53 := fun w => rp_v 123 w
  t70 := Try.underlying100
  a70 := fun w => rp_a (P := Try.prog) (d := (TypeDesc.pointer 102)) 100 w
  z70 := fun w => rp_z 100 w
  v70 := fun w => rp_v 100 w
  t72 := Try.underlying102
  a72 := fun w => rp_a (P := Try.prog) (d := (TypeDesc.struct #[{ name := "addr", type := 100, offset := 0, embedded := false, tag := "", pkgPath := "strings", byteOffset := 0 }, { name := "buf", type := 27, offset := 1, embedded := false, tag := "", pkgPath := "strings", byteOffset := 8 }])) 102 w
  z72 := fun w => rp_z 102 w
  v72 := fun w => rp_v 102 w
  t75 := Try.underlying104
  a75 := fun w => rp_a (P := Try.prog) (d := (TypeDesc.interface #[("Error", 107)])) 104 w
  z75 := fun w => rp_z 104 w
  v75 := fun w => rp_v 104 w
  t76 := Try.underlying105
  a76 := fun w => rp_a (P := Try.prog) (d := (TypeDesc.tuple #[3, 104])) 105 w
  z76 := fun w => rp_z 105 w
  v76 := fun w => rp_v 105 w
  t109 := Try.underlying136
  a109 := fun w => rp_a (P := Try.prog) (d := (TypeDesc.tuple #[37, 37])) 136 w
  z109 := fun w => rp_z 136 w
  v109 := fun w => rp_v 136 w
  t127 := Try.underlying127
  a127 := fun w => rp_a (P := Try.prog) (d := (TypeDesc.pointer 5)) 127 w
  z127 := fun w => rp_z 127 w
  v127 := fun w => rp_v 127 w
  t146 := Try.underlying144
  a146 := fun w => rp_a (P := Try.prog) (d := (TypeDesc.tuple #[87, 87])) 144 w
  z146 := fun w => rp_z 144 w
  v146 := fun w => rp_v 144 w
  t148 := Try.underlying146
  a148 := fun w => rp_a (P := Try.prog) (d := (TypeDesc.tuple #[123, 123])) 146 w
  z148 := fun w => rp_z 146 w
  v148 := fun w => rp_v 146 w
  t164 := Try.underlying139
  a164 := fun w => rp_a (P := Try.prog) (d := TypeDesc.unsafePointer) 139 w
  z164 := fun w => rp_z 139 w
  v164 := fun w => rp_v 139 w
end Go.AL
/- What strings.Repeat answers. -/
set_option linter.unusedVariables false
namespace Go.AL
open Go Go.Proofs Go.RowKit Go.Shelf

theorem rp_extra : Builder.Extra Try.prog rp_ren where
  sizeBuilder := by kernel_rfl
  liesBuilder := by kernel_rfl
  t5 := Try.underlying5
  a5 := fun w => rp_a (P := Try.prog) (d := .int .u8) 5 w
  z5 := fun w => rp_z 5 w
  v5 := fun w => rp_v 5 w
  infoByte := by kernel_rfl
  cellsByte := by kernel_rfl
  sizeByte := by kernel_rfl
  neB5 := by decide
/-- A call that changes nothing of what was there. -/
theorem Spec.of_below {P : Program} {f : FuncId} {args : List AV} {r : AV} (H : ∀ h m (vs : Array Value) w, vs.size = args.length → RepAs h m (fun j => vs[j]?) 0 args → Calls P f vs w fun e w' => ∃ v, e = .returned v ∧ (∀ h' m', RepA h' m' v r) ∧ Below w.heap.size w w') : Spec P f args [] r [] where
  run h m vs w hs hv hr := (H h m vs w hv hr).mono fun e w' ⟨v, he, hv', hb⟩ => by
    refine ⟨v, h, m, he, hv' h m, ⟨fun b o hb' => ?_, fun _ _ hx => by simp [StL.get] at hx, fun _ _ _ hx => by simp [StL.get] at hx, fun _ _ _ _ _ hx => by simp [StL.get] at hx⟩, ?_⟩
    · have h1 := hs.imm b o hb'
      have hlt : b < w.heap.size := by
        rcases Nat.lt_or_ge b w.heap.size with h2 | h2
        · exact h2
        · rw [Array.getElem?_eq_none h2] at h1; cases h1
      rw [hb.block b hlt]; exact h1
    · exact ⟨⟨hb.os, hb.tape, hb.output, hb.size, fun b hb' _ => ⟨hb.block b hb', rfl⟩, fun _ _ hu => hu, fun _ _ _ hx => by simp [StL.get] at hx⟩, fun _ => rfl⟩
theorem Repeat_spec (s : ByteArray) (c : Nat) (hc : c ≤ 9223372036854775807) (hl : s.size * c ≤ 140737488355328) : Spec Try.prog 93 [.t (.str s), .t (.int .i64 (c : Int))] [] (.t (.str ⟨(Lib.repeatL s.data.toList c).toArray⟩)) [] :=
  Spec.of_below fun h m vs w hv hr => by
    simp only [RepAs, RepA, RepT, and_true] at hr
    obtain ⟨⟨u0, h0, rfl⟩, u1, h1, rfl⟩ := hr
    have hv2 : vs.size = 2 := hv
    have e : vs = #[.string s, .int .i64 c] := by
      apply Array.ext
      · simpa using hv2
      · intro i h1' h2'
        have : i = 0 ∨ i = 1 := by omega
        rcases this with rfl | rfl
        · rw [Array.getElem?_eq_getElem h1'] at h0; simpa using h0
        · rw [Array.getElem?_eq_getElem h1'] at h1; simpa using h1
    subst e
    exact (Any.strings_Repeat rp_lays rp_extra s c w hc hl).mono fun e w' ⟨he, hb⟩ => ⟨_, he, fun h' m' => by simp [RepA, RepT], hb⟩
theorem repeat_one (b : UInt8) : ∀ c : Nat, Lib.repeatL [b] c = List.replicate c b
  | 0 => rfl
  | c + 1 => by rw [Lib.repeatL, repeat_one b c, List.replicate_succ]; rfl
end Go.AL
/- What the padding of strings answers, in the program and in the document. -/
set_option linter.unusedVariables false
namespace Go.AL
open Go Go.Proofs Go.RowKit

theorem shrB (n c : Nat) : IntKind.u8.wrap ((n : Int) / 2 ^ (8 * c)) = ((UInt8.ofNat (n / 256 ^ c)).toNat : Int) := by
  have e : (2 : Int) ^ (8 * c) = ((256 ^ c : Nat) : Int) := by
    have : (256 : Nat) ^ c = 2 ^ (8 * c) := by rw [Nat.pow_mul]
    rw [this]; simp
  rw [e]
  simp only [IntKind.wrap, IntKind.bits, IntKind.signed, Bool.false_and, Bool.false_eq_true, if_false]
  rw [UInt8.toNat_ofNat']
  omega
theorem strT_map (l : List UInt8) : strT (l.map u8T) = ofL l := by
  unfold strT strOfNums ofL
  rw [List.map_map, List.map_map]
  have : (((fun n => UInt8.ofNat n.toNat) ∘ T.num) ∘ u8T) = id := by
    funext b
    show UInt8.ofNat ((b.toNat : Int).toNat) = b
    simp
  rw [this, List.map_id]
theorem isU8_map (l : List UInt8) : IsU8 (l.map u8T) := by
  intro e he
  obtain ⟨b, _, rfl⟩ := List.mem_map.1 he
  rfl
theorem bytesT_map (s : ByteArray) : bytesT s = s.data.toList.map u8T := rfl
set_option maxHeartbeats 4000000 in
theorem rest_spec (left : ByteArray) (n : Nat) (hl : left.size ≤ 50000000) (hn : n ≤ 100000000) : Spec Try.prog 62 [.t (.str left), .t (.int .i64 (n : Int))] [] (.t (.str (ofL (restL left.data.toList n)))) [] := by
  obtain ⟨z, hz⟩ : ∃ z : Nat, z = (119 - left.size % 64) % 64 := ⟨_, rfl⟩
  have hz63 : z ≤ 63 := by omega
  have hz1 : (left.size : Int).tmod 64 = ((left.size % 64 : Nat) : Int) := by rw [Int.tmod_eq_emod_of_nonneg (by omega)]; omega
  have hz2 : (IntKind.i64.wrap (119 - (left.size : Int).tmod 64)).tmod 64 = (z : Int) := by
    rw [hz1, wrap64 (by omega) (by omega), Int.tmod_eq_emod_of_nonneg (by omega), hz]; omega
  have hR := Repeat_spec ⟨#[0]⟩ z (by omega) (by show 1 * z ≤ _; omega)
  rw [show (⟨#[0]⟩ : ByteArray).data.toList = [0] from rfl, repeat_one] at hR
  rw [← hz2] at hR
  obtain ⟨Z, hZ⟩ : ∃ Z : ByteArray, Z = ⟨(List.replicate z (0 : UInt8)).toArray⟩ := ⟨_, rfl⟩
  have hZs : Z.size = z := by rw [hZ]; simp [ByteArray.size]
  have hZl : Z.data.toList = List.replicate z 0 := by rw [hZ]
  rw [← hZ] at hR
  have h1 := wsN_spec left (by omega)
  have h2 := wbU_spec (bytesT left) 128 (by rw [bytesT_len]; omega)
  have h3 := wsU_spec (bytesT left ++ [.int .u8 128]) Z (by rw [List.length_append, bytesT_len]; simp; omega)
  have h4 := fun es c h => wbU_spec es c h
  have h5 := fun l h h' => strU_spec l h h'
  unfold bldN bldR at h1
  unfold bldU bldR at h2 h3 h4
  unfold bldU at h5
  refine spec_intro (env0 := [(0, _), (1, _)]) (st0 := []) Try.func62 rfl rfl rfl rfl ?_
  repeat' (first | (with_reducible refine codeT_seq ?_) | (with_reducible refine codeT_block ?_) | (with_reducible refine codeT_regionL ?_) | (with_reducible refine lx_nil ?_) | (with_reducible refine q_then ?_) | ((with_reducible refine g_move ?_); first | refine lx_move (r := (.t _)) rfl rfl rfl rfl rfl ?_) | ((with_reducible refine g_binOp ?_); first | refine lx_arith rfl rfl rfl rfl rfl rfl rfl ?_ | refine lx_rem rfl rfl rfl rfl rfl rfl (by decide) ?_) | ((with_reducible refine g_assign ?_); first | refine lx_assign (r := (.t _)) rfl rfl rfl rfl rfl ?_) | ((with_reducible refine g_alloc ?_); first | refine lx_alloc rfl rfl rfl rfl rfl rfl rfl ?_) | ((with_reducible refine g_convert ?_); first | refine lx_conv_int rfl rfl rfl rfl rfl ?_) | ((with_reducible refine g_len ?_); first | refine lx_len_str rfl rfl rfl rfl rfl ?_) | ((with_reducible refine g_call ?_); first | refine lx_call (r' := .tup [_, _]) [(.par 0, .loc 6), (.res 0, .loc 901)] rfl rfl h1 (ArgsLE.refl _) rfl ⟨rfl, trivial⟩ rfl rfl rfl rfl rfl rfl rfl rfl rfl rfl ?_ | refine lx_call (r' := .junk) [(.par 0, .loc 6), (.par 1, .loc 901), (.res 0, .loc 902)] rfl rfl h2 (ArgsLE.refl _) rfl ⟨rfl, rfl, trivial⟩ rfl rfl rfl rfl rfl rfl rfl rfl rfl rfl ?_ | refine lx_callT rfl rfl hR rfl rfl (ArgsLE.refl _) rfl rfl rfl rfl rfl ?_ | refine lx_call (r' := .tup [_, _]) [(.par 0, .loc 6), (.par 1, .loc 902), (.res 0, .loc 903)] rfl rfl h3 (ArgsLE.refl _) rfl ⟨rfl, rfl, trivial⟩ rfl rfl rfl rfl rfl rfl rfl rfl rfl rfl ?_))
  rw [wrapU64h (n := (n : Int)) (by omega) (by omega), wrapU64h (n := (n : Int) * 8) (by omega) (by omega), show (n : Int) * 8 = ((8 * n : Nat) : Int) by omega]
  refine codeT_ghost (ghost_keep2 [6, 7, 8] [.loc 6, .loc 903] rfl rfl) ?_
  refine codeT_loop (fun p env st => ∃ (c : Nat) (es : List T), c ≤ 8 ∧ p = c ∧ es.length ≤ 90000000 - c ∧ es ++ (bigL c (8 * n)).map u8T = (restL left.data.toList n).map u8T ∧
      env = EnvL.get [(6, .ref (.loc 6) 0 0 0), (7, .t (.int .u64 ((8 * n : Nat) : Int))), (8, .t (.int .i64 ((c : Int) - 1)))] ∧
      st = StO.get [(.loc 6, some (.var 102 [.ref (.loc 6) 0 0 0, .row (.loc 903)])), (.loc 903, some (.slt 5 1 es))])
    ?_ (n := 8) ⟨8, bytesT left ++ [.int .u8 128] ++ bytesT Z, by omega, rfl, ?_, ?_, rfl, rfl⟩
  rotate_left
  · simp only [List.length_append, bytesT_len, List.length_cons, List.length_nil]; omega
  · rw [bytesT_map, bytesT_map, hZl]
    unfold restL
    rw [show (119 - left.data.toList.length % 64) % 64 = z by rw [hz]; rfl]
    simp only [List.map_append, List.map_cons, List.append_assoc]
    rfl
  clear h1 h2 h3 hR
  rintro p env st ⟨c, es, hc8, rfl, hlen, hi, rfl, rfl⟩
  have h4 := fun x => h4 es x (by omega)
  by_cases hp : p = 0
  · subst hp
    simp only [bigL, List.map_nil, List.append_nil] at hi
    subst hi
    have h5 := h5 (restL left.data.toList n) (by rw [restL_len]; simp; omega) (by unfold restL; simp)
    repeat' (first | (with_reducible refine codeT_seq ?_) | (with_reducible refine codeT_ret ?_) | (with_reducible refine codeT_exit ?_) | (with_reducible refine codeT_regionL ?_) | (with_reducible refine lx_nil ?_) | (with_reducible refine q_then ?_) | (with_reducible refine q_then_exit ?_) | ((with_reducible refine q_block_same ?_ ?_); · rfl) | (with_reducible refine q_loop_exit ?_) | refine c_condF rfl ?_ | ((with_reducible refine g_move ?_); first | refine lx_move (r := (.t _)) rfl rfl rfl rfl rfl ?_) | ((with_reducible refine g_binOp ?_); first | refine lx_arith rfl rfl rfl rfl rfl rfl rfl ?_) | ((with_reducible refine g_assign ?_); first | refine lx_assign (r := (.t _)) rfl rfl rfl rfl rfl ?_) | ((with_reducible refine g_call ?_); first | refine lx_call (r' := .t (.str _)) [(.par 0, .loc 6), (.par 1, .loc 903)] rfl rfl h5 (ArgsLE.refl _) rfl ⟨rfl, rfl, trivial⟩ rfl rfl rfl rfl rfl rfl rfl rfl rfl rfl ?_))
    exact q_ret (resT_oneE rfl rfl rfl) (by simp)
  · obtain ⟨c, rfl⟩ : ∃ c, p = c + 1 := ⟨p - 1, by omega⟩
    have e : (min (IntKind.i64.wrap (8 * (((c + 1 : Nat) : Int) - 1))).toNat IntKind.u64.bits) = 8 * c := by
      rw [wrap64 (by omega) (by omega)]
      have : IntKind.u64.bits = 64 := rfl
      omega
    repeat' (first | (with_reducible refine codeT_seq ?_) | (with_reducible refine codeT_block ?_) | (with_reducible refine codeT_skip ?_) | (with_reducible refine codeT_exit ?_) | (with_reducible refine codeT_regionL ?_) | (with_reducible refine lx_nil ?_) | (with_reducible refine q_then ?_) | (with_reducible refine q_then_exit ?_) | (with_reducible refine q_block ?_) | ((with_reducible refine q_block_same ?_ ?_); · rfl) | (with_reducible refine q_loop_exit ?_) | ((with_reducible refine g_move ?_); first | refine lx_move (r := (.t _)) rfl rfl rfl rfl rfl ?_) | ((with_reducible refine g_binOp ?_); first | refine lx_arith rfl rfl rfl rfl rfl rfl rfl ?_ | refine lx_shr rfl rfl rfl rfl rfl rfl ?_ ?_) | ((with_reducible refine g_assign ?_); first | refine lx_assign (r := (.t _)) rfl rfl rfl rfl rfl ?_) | ((with_reducible refine g_convert ?_); first | refine lx_conv_int rfl rfl rfl rfl rfl ?_) | ((with_reducible refine g_call ?_); first | refine lx_call (r' := .junk) [(.par 0, .loc 6), (.par 1, .loc 903), (.res 0, .loc 904)] rfl rfl (h4 _) (ArgsLE.refl _) rfl ⟨rfl, rfl, trivial⟩ rfl rfl rfl rfl rfl rfl rfl rfl rfl rfl ?_) | refine c_condP rfl (fun hc => ?_) (fun hc => ?_))
    · rw [wrap64 (by omega) (by omega)]; omega
    · rw [e, shrB]
      refine q_loop (n' := c) (by omega) ((ghost_keep2 [6, 7, 8] [.loc 6, .loc 904] rfl rfl).trans (ghost_renL2 (.loc 904) (.loc 903) rfl rfl rfl rfl)) ⟨c, es ++ [.int .u8 ((UInt8.ofNat (8 * n / 256 ^ c)).toNat : Int)], by omega, rfl, by rw [List.length_append]; simp; omega, ?_, ?_, rfl⟩
      · rw [← hi, List.append_assoc]; rfl
      · rw [wrap64 (by omega) (by omega), show ((c + 1 : Nat) : Int) - 1 - 1 = (c : Int) - 1 by omega]; rfl
    · exfalso; omega
set_option maxHeartbeats 4000000 in
theorem qpad_spec (s : ByteArray) (hl : s.size ≤ 50000000) : Spec Try.prog 63 [.t (.str s)] [] (.t (.str (ofL (padL s.data.toList)))) [] := by
  unfold padL
  obtain ⟨n, hn⟩ : ∃ n, n = s.size := ⟨_, rfl⟩
  have hn2 : s.data.toList.length = n := by rw [hn]; rfl
  obtain ⟨z, hz⟩ : ∃ z : Nat, z = (119 - n % 64) % 64 := ⟨_, rfl⟩
  refine spec_intro (env0 := [(0, _)]) (st0 := []) Try.func63 rfl rfl rfl rfl ?_
  repeat' (first | (with_reducible refine codeT_seq ?_) | (with_reducible refine codeT_block ?_) | (with_reducible refine codeT_regionL ?_) | (with_reducible refine lx_nil ?_) | (with_reducible refine q_then ?_) | ((with_reducible refine g_move ?_); first | refine lx_move (r := (.t _)) rfl rfl rfl rfl rfl ?_) | ((with_reducible refine g_assign ?_); first | refine lx_assign (r := (.t _)) rfl rfl rfl rfl rfl ?_ | refine lx_assign (r := (.row _)) rfl rfl rfl rfl rfl ?_) | ((with_reducible refine g_convert ?_); first | refine lx_toBytes rfl rfl rfl rfl rfl rfl ?_ ?_) | ((with_reducible refine g_buildSlice ?_); first | refine lx_buildSlice rfl rfl rfl rfl rfl rfl rfl ?_) | ((with_reducible refine g_append ?_); first | refine lx_append_row rfl rfl rfl rfl rfl rfl rfl rfl rfl rfl ?_ ?_ ?_))
  · omega
  · rw [bytesT_len]; simp; omega
  · rw [bytesT_len]; simp; omega
  refine codeT_ghost (ghost_keep2 [0, 3] [.loc 8] rfl rfl) ?_
  refine codeT_loop (fun p env st => ∃ (j : Nat) (es : List T), j ≤ z ∧ p = z - j ∧ es = bytesT s ++ ([.int .u8 128] ++ (List.replicate j (0 : UInt8)).map u8T) ∧
      env = EnvL.get [(0, .t (.str s)), (3, .row (.loc 8))] ∧ st = StO.get [(.loc 8, some (.slt 5 1 es))])
    ?_ (n := z) ⟨0, _, by omega, rfl, rfl, rfl, by simp; rfl⟩
  rintro p env st ⟨j, es, hj, rfl, hes, rfl, rfl⟩
  have hel : es.length = n + 1 + j := by rw [hes]; simp [bytesT_len]; omega
  have hm : ((es.length : Int)).tmod 64 = ((n + 1 + j) % 64 : Nat) := by rw [hel, Int.tmod_eq_emod_of_nonneg (by omega)]; omega
  by_cases hjz : j = z
  · subst hjz
    have h56 : (n + 1 + j) % 64 = 56 := by omega
    repeat' (first | (with_reducible refine codeT_seq ?_) | (with_reducible refine codeT_block ?_) | (with_reducible refine codeT_skip ?_) | (with_reducible refine codeT_exit ?_) | (with_reducible refine codeT_regionL ?_) | (with_reducible refine lx_nil ?_) | (with_reducible refine q_then ?_) | (with_reducible refine q_then_exit ?_) | (with_reducible refine q_block ?_) | ((with_reducible refine q_block_same ?_ ?_); · rfl) | (with_reducible refine q_loop_exit ?_) | ((with_reducible refine g_move ?_); first | refine lx_move (r := (.row _)) rfl rfl rfl rfl rfl ?_) | ((with_reducible refine g_binOp ?_); first | refine lx_arith rfl rfl rfl rfl rfl rfl rfl ?_ | refine lx_rem rfl rfl rfl rfl rfl rfl (by decide) ?_) | ((with_reducible refine g_assign ?_); first | refine lx_assign (r := (.t _)) rfl rfl rfl rfl rfl ?_ | refine lx_assign (r := (.row _)) rfl rfl rfl rfl rfl ?_) | ((with_reducible refine g_buildSlice ?_); first | refine lx_buildSlice rfl rfl rfl rfl rfl rfl rfl ?_) | ((with_reducible refine g_len ?_); first | refine lx_len_row rfl rfl rfl rfl rfl rfl ?_) | ((with_reducible refine g_append ?_); first | refine lx_append_row rfl rfl rfl rfl rfl rfl rfl rfl rfl rfl ?_ ?_ ?_) | refine c_condN rfl (fun hc => ?_) (fun hc => ?_))
    all_goals try (exfalso; omega)
    refine codeT_ghost (ghost_keep2 [0, 3, 4] [.loc 8] rfl rfl) ?_
    refine codeT_loop (fun p env st => ∃ (c : Nat) (es : List T), c ≤ 8 ∧ p = c ∧ es.length ≤ 90000000 - c ∧ es ++ (bigL c (8 * n)).map u8T = (restL s.data.toList n).map u8T ∧
        env = EnvL.get [(0, .t (.str s)), (3, .row (.loc 8)), (4, .t (.int .i64 (8 * (c : Int) - 8)))] ∧ st = StO.get [(.loc 8, some (.slt 5 1 es))])
      ?_ (n := 8) ⟨8, es, by omega, rfl, by omega, ?_, rfl, rfl⟩
    rotate_left
    · rw [hes, bytesT_map]
      unfold restL
      rw [hn2, ← hz]
      simp only [List.map_append, List.map_cons, List.append_assoc]
      rfl
    clear hes hel hm
    rintro p env st ⟨c, es, hc8, rfl, hlen, hi, rfl, rfl⟩
    by_cases hp : p = 0
    · subst hp
      simp only [bigL, List.map_nil, List.append_nil] at hi
      subst hi
      repeat' (first | (with_reducible refine codeT_seq ?_) | (with_reducible refine codeT_ret ?_) | (with_reducible refine codeT_exit ?_) | (with_reducible refine codeT_regionL ?_) | (with_reducible refine lx_nil ?_) | (with_reducible refine q_then ?_) | (with_reducible refine q_then_exit ?_) | ((with_reducible refine q_block_same ?_ ?_); · rfl) | (with_reducible refine q_loop_exit ?_) | refine c_condF rfl ?_ | ((with_reducible refine g_move ?_); first | refine lx_move (r := (.t _)) rfl rfl rfl rfl rfl ?_ | refine lx_move (r := (.row _)) rfl rfl rfl rfl rfl ?_) | ((with_reducible refine g_binOp ?_); first | refine lx_arith rfl rfl rfl rfl rfl rfl rfl ?_) | ((with_reducible refine g_assign ?_); first | refine lx_assign (r := (.t _)) rfl rfl rfl rfl rfl ?_) | ((with_reducible refine g_convert ?_); first | refine lx_ofBytes_row rfl rfl rfl rfl rfl rfl ?_ ?_))
      · exact isU8_map _
      · exact q_ret (resT_oneE rfl rfl (congrArg T.str (by rw [strT_map, hn2]))) (by simp)
    · obtain ⟨c, rfl⟩ : ∃ c, p = c + 1 := ⟨p - 1, by omega⟩
      have e0 : IntKind.u64.wrap (8 * ((c + 1 : Nat) : Int) - 8) = ((8 * c : Nat) : Int) := by rw [wrapU64h (by omega) (by omega)]; omega
      have e1 : min ((8 * c : Nat) : Int).toNat IntKind.u64.bits = 8 * c := by
        have : IntKind.u64.bits = 64 := rfl
        omega
      have e2 : IntKind.u64.wrap (IntKind.u64.wrap (s.size : Int) * 8) = ((8 * n : Nat) : Int) := by rw [wrapU64h (n := (s.size : Int)) (by omega) (by omega), wrapU64h (by omega) (by omega)]; omega
      repeat' (first | (with_reducible refine codeT_seq ?_) | (with_reducible refine codeT_block ?_) | (with_reducible refine codeT_skip ?_) | (with_reducible refine codeT_ret ?_) | (with_reducible refine codeT_exit ?_) | (with_reducible refine codeT_regionL ?_) | (with_reducible refine lx_nil ?_) | (with_reducible refine q_then ?_) | (with_reducible refine q_then_exit ?_) | (with_reducible refine q_block ?_) | ((with_reducible refine q_block_same ?_ ?_); · rfl) | (with_reducible refine q_loop_exit ?_) | ((with_reducible refine g_move ?_); first | refine lx_move (r := (.t _)) rfl rfl rfl rfl rfl ?_ | refine lx_move (r := (.row _)) rfl rfl rfl rfl rfl ?_) | ((with_reducible refine g_binOp ?_); first | refine lx_arith rfl rfl rfl rfl rfl rfl rfl ?_ | refine lx_shr rfl rfl rfl rfl rfl rfl ?_ ?_) | ((with_reducible refine g_assign ?_); first | refine lx_assign (r := (.t _)) rfl rfl rfl rfl rfl ?_ | refine lx_assign (r := (.row _)) rfl rfl rfl rfl rfl ?_) | ((with_reducible refine g_convert ?_); first | refine lx_conv_int rfl rfl rfl rfl rfl ?_ | refine lx_ofBytes_row rfl rfl rfl rfl rfl rfl ?_ ?_) | ((with_reducible refine g_buildSlice ?_); first | refine lx_buildSlice rfl rfl rfl rfl rfl rfl rfl ?_) | ((with_reducible refine g_len ?_); first | refine lx_len_str rfl rfl rfl rfl rfl ?_) | ((with_reducible refine g_append ?_); first | refine lx_append_row rfl rfl rfl rfl rfl rfl rfl rfl rfl rfl ?_ ?_ ?_) | refine c_condP rfl (fun hc => ?_) (fun hc => ?_))
      · rw [e0]; omega
      · simp; omega
      · simp; omega
      · rw [e0, e1, e2, shrB]
        refine q_loop (n' := c) (by omega) ((ghost_keep2 [0, 3, 4] [.loc 30] rfl rfl).trans (ghost_renL2 (.loc 30) (.loc 8) rfl rfl rfl rfl)) ⟨c, es ++ [.int .u8 ((UInt8.ofNat (8 * n / 256 ^ c)).toNat : Int)], by omega, rfl, by rw [List.length_append]; simp; omega, ?_, ?_, rfl⟩
        · rw [← hi, List.append_assoc]; rfl
        · rw [wrap64 (by omega) (by omega), show 8 * ((c + 1 : Nat) : Int) - 8 - 8 = 8 * (c : Int) - 8 by omega]; rfl
      all_goals (exfalso; omega)
  · repeat' (first | (with_reducible refine codeT_seq ?_) | (with_reducible refine codeT_block ?_) | (with_reducible refine codeT_skip ?_) | (with_reducible refine codeT_exit ?_) | (with_reducible refine codeT_regionL ?_) | (with_reducible refine lx_nil ?_) | (with_reducible refine q_then ?_) | (with_reducible refine q_then_exit ?_) | (with_reducible refine q_block ?_) | ((with_reducible refine q_block_same ?_ ?_); · rfl) | (with_reducible refine q_loop_exit ?_) | ((with_reducible refine g_move ?_); first | refine lx_move (r := (.row _)) rfl rfl rfl rfl rfl ?_) | ((with_reducible refine g_binOp ?_); first | refine lx_arith rfl rfl rfl rfl rfl rfl rfl ?_ | refine lx_rem rfl rfl rfl rfl rfl rfl (by decide) ?_) | ((with_reducible refine g_assign ?_); first | refine lx_assign (r := (.t _)) rfl rfl rfl rfl rfl ?_ | refine lx_assign (r := (.row _)) rfl rfl rfl rfl rfl ?_) | ((with_reducible refine g_buildSlice ?_); first | refine lx_buildSlice rfl rfl rfl rfl rfl rfl rfl ?_) | ((with_reducible refine g_len ?_); first | refine lx_len_row rfl rfl rfl rfl rfl rfl ?_) | ((with_reducible refine g_append ?_); first | refine lx_append_row rfl rfl rfl rfl rfl rfl rfl rfl rfl rfl ?_ ?_ ?_) | refine c_condN rfl (fun hc => ?_) (fun hc => ?_))
    · exfalso; rw [hm] at hc; omega
    · simp; omega
    · simp; omega
    · refine q_loop (n' := z - (j + 1)) (by omega) ((ghost_keep2 [0, 3] [.loc 15] rfl rfl).trans (ghost_renL2 (.loc 15) (.loc 8) rfl rfl rfl rfl)) ⟨j + 1, es ++ [.int .u8 0], by omega, rfl, ?_, rfl, rfl⟩
      rw [hes, List.replicate_succ', List.map_append, List.append_assoc, List.append_assoc]; rfl
def padR (s : ByteArray) : ByteArray × Int := if 1048576 < s.size then (⟨#[]⟩, 3) else (ofL (padL s.data.toList), 0)
end Go.AL
